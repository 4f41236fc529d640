/- The walk of the law IntervalMeaning. -/
import Derived.Test.YteodoehhkhacoaaLaw11G
import Derived.Test.YteodoehhkhacoaaCalmP
import Derived.BigQuiet
import Derived.Deep.QuietTactic
namespace Go.Proofs.Yteodoehhkhacoaa
open Go.RowKit
set_option linter.unusedSimpArgs false
set_option linter.unusedVariables false

theorem hdB_iff {a b t : Int} (h : vS a b = true) : hdB a b t = true ↔ a ≤ t ∧ t ≤ b := by simp [hdB, h]
theorem hdB_zero (t : Int) (h : t ≠ 0) : hdB 0 0 t = false := by
  rcases e : hdB 0 0 t
  · rfl
  · have := (hdB_iff (show vS 0 0 = true by decide)).1 e; omega
theorem hdB_no {a b t : Int} (h : vS a b = true) (h' : ¬ (a ≤ t ∧ t ≤ b)) : hdB a b t = false := by
  rcases e : hdB a b t
  · rfl
  · exact absurd ((hdB_iff h).1 e) h'
theorem withinRB (v n : Int) (w : World) (hn : 1 ≤ n) (hn2 : n ≤ 9223372036854775807) : Calls Try.prog 38 #[.int .i64 v, .int .i64 n] w (RB w (.int .i64 (v % n))) := (wwithinW v n w hn hn2).mono fun _ _ ⟨h1, h2⟩ => ⟨h1, h2 ▸ Below.refl _ _⟩
/-- What the law says of the instants, in plain numbers. -/
structure MeanF (xl xh T yl yh U ml mh : Int) (inn on ok hm hyt hh hs hr hw : Bool) : Prop where
  i1 : inn = true → xl ≤ T ∧ T ≤ xh
  i0 : inn = false → ¬ (xl ≤ T ∧ T ≤ xh)
  m : ok = true → inn = true → hm = hyt
  m1 : ok = true → inn = false → hm = false
  m0 : ok = false → inn = true → hyt = false
  h : inn = true → hh = true
  s : inn = true → on = true → hs = true ∧ hr = true
  w : hw = inn
theorem meanF {xl xh yl yh T U : Int} (hx : vS xl xh = true) (hy : vS yl yh = true) (x1 : -1000 ≤ xl) (x3 : xh ≤ 1500) (y1 : -1000 ≤ yl) (y3 : yh ≤ 1500) (u1 : -100000 ≤ U) (u2 : U ≤ 100000) :
    MeanF xl xh T yl yh U (mtLo xl xh yl yh) (mtHi xl xh yl yh) (hdB xl xh T) (hdB yl yh U) (mtB xl xh yl yh) (hdB (mtLo xl xh yl yh) (mtHi xl xh yl yh) T) (hdB yl yh T) (hdB (min xl yl) (max xh yh) T) (hdB (xl + yl) (xh + yh) (T + U)) (hdB (xl - yh) (xh - yl) (T - U)) (hdB (xl + U) (xh + U) (T + U)) := by
  have kx := (vS_true.1 hx).2.1
  have ky := (vS_true.1 hy).2.1
  have e1 := hdB_iff (t := T) hx
  have e2 := hdB_iff (t := T) hy
  have e3 := hdB_iff (t := U) hy
  refine ⟨e1.1, fun h h' => (by rw [e1.2 h'] at h; cases h), fun h1 h2 => ?_, fun h1 h2 => ?_, fun h1 h2 => ?_, fun h1 => ?_, fun h1 h2 => ?_, ?_⟩
  · have k := (mtB_iff hx hy).1 h1
    rw [mtLo_yes h1, mtHi_yes h1]
    have hm : vS (max xl yl) (min xh yh) = true := vS_true.2 (by omega)
    have g := e1.1 h2
    rcases e : hdB yl yh T
    · exact hdB_no hm (fun h => by have := e2.2 (by omega); rw [e] at this; cases this)
    · have := e2.1 e; exact (hdB_iff hm).2 (by omega)
  · have k := (mtB_iff hx hy).1 h1
    rw [mtLo_yes h1, mtHi_yes h1]
    have hm : vS (max xl yl) (min xh yh) = true := vS_true.2 (by omega)
    exact hdB_no hm (fun h => by have := e1.2 (by omega); rw [h2] at this; cases this)
  · have g := e1.1 h2
    refine hdB_no hy (fun h => ?_)
    have := (mtB_iff hx hy).2 (by omega)
    rw [h1] at this; cases this
  · have g := e1.1 h1
    exact (hdB_iff (vS_true.2 (by omega))).2 (by omega)
  · have g := e1.1 h1
    have g2 := e3.1 h2
    exact ⟨(hdB_iff (vS_true.2 (by omega))).2 (by omega), (hdB_iff (vS_true.2 (by omega))).2 (by omega)⟩
  · have hw : vS (xl + U) (xh + U) = true := vS_true.2 (by omega)
    rcases e : hdB xl xh T
    · exact hdB_no hw (fun h => by have := e1.2 (by omega); rw [e] at this; cases this)
    · have := e1.1 e; exact (hdB_iff hw).2 (by omega)

set_option maxRecDepth 100000 in
set_option maxHeartbeats 8000000 in
theorem intervalMeaning_core (a b c d t u : Int) (w : World) :
    Calls Try.prog 11 #[.int .i64 a, .int .i64 b, .int .i64 c, .int .i64 d, .int .i64 t, .int .i64 u] w (RB w (.bool true)) := by
  have r1 := wspanW a b
  have r2 := wspanW c d
  have r3 := fun w => (wwithinW t 700 w (by omega) (by omega)).mono fun _ _ h => (⟨h.1, h.2.symm⟩ : _ ∧ _)
  have r4 := fun w => (wwithinW u 700 w (by omega) (by omega)).mono fun _ _ h => (⟨h.1, h.2.symm⟩ : _ ∧ _)
  have hx := world_span (a := a) (b := b)
  have hy := world_span (a := c) (b := d)
  have xl1 : -1000 ≤ a % 2000 - 1000 := by omega
  have xl2 : a % 2000 - 1000 ≤ a % 2000 - 1000 + b % 500 := by omega
  have xl3 : a % 2000 - 1000 + b % 500 ≤ 1500 := by omega
  generalize a % 2000 - 1000 + b % 500 = xh at *
  generalize a % 2000 - 1000 = xl at *
  have yl1 : -1000 ≤ c % 2000 - 1000 := by omega
  have yl2 : c % 2000 - 1000 ≤ c % 2000 - 1000 + d % 500 := by omega
  have yl3 : c % 2000 - 1000 + d % 500 ≤ 1500 := by omega
  generalize c % 2000 - 1000 + d % 500 = yh at *
  generalize c % 2000 - 1000 = yl at *
  have hs : vS (xl + yl) (xh + yh) = true := vS_true.2 (by omega)
  have hr : vS (xl - yh) (xh - yl) = true := vS_true.2 (by omega)
  have hh : vS (min xl yl) (max xh yh) = true := vS_true.2 (by omega)
  have gA := insB_yes hx hh (by omega) (by omega)
  have gB := insB_yes hy hh (by omega) (by omega)
  have w3 : wid xl xh = xh - xl := by unfold wid; rw [if_pos hx]
  have w4 : wid yl yh = yh - yl := by unfold wid; rw [if_pos hy]
  have w5 : wid (xl + yl) (xh + yh) = (xh - xl) + (yh - yl) := by unfold wid; rw [if_pos hs]; omega
  have w6 : wid (xl - yh) (xh - yl) = (xh - xl) + (yh - yl) := by unfold wid; rw [if_pos hr]; omega
  obtain ⟨sw, hsw⟩ : ∃ v, v = (xh - xl) + (yh - yl) := ⟨_, rfl⟩
  have v7 : IntKind.i64.wrap ((xh - xl) + (yh - yl)) = sw := by rw [wrapI (by omega) (by omega)]; exact hsw.symm
  rw [← hsw] at w5 w6
  clear hsw
  have n1 : 0 ≤ t % 700 := by omega
  have n2 : t % 700 < 700 := by omega
  have m1 : 0 ≤ u % 700 := by omega
  have m2 : u % 700 < 700 := by omega
  generalize t % 700 = n at *
  generalize u % 700 = m at *
  obtain ⟨T, hT⟩ : ∃ v, v = xl + n - 100 := ⟨_, rfl⟩
  obtain ⟨U, hU⟩ : ∃ v, v = yl + m - 100 := ⟨_, rfl⟩
  obtain ⟨xn, hxn⟩ : ∃ v, v = xl + n := ⟨_, rfl⟩
  obtain ⟨ym, hym⟩ : ∃ v, v = yl + m := ⟨_, rfl⟩
  have v1 : IntKind.i64.wrap (xl + n) = xn := by rw [wrapI (by omega) (by omega)]; exact hxn.symm
  have v2 : IntKind.i64.wrap (xn - 100) = T := by rw [wrapI (by omega) (by omega)]; omega
  have v3 : IntKind.i64.wrap (yl + m) = ym := by rw [wrapI (by omega) (by omega)]; exact hym.symm
  have v4 : IntKind.i64.wrap (ym - 100) = U := by rw [wrapI (by omega) (by omega)]; omega
  obtain ⟨TU, hTU⟩ : ∃ v, v = T + U := ⟨_, rfl⟩
  obtain ⟨TD, hTD⟩ : ∃ v, v = T - U := ⟨_, rfl⟩
  have v5 : IntKind.i64.wrap (T + U) = TU := by rw [wrapI (by omega) (by omega)]; exact hTU.symm
  have v6 : IntKind.i64.wrap (T - U) = TD := by rw [wrapI (by omega) (by omega)]; exact hTD.symm
  have F := meanF (T := T) (U := U) hx hy xl1 xl3 yl1 yl3 (by omega) (by omega)
  have hw : vS (xl + U) (xh + U) = true := vS_true.2 (by omega)
  have hvU : vT U = true := vT_true.2 (by omega)
  clear hT hU hxn hym n1 n2 m1 m2 xl1 xl2 xl3 yl1 yl2 yl3
  rw [← hTU, ← hTD] at F
  clear hTU hTD
  have q1 := imeet_all xl xh yl yh
  have q2 := ihull_all xl xh yl yh
  rw [show hulV xl xh yl yh = .tuple #[.agg #[.int .i64 (min xl yl), .int .i64 (max xh yh)], .int .i64 0] from by unfold hulV; rw [hx, hy]; rfl] at q2
  have q3 := iadd_all xl xh yl yh
  rw [addOK hx hy rfl rfl hs] at q3
  have q4 := isub_all xl xh yl yh
  rw [subOK hx hy rfl rfl hr] at q4
  have q5 := ishift_all xl xh U
  rw [shiftOK hx hvU rfl rfl hw] at q5
  have k1 := iholds_all xl xh T
  have k2 := iholds_all yl yh U
  have k3 := iholds_all (mtLo xl xh yl yh) (mtHi xl xh yl yh) T
  have k4 := iholds_all yl yh T
  have k5 := iholds_all (min xl yl) (max xh yh) T
  have k6 := iholds_all (xl + yl) (xh + yh) TU
  have k7 := iholds_all (xl - yh) (xh - yl) TD
  have k8 := iholds_all (xl + U) (xh + U) TU
  have g1 := iinside_all xl xh (min xl yl) (max xh yh)
  rw [gA] at g1
  have g2 := iinside_all yl yh (min xl yl) (max xh yh)
  rw [gB] at g2
  have g3 := width_any xl xh
  have g4 := width_any yl yh
  have g5 := width_any (xl + yl) (xh + yh)
  have g6 := width_any (xl - yh) (xh - yl)
  rw [w3] at g3
  rw [w4] at g4
  rw [w5] at g5
  rw [w6] at g6
  clear w3 w4 w5 w6 gA gB hs hr hh hw hvU hx hy
  generalize xh - xl = xw at *
  generalize yh - yl = yw at *
  generalize mtLo xl xh yl yh = ml at *
  generalize mtHi xl xh yl yh = mh at *
  generalize mtB xl xh yl yh = ok at *
  generalize hdB xl xh T = inn at *
  generalize hdB yl yh U = on at *
  generalize hdB ml mh T = bm at *
  generalize hdB yl yh T = by_ at *
  generalize hdB (min xl yl) (max xh yh) T = bh at *
  generalize hdB (xl + yl) (xh + yh) TU = bs at *
  generalize hdB (xl - yh) (xh - yl) TD = br at *
  generalize hdB (xl + U) (xh + U) TU = bw at *
  generalize min xl yl = hl at *
  generalize max xh yh = hi at *
  generalize xl + yl = sl at *
  generalize xh + yh = sh at *
  generalize xl - yh = rl at *
  generalize xh - yl = rh at *
  generalize xl + U = wl at *
  generalize xh + U = wh at *
  have HF := Lib.hid F; clear F
  have R1 := Lib.hid r1; clear r1
  have R2 := Lib.hid r2; clear r2
  have R3 := Lib.hid r3; clear r3
  have R4 := Lib.hid r4; clear r4
  have Q1 := Lib.hid q1; clear q1
  have Q2 := Lib.hid q2; clear q2
  have Q3 := Lib.hid q3; clear q3
  have Q4 := Lib.hid q4; clear q4
  have Q5 := Lib.hid q5; clear q5
  have K_1 := Lib.hid k1; clear k1
  have K_2 := Lib.hid k2; clear k2
  have K_3 := Lib.hid k3; clear k3
  have K_4 := Lib.hid k4; clear k4
  have K_5 := Lib.hid k5; clear k5
  have K_6 := Lib.hid k6; clear k6
  have K_7 := Lib.hid k7; clear k7
  have K_8 := Lib.hid k8; clear k8
  have G1 := Lib.hid g1; clear g1
  have G2 := Lib.hid g2; clear g2
  have G3 := Lib.hid g3; clear g3
  have G4 := Lib.hid g4; clear g4
  have G5 := Lib.hid g5; clear g5
  have G6 := Lib.hid g6; clear g6
  go_enter Try.func11, Try.ntmps11
  go_upto_region 1 with fail
  go_cut [13, 14] (fun s13 s14 wx => ∃ X Y, s13 = .pointer (some ⟨X, 0, none⟩) ∧ s14 = .pointer (some ⟨Y, 0, none⟩) ∧ Blk wx X 23 #[.int .i64 xl, .int .i64 xh] ∧ Blk wx Y 23 #[.int .i64 yl, .int .i64 yh] ∧ X < Y ∧ Below w.heap.size w wx)
  case first =>
    go_wp2_with fail
    refine (R1.out _).mono ?_
    rintro e w1 ⟨rfl, hb1⟩
    have K1 : Below w.heap.size w w1 := kept_call hb1 (by (repeat' (first | (with_reducible exact Below.refl _ _) | (with_reducible refine Below.setCell ?_ ?_ _) | (with_reducible refine Below.alloc ?_ ?_ _) | (with_reducible refine Below.drew ?_) | (with_reducible refine below_drewN ?_ _))) <;> (first | omega | (simp <;> omega)))
    have Z1 : w.heap.size ≤ w1.heap.size := K1.size
    clear hb1
    go_wp2_with fail
    refine (R2.out _).mono ?_
    rintro e w2 ⟨rfl, hb2⟩
    have K2 : Below w.heap.size w w2 := kept_call hb2 (by (repeat' (first | (with_reducible exact K1) | (with_reducible refine Below.setCell ?_ ?_ _) | (with_reducible refine Below.alloc ?_ ?_ _) | (with_reducible refine Below.drew ?_) | (with_reducible refine below_drewN ?_ _))) <;> (first | omega | (simp <;> omega)))
    have Z2 : w.heap.size ≤ w2.heap.size := K2.size
    clear hb2 K1
    go_wp2_with fail
    go_meet
    exact ⟨w2.heap.size, w2.heap.size + 1, rfl, rfl, by (repeat' (first | ((with_reducible refine' Blk.newE ?_); first | rfl | (simp; done)) | (with_reducible refine' Blk.alloc ?_ _) | (with_reducible refine' Blk.drew ?_) | (with_reducible refine' Blk.drewN ?_ _) | (with_reducible refine' Blk.put ?_ ?_) | (with_reducible refine' Blk.far ?_ ?_ _) | exact rfl)) <;> (first | omega | (simp <;> omega)), by (repeat' (first | ((with_reducible refine' Blk.newE ?_); first | rfl | (simp; done)) | (with_reducible refine' Blk.alloc ?_ _) | (with_reducible refine' Blk.drew ?_) | (with_reducible refine' Blk.drewN ?_ _) | (with_reducible refine' Blk.put ?_ ?_) | (with_reducible refine' Blk.far ?_ ?_ _) | exact rfl)) <;> (first | omega | (simp <;> omega)), by omega, by (repeat' (first | (with_reducible exact K2) | (with_reducible refine Below.setCell ?_ ?_ _) | (with_reducible refine Below.alloc ?_ ?_ _) | (with_reducible refine Below.drew ?_) | (with_reducible refine below_drewN ?_ _))) <;> (first | omega | (simp <;> omega))⟩
  case rest =>
    obtain ⟨X, Y, rfl, rfl, bx, by', hXY, KC⟩ := hcut
    have ZC := KC.size
    have by_1 := by'
    clear by'
    have bX := bx; have bY := by_1; clear bx by_1
    obtain ⟨cX, fX, lX, eX, kX⟩ := Blk.facts bX
    obtain ⟨cY, fY, lY, eY, kY⟩ := Blk.facts bY
    go_wp2_with fail
    go_quiet (first | (go_at_call 38; (with_reducible exact Calls.quiet_of_same (R3.out _))) | (go_at_call 38; (with_reducible exact Calls.quiet_of_same (R4.out _))))
    go_wp2_with fail
    refine (Q1.out _).mono ?_
    rintro e w3 ⟨rfl, hb3⟩
    have K3 : Below w.heap.size w w3 := kept_call hb3 (by (repeat' (first | (with_reducible exact KC) | (with_reducible refine Below.setCell ?_ ?_ _) | (with_reducible refine Below.alloc ?_ ?_ _) | (with_reducible refine Below.drew ?_) | (with_reducible refine below_drewN ?_ _))) <;> (first | omega | (simp <;> omega)))
    have Z3 : w.heap.size ≤ w3.heap.size := K3.size
    have bX' := Blk.keep (g := X) hb3 (by (repeat' (first | (with_reducible refine' Blk.alloc ?_ _) | (with_reducible refine' Blk.drew ?_) | (with_reducible refine' Blk.drewN ?_ _) | (with_reducible refine' Blk.put ?_ ?_) | (with_reducible refine' Blk.far ?_ ?_ _) | exact bX | exact rfl)) <;> (first | omega | (simp <;> omega)))
    (try simp only [List.setIfInBounds_toArray, List.set_cons_zero, List.set_cons_succ] at bX')
    have bY' := Blk.keep (g := Y) hb3 (by (repeat' (first | (with_reducible refine' Blk.alloc ?_ _) | (with_reducible refine' Blk.drew ?_) | (with_reducible refine' Blk.drewN ?_ _) | (with_reducible refine' Blk.put ?_ ?_) | (with_reducible refine' Blk.far ?_ ?_ _) | exact bY | exact rfl)) <;> (first | omega | (simp <;> omega)))
    (try simp only [List.setIfInBounds_toArray, List.set_cons_zero, List.set_cons_succ] at bY')
    clear hb3 KC
    clear bX cX fX lX eX kX; have bX := bX'; clear bX'
    clear bY cY fY lY eY kY; have bY := bY'; clear bY'
    obtain ⟨cX, fX, lX, eX, kX⟩ := Blk.facts bX
    obtain ⟨cY, fY, lY, eY, kY⟩ := Blk.facts bY
    go_wp2_with fail
    refine (Q2.out _).mono ?_
    rintro e w4 ⟨rfl, hb4⟩
    have K4 : Below w.heap.size w w4 := kept_call hb4 (by (repeat' (first | (with_reducible exact K3) | (with_reducible refine Below.setCell ?_ ?_ _) | (with_reducible refine Below.alloc ?_ ?_ _) | (with_reducible refine Below.drew ?_) | (with_reducible refine below_drewN ?_ _))) <;> (first | omega | (simp <;> omega)))
    have Z4 : w.heap.size ≤ w4.heap.size := K4.size
    have bX' := Blk.keep (g := X) hb4 (by (repeat' (first | (with_reducible refine' Blk.alloc ?_ _) | (with_reducible refine' Blk.drew ?_) | (with_reducible refine' Blk.drewN ?_ _) | (with_reducible refine' Blk.put ?_ ?_) | (with_reducible refine' Blk.far ?_ ?_ _) | exact bX | exact rfl)) <;> (first | omega | (simp <;> omega)))
    (try simp only [List.setIfInBounds_toArray, List.set_cons_zero, List.set_cons_succ] at bX')
    have bY' := Blk.keep (g := Y) hb4 (by (repeat' (first | (with_reducible refine' Blk.alloc ?_ _) | (with_reducible refine' Blk.drew ?_) | (with_reducible refine' Blk.drewN ?_ _) | (with_reducible refine' Blk.put ?_ ?_) | (with_reducible refine' Blk.far ?_ ?_ _) | exact bY | exact rfl)) <;> (first | omega | (simp <;> omega)))
    (try simp only [List.setIfInBounds_toArray, List.set_cons_zero, List.set_cons_succ] at bY')
    have b4_0 := Blk.keep (g := w3.heap.size) hb4 (by (repeat' (first | ((with_reducible refine' Blk.newE ?_); first | rfl | (simp; done)) | (with_reducible refine' Blk.alloc ?_ _) | (with_reducible refine' Blk.drew ?_) | (with_reducible refine' Blk.drewN ?_ _) | (with_reducible refine' Blk.put ?_ ?_) | (with_reducible refine' Blk.far ?_ ?_ _) | exact rfl)) <;> (first | omega | (simp <;> omega)))
    (try simp only [List.setIfInBounds_toArray, List.set_cons_zero, List.set_cons_succ] at b4_0)
    clear hb4 K3
    clear bX cX fX lX eX kX; have bX := bX'; clear bX'
    clear bY cY fY lY eY kY; have bY := bY'; clear bY'
    obtain ⟨cX, fX, lX, eX, kX⟩ := Blk.facts bX
    obtain ⟨cY, fY, lY, eY, kY⟩ := Blk.facts bY
    obtain ⟨c4_0, f4_0, l4_0, e4_0, k4_0⟩ := Blk.facts b4_0
    have o4_0 := l4_0
    go_wp2_with fail
    refine (Q3.out _).mono ?_
    rintro e w5 ⟨rfl, hb5⟩
    have K5 : Below w.heap.size w w5 := kept_call hb5 (by (repeat' (first | (with_reducible exact K4) | (with_reducible refine Below.setCell ?_ ?_ _) | (with_reducible refine Below.alloc ?_ ?_ _) | (with_reducible refine Below.drew ?_) | (with_reducible refine below_drewN ?_ _))) <;> (first | omega | (simp <;> omega)))
    have Z5 : w.heap.size ≤ w5.heap.size := K5.size
    have bX' := Blk.keep (g := X) hb5 (by (repeat' (first | (with_reducible refine' Blk.alloc ?_ _) | (with_reducible refine' Blk.drew ?_) | (with_reducible refine' Blk.drewN ?_ _) | (with_reducible refine' Blk.put ?_ ?_) | (with_reducible refine' Blk.far ?_ ?_ _) | exact bX | exact rfl)) <;> (first | omega | (simp <;> omega)))
    (try simp only [List.setIfInBounds_toArray, List.set_cons_zero, List.set_cons_succ] at bX')
    have bY' := Blk.keep (g := Y) hb5 (by (repeat' (first | (with_reducible refine' Blk.alloc ?_ _) | (with_reducible refine' Blk.drew ?_) | (with_reducible refine' Blk.drewN ?_ _) | (with_reducible refine' Blk.put ?_ ?_) | (with_reducible refine' Blk.far ?_ ?_ _) | exact bY | exact rfl)) <;> (first | omega | (simp <;> omega)))
    (try simp only [List.setIfInBounds_toArray, List.set_cons_zero, List.set_cons_succ] at bY')
    have b4_0' := Blk.keep (g := w3.heap.size) hb5 (by (repeat' (first | (with_reducible refine' Blk.alloc ?_ _) | (with_reducible refine' Blk.drew ?_) | (with_reducible refine' Blk.drewN ?_ _) | (with_reducible refine' Blk.put ?_ ?_) | (with_reducible refine' Blk.far ?_ ?_ _) | exact b4_0 | exact rfl)) <;> (first | omega | (simp <;> omega)))
    (try simp only [List.setIfInBounds_toArray, List.set_cons_zero, List.set_cons_succ] at b4_0')
    have b5_0 := Blk.keep (g := w4.heap.size) hb5 (by (repeat' (first | ((with_reducible refine' Blk.newE ?_); first | rfl | (simp; done)) | (with_reducible refine' Blk.alloc ?_ _) | (with_reducible refine' Blk.drew ?_) | (with_reducible refine' Blk.drewN ?_ _) | (with_reducible refine' Blk.put ?_ ?_) | (with_reducible refine' Blk.far ?_ ?_ _) | exact rfl)) <;> (first | omega | (simp <;> omega)))
    (try simp only [List.setIfInBounds_toArray, List.set_cons_zero, List.set_cons_succ] at b5_0)
    clear hb5 K4
    clear bX cX fX lX eX kX; have bX := bX'; clear bX'
    clear bY cY fY lY eY kY; have bY := bY'; clear bY'
    clear b4_0 c4_0 f4_0 l4_0 e4_0 k4_0; have b4_0 := b4_0'; clear b4_0'
    obtain ⟨cX, fX, lX, eX, kX⟩ := Blk.facts bX
    obtain ⟨cY, fY, lY, eY, kY⟩ := Blk.facts bY
    obtain ⟨c4_0, f4_0, l4_0, e4_0, k4_0⟩ := Blk.facts b4_0
    obtain ⟨c5_0, f5_0, l5_0, e5_0, k5_0⟩ := Blk.facts b5_0
    have o5_0 := l5_0
    go_wp2_with fail
    refine (Q4.out _).mono ?_
    rintro e w6 ⟨rfl, hb6⟩
    have K6 : Below w.heap.size w w6 := kept_call hb6 (by (repeat' (first | (with_reducible exact K5) | (with_reducible refine Below.setCell ?_ ?_ _) | (with_reducible refine Below.alloc ?_ ?_ _) | (with_reducible refine Below.drew ?_) | (with_reducible refine below_drewN ?_ _))) <;> (first | omega | (simp <;> omega)))
    have Z6 : w.heap.size ≤ w6.heap.size := K6.size
    have bX' := Blk.keep (g := X) hb6 (by (repeat' (first | (with_reducible refine' Blk.alloc ?_ _) | (with_reducible refine' Blk.drew ?_) | (with_reducible refine' Blk.drewN ?_ _) | (with_reducible refine' Blk.put ?_ ?_) | (with_reducible refine' Blk.far ?_ ?_ _) | exact bX | exact rfl)) <;> (first | omega | (simp <;> omega)))
    (try simp only [List.setIfInBounds_toArray, List.set_cons_zero, List.set_cons_succ] at bX')
    have bY' := Blk.keep (g := Y) hb6 (by (repeat' (first | (with_reducible refine' Blk.alloc ?_ _) | (with_reducible refine' Blk.drew ?_) | (with_reducible refine' Blk.drewN ?_ _) | (with_reducible refine' Blk.put ?_ ?_) | (with_reducible refine' Blk.far ?_ ?_ _) | exact bY | exact rfl)) <;> (first | omega | (simp <;> omega)))
    (try simp only [List.setIfInBounds_toArray, List.set_cons_zero, List.set_cons_succ] at bY')
    have b4_0' := Blk.keep (g := w3.heap.size) hb6 (by (repeat' (first | (with_reducible refine' Blk.alloc ?_ _) | (with_reducible refine' Blk.drew ?_) | (with_reducible refine' Blk.drewN ?_ _) | (with_reducible refine' Blk.put ?_ ?_) | (with_reducible refine' Blk.far ?_ ?_ _) | exact b4_0 | exact rfl)) <;> (first | omega | (simp <;> omega)))
    (try simp only [List.setIfInBounds_toArray, List.set_cons_zero, List.set_cons_succ] at b4_0')
    have b5_0' := Blk.keep (g := w4.heap.size) hb6 (by (repeat' (first | (with_reducible refine' Blk.alloc ?_ _) | (with_reducible refine' Blk.drew ?_) | (with_reducible refine' Blk.drewN ?_ _) | (with_reducible refine' Blk.put ?_ ?_) | (with_reducible refine' Blk.far ?_ ?_ _) | exact b5_0 | exact rfl)) <;> (first | omega | (simp <;> omega)))
    (try simp only [List.setIfInBounds_toArray, List.set_cons_zero, List.set_cons_succ] at b5_0')
    have b6_0 := Blk.keep (g := w5.heap.size) hb6 (by (repeat' (first | ((with_reducible refine' Blk.newE ?_); first | rfl | (simp; done)) | (with_reducible refine' Blk.alloc ?_ _) | (with_reducible refine' Blk.drew ?_) | (with_reducible refine' Blk.drewN ?_ _) | (with_reducible refine' Blk.put ?_ ?_) | (with_reducible refine' Blk.far ?_ ?_ _) | exact rfl)) <;> (first | omega | (simp <;> omega)))
    (try simp only [List.setIfInBounds_toArray, List.set_cons_zero, List.set_cons_succ] at b6_0)
    clear hb6 K5
    clear bX cX fX lX eX kX; have bX := bX'; clear bX'
    clear bY cY fY lY eY kY; have bY := bY'; clear bY'
    clear b4_0 c4_0 f4_0 l4_0 e4_0 k4_0; have b4_0 := b4_0'; clear b4_0'
    clear b5_0 c5_0 f5_0 l5_0 e5_0 k5_0; have b5_0 := b5_0'; clear b5_0'
    obtain ⟨cX, fX, lX, eX, kX⟩ := Blk.facts bX
    obtain ⟨cY, fY, lY, eY, kY⟩ := Blk.facts bY
    obtain ⟨c4_0, f4_0, l4_0, e4_0, k4_0⟩ := Blk.facts b4_0
    obtain ⟨c5_0, f5_0, l5_0, e5_0, k5_0⟩ := Blk.facts b5_0
    obtain ⟨c6_0, f6_0, l6_0, e6_0, k6_0⟩ := Blk.facts b6_0
    have o6_0 := l6_0
    go_wp2_with fail
    refine (Q5.out _).mono ?_
    rintro e w7 ⟨rfl, hb7⟩
    have K7 : Below w.heap.size w w7 := kept_call hb7 (by (repeat' (first | (with_reducible exact K6) | (with_reducible refine Below.setCell ?_ ?_ _) | (with_reducible refine Below.alloc ?_ ?_ _) | (with_reducible refine Below.drew ?_) | (with_reducible refine below_drewN ?_ _))) <;> (first | omega | (simp <;> omega)))
    have Z7 : w.heap.size ≤ w7.heap.size := K7.size
    have bX' := Blk.keep (g := X) hb7 (by (repeat' (first | (with_reducible refine' Blk.alloc ?_ _) | (with_reducible refine' Blk.drew ?_) | (with_reducible refine' Blk.drewN ?_ _) | (with_reducible refine' Blk.put ?_ ?_) | (with_reducible refine' Blk.far ?_ ?_ _) | exact bX | exact rfl)) <;> (first | omega | (simp <;> omega)))
    (try simp only [List.setIfInBounds_toArray, List.set_cons_zero, List.set_cons_succ] at bX')
    have bY' := Blk.keep (g := Y) hb7 (by (repeat' (first | (with_reducible refine' Blk.alloc ?_ _) | (with_reducible refine' Blk.drew ?_) | (with_reducible refine' Blk.drewN ?_ _) | (with_reducible refine' Blk.put ?_ ?_) | (with_reducible refine' Blk.far ?_ ?_ _) | exact bY | exact rfl)) <;> (first | omega | (simp <;> omega)))
    (try simp only [List.setIfInBounds_toArray, List.set_cons_zero, List.set_cons_succ] at bY')
    have b4_0' := Blk.keep (g := w3.heap.size) hb7 (by (repeat' (first | (with_reducible refine' Blk.alloc ?_ _) | (with_reducible refine' Blk.drew ?_) | (with_reducible refine' Blk.drewN ?_ _) | (with_reducible refine' Blk.put ?_ ?_) | (with_reducible refine' Blk.far ?_ ?_ _) | exact b4_0 | exact rfl)) <;> (first | omega | (simp <;> omega)))
    (try simp only [List.setIfInBounds_toArray, List.set_cons_zero, List.set_cons_succ] at b4_0')
    have b5_0' := Blk.keep (g := w4.heap.size) hb7 (by (repeat' (first | (with_reducible refine' Blk.alloc ?_ _) | (with_reducible refine' Blk.drew ?_) | (with_reducible refine' Blk.drewN ?_ _) | (with_reducible refine' Blk.put ?_ ?_) | (with_reducible refine' Blk.far ?_ ?_ _) | exact b5_0 | exact rfl)) <;> (first | omega | (simp <;> omega)))
    (try simp only [List.setIfInBounds_toArray, List.set_cons_zero, List.set_cons_succ] at b5_0')
    have b6_0' := Blk.keep (g := w5.heap.size) hb7 (by (repeat' (first | (with_reducible refine' Blk.alloc ?_ _) | (with_reducible refine' Blk.drew ?_) | (with_reducible refine' Blk.drewN ?_ _) | (with_reducible refine' Blk.put ?_ ?_) | (with_reducible refine' Blk.far ?_ ?_ _) | exact b6_0 | exact rfl)) <;> (first | omega | (simp <;> omega)))
    (try simp only [List.setIfInBounds_toArray, List.set_cons_zero, List.set_cons_succ] at b6_0')
    have b7_0 := Blk.keep (g := w6.heap.size) hb7 (by (repeat' (first | ((with_reducible refine' Blk.newE ?_); first | rfl | (simp; done)) | (with_reducible refine' Blk.alloc ?_ _) | (with_reducible refine' Blk.drew ?_) | (with_reducible refine' Blk.drewN ?_ _) | (with_reducible refine' Blk.put ?_ ?_) | (with_reducible refine' Blk.far ?_ ?_ _) | exact rfl)) <;> (first | omega | (simp <;> omega)))
    (try simp only [List.setIfInBounds_toArray, List.set_cons_zero, List.set_cons_succ] at b7_0)
    clear hb7 K6
    clear bX cX fX lX eX kX; have bX := bX'; clear bX'
    clear bY cY fY lY eY kY; have bY := bY'; clear bY'
    clear b4_0 c4_0 f4_0 l4_0 e4_0 k4_0; have b4_0 := b4_0'; clear b4_0'
    clear b5_0 c5_0 f5_0 l5_0 e5_0 k5_0; have b5_0 := b5_0'; clear b5_0'
    clear b6_0 c6_0 f6_0 l6_0 e6_0 k6_0; have b6_0 := b6_0'; clear b6_0'
    obtain ⟨cX, fX, lX, eX, kX⟩ := Blk.facts bX
    obtain ⟨cY, fY, lY, eY, kY⟩ := Blk.facts bY
    obtain ⟨c4_0, f4_0, l4_0, e4_0, k4_0⟩ := Blk.facts b4_0
    obtain ⟨c5_0, f5_0, l5_0, e5_0, k5_0⟩ := Blk.facts b5_0
    obtain ⟨c6_0, f6_0, l6_0, e6_0, k6_0⟩ := Blk.facts b6_0
    obtain ⟨c7_0, f7_0, l7_0, e7_0, k7_0⟩ := Blk.facts b7_0
    have o7_0 := l7_0
    have bW := Blk.new w7 23 #[.int .i64 wl, .int .i64 wh]
    have cW : True := trivial; have fW := cW; have lW := cW; have eW := cW; have kW := cW
    go_wp2_with fail
    refine' wp_region_calm (by kernel_rfl) (fun _ _ w' => Below w.heap.size w w' ∧ Blk w' (X) 23 #[.int .i64 xl, .int .i64 xh] ∧ Blk w' (Y) 23 #[.int .i64 yl, .int .i64 yh] ∧ Blk w' (w3.heap.size) 23 #[.int .i64 ml, .int .i64 mh] ∧ Blk w' (w4.heap.size) 23 #[.int .i64 hl, .int .i64 hi] ∧ Blk w' (w5.heap.size) 23 #[.int .i64 sl, .int .i64 sh] ∧ Blk w' (w6.heap.size) 23 #[.int .i64 rl, .int .i64 rh] ∧ Blk w' (w7.heap.size) 23 #[.int .i64 wl, .int .i64 wh]) (fun _ _ => True) [(Is _), (Is _), (Is _), (Is _), (Is _), (Is _), (Is _), (Is _)] [[], [], [0, 1], [], [], [3, 4], [2], [5]] [] [] rfl (by kernel_rfl) (fun u => by (simp only [calmPut, Act.put, List.setIfInBounds_toArray, List.set_cons_zero, List.set_cons_succ, Nat.zero_add, Nat.reduceAdd]; rfl)) ?_ (calmKeep_cons keep_is' (calmKeep_cons keep_is' (calmKeep_cons keep_is' (calmKeep_cons keep_is' (calmKeep_cons keep_is' (calmKeep_cons keep_is' (calmKeep_cons keep_is' (calmKeep_cons keep_is' (calmKeep_nil))))))))) ?_ ?_
    · intro _
      exact ⟨(by (repeat' (first | (with_reducible exact K7) | (with_reducible refine Below.setCell ?_ ?_ _) | (with_reducible refine Below.alloc ?_ ?_ _) | (with_reducible refine Below.drew ?_) | (with_reducible refine below_drewN ?_ _))) <;> (first | omega | (simp <;> omega))), (by (repeat' (first | (with_reducible exact bX) | (with_reducible refine' Blk.alloc ?_ _) | (with_reducible refine' Blk.drew ?_) | (with_reducible refine' Blk.drewN ?_ _) | (with_reducible refine' Blk.put ?_ ?_) | (with_reducible refine' Blk.far ?_ ?_ _) | exact bX | exact rfl)) <;> (first | omega | (simp <;> omega))), (by (repeat' (first | (with_reducible exact bY) | (with_reducible refine' Blk.alloc ?_ _) | (with_reducible refine' Blk.drew ?_) | (with_reducible refine' Blk.drewN ?_ _) | (with_reducible refine' Blk.put ?_ ?_) | (with_reducible refine' Blk.far ?_ ?_ _) | exact bY | exact rfl)) <;> (first | omega | (simp <;> omega))), (by (repeat' (first | (with_reducible exact b4_0) | (with_reducible refine' Blk.alloc ?_ _) | (with_reducible refine' Blk.drew ?_) | (with_reducible refine' Blk.drewN ?_ _) | (with_reducible refine' Blk.put ?_ ?_) | (with_reducible refine' Blk.far ?_ ?_ _) | exact b4_0 | exact rfl)) <;> (first | omega | (simp <;> omega))), (by (repeat' (first | (with_reducible exact b5_0) | (with_reducible refine' Blk.alloc ?_ _) | (with_reducible refine' Blk.drew ?_) | (with_reducible refine' Blk.drewN ?_ _) | (with_reducible refine' Blk.put ?_ ?_) | (with_reducible refine' Blk.far ?_ ?_ _) | exact b5_0 | exact rfl)) <;> (first | omega | (simp <;> omega))), (by (repeat' (first | (with_reducible exact b6_0) | (with_reducible refine' Blk.alloc ?_ _) | (with_reducible refine' Blk.drew ?_) | (with_reducible refine' Blk.drewN ?_ _) | (with_reducible refine' Blk.put ?_ ?_) | (with_reducible refine' Blk.far ?_ ?_ _) | exact b6_0 | exact rfl)) <;> (first | omega | (simp <;> omega))), (by (repeat' (first | (with_reducible exact b7_0) | (with_reducible refine' Blk.alloc ?_ _) | (with_reducible refine' Blk.drew ?_) | (with_reducible refine' Blk.drewN ?_ _) | (with_reducible refine' Blk.put ?_ ?_) | (with_reducible refine' Blk.far ?_ ?_ _) | exact b7_0 | exact rfl)) <;> (first | omega | (simp <;> omega))), (by (repeat' (first | (with_reducible exact bW) | (with_reducible refine' Blk.alloc ?_ _) | (with_reducible refine' Blk.drew ?_) | (with_reducible refine' Blk.drewN ?_ _) | (with_reducible refine' Blk.put ?_ ?_) | (with_reducible refine' Blk.far ?_ ?_ _) | exact bW | exact rfl)) <;> (first | omega | (simp <;> omega)))⟩
    rotate_left 8
    · skip
      refine calmSteps_cons (fun u wq n hn hn2 hC hk K hK => ?_) ?_
      · obtain ⟨hP, mX, mY, m4_0, m5_0, m6_0, m7_0, mW⟩ := hC
        clear hk
        have zX := mX.cell
        have zY := mY.cell
        have z4_0 := m4_0.cell
        have z5_0 := m5_0.cell
        have z6_0 := m6_0.cell
        have z7_0 := m7_0.cell
        have zW := mW.cell
        go_simp
        exact hK _ _ _ rfl ⟨hP, mX, mY, m4_0, m5_0, m6_0, m7_0, mW⟩ trivial rfl
      refine calmSteps_cons (fun u wq n hn hn2 hC hk K hK => ?_) ?_
      · obtain ⟨hP, mX, mY, m4_0, m5_0, m6_0, m7_0, mW⟩ := hC
        clear hk
        go_simp
        exact hK _ _ _ rfl ⟨hP, mX, mY, m4_0, m5_0, m6_0, m7_0, mW⟩ trivial rfl
      refine calmSteps_cons (fun u wq n hn hn2 hC hk K hK => ?_) ?_
      · obtain ⟨hP, mX, mY, m4_0, m5_0, m6_0, m7_0, mW⟩ := hC
        simp only [calmKnown, List.getElem?_cons_zero, List.getElem?_cons_succ, and_true, Is, Pure, Option.some.injEq, List.getD_cons_zero, List.getD_cons_succ, List.map_cons, List.map_nil] at hk
        obtain ⟨h0, h1⟩ := hk
        simp only [h0, h1] at hK ⊢
        have H0 := Lib.hid h0; clear h0; have H1 := Lib.hid h1; clear h1
        go_wp2_with fail
        first | (with_reducible refine (K_1.out _).mono ?_) | (with_reducible refine (K_2.out _).mono ?_)
        rintro e w2 ⟨rfl, hbl⟩
        exact hK _ _ _ rfl ⟨kept_call hbl hP, Blk.keep hbl mX, Blk.keep hbl mY, Blk.keep hbl m4_0, Blk.keep hbl m5_0, Blk.keep hbl m6_0, Blk.keep hbl m7_0, Blk.keep hbl mW⟩ trivial rfl
      refine calmSteps_cons (fun u wq n hn hn2 hC hk K hK => ?_) ?_
      · obtain ⟨hP, mX, mY, m4_0, m5_0, m6_0, m7_0, mW⟩ := hC
        clear hk
        have zX := mX.cell
        have zY := mY.cell
        have z4_0 := m4_0.cell
        have z5_0 := m5_0.cell
        have z6_0 := m6_0.cell
        have z7_0 := m7_0.cell
        have zW := mW.cell
        go_simp
        exact hK _ _ _ rfl ⟨hP, mX, mY, m4_0, m5_0, m6_0, m7_0, mW⟩ trivial rfl
      refine calmSteps_cons (fun u wq n hn hn2 hC hk K hK => ?_) ?_
      · obtain ⟨hP, mX, mY, m4_0, m5_0, m6_0, m7_0, mW⟩ := hC
        clear hk
        go_simp
        exact hK _ _ _ rfl ⟨hP, mX, mY, m4_0, m5_0, m6_0, m7_0, mW⟩ trivial rfl
      refine calmSteps_cons (fun u wq n hn hn2 hC hk K hK => ?_) ?_
      · obtain ⟨hP, mX, mY, m4_0, m5_0, m6_0, m7_0, mW⟩ := hC
        simp only [calmKnown, List.getElem?_cons_zero, List.getElem?_cons_succ, and_true, Is, Pure, Option.some.injEq, List.getD_cons_zero, List.getD_cons_succ, List.map_cons, List.map_nil] at hk
        obtain ⟨h3, h4⟩ := hk
        simp only [h3, h4] at hK ⊢
        have H3 := Lib.hid h3; clear h3; have H4 := Lib.hid h4; clear h4
        go_wp2_with fail
        first | (with_reducible refine (K_1.out _).mono ?_) | (with_reducible refine (K_2.out _).mono ?_)
        rintro e w2 ⟨rfl, hbl⟩
        exact hK _ _ _ rfl ⟨kept_call hbl hP, Blk.keep hbl mX, Blk.keep hbl mY, Blk.keep hbl m4_0, Blk.keep hbl m5_0, Blk.keep hbl m6_0, Blk.keep hbl m7_0, Blk.keep hbl mW⟩ trivial rfl
      refine calmSteps_cons (fun u wq n hn hn2 hC hk K hK => ?_) ?_
      · obtain ⟨hP, mX, mY, m4_0, m5_0, m6_0, m7_0, mW⟩ := hC
        simp only [calmKnown, List.getElem?_cons_zero, List.getElem?_cons_succ, and_true, Is, Pure, Option.some.injEq, List.getD_cons_zero, List.getD_cons_succ, List.map_cons, List.map_nil] at hk
        have h2 := hk; clear hk
        simp only [h2] at hK ⊢
        have H2 := Lib.hid h2; clear h2
        go_simp
        exact hK _ _ _ rfl ⟨hP, mX, mY, m4_0, m5_0, m6_0, m7_0, mW⟩ trivial rfl
      refine calmSteps_cons (fun u wq n hn hn2 hC hk K hK => ?_) ?_
      · obtain ⟨hP, mX, mY, m4_0, m5_0, m6_0, m7_0, mW⟩ := hC
        simp only [calmKnown, List.getElem?_cons_zero, List.getElem?_cons_succ, and_true, Is, Pure, Option.some.injEq, List.getD_cons_zero, List.getD_cons_succ, List.map_cons, List.map_nil] at hk
        have h5 := hk; clear hk
        simp only [h5] at hK ⊢
        have H5 := Lib.hid h5; clear h5
        go_simp
        exact hK _ _ _ rfl ⟨hP, mX, mY, m4_0, m5_0, m6_0, m7_0, mW⟩ trivial rfl
      exact calmSteps_nil
    · intro u w8 hC hF
      obtain ⟨hP, mX, mY, m4_0, m5_0, m6_0, m7_0, mW⟩ := hC
      simp only [calmFacts, Is, and_true] at hF
      obtain ⟨f0, f1, f2, f3, f4, f5, f6, f7⟩ := hF
      simp only [f0, f1, f2, f3, f4, f5, f6, f7]
      clear f0 f1 f2 f3 f4 f5 f6 f7
      have K8 := hP
      have Z8 : w.heap.size ≤ w8.heap.size := K8.size
      clear hP K7
      clear bX cX fX lX eX kX; have bX := mX; clear mX
      obtain ⟨cX, fX, lX, eX, kX⟩ := Blk.facts bX
      clear bY cY fY lY eY kY; have bY := mY; clear mY
      obtain ⟨cY, fY, lY, eY, kY⟩ := Blk.facts bY
      clear b4_0 c4_0 f4_0 l4_0 e4_0 k4_0; have b4_0 := m4_0; clear m4_0
      obtain ⟨c4_0, f4_0, l4_0, e4_0, k4_0⟩ := Blk.facts b4_0
      clear b5_0 c5_0 f5_0 l5_0 e5_0 k5_0; have b5_0 := m5_0; clear m5_0
      obtain ⟨c5_0, f5_0, l5_0, e5_0, k5_0⟩ := Blk.facts b5_0
      clear b6_0 c6_0 f6_0 l6_0 e6_0 k6_0; have b6_0 := m6_0; clear m6_0
      obtain ⟨c6_0, f6_0, l6_0, e6_0, k6_0⟩ := Blk.facts b6_0
      clear b7_0 c7_0 f7_0 l7_0 e7_0 k7_0; have b7_0 := m7_0; clear m7_0
      obtain ⟨c7_0, f7_0, l7_0, e7_0, k7_0⟩ := Blk.facts b7_0
      clear bW cW fW lW eW kW; have bW := mW; clear mW
      obtain ⟨cW, fW, lW, eW, kW⟩ := Blk.facts bW
      go_upto_region 9 with fail
      go_cut [108] (fun s108 wx => s108 = .bool false ∧ Below w.heap.size w wx ∧ Blk wx (X) 23 #[.int .i64 xl, .int .i64 xh] ∧ Blk wx (Y) 23 #[.int .i64 yl, .int .i64 yh] ∧ Blk wx (w3.heap.size) 23 #[.int .i64 ml, .int .i64 mh] ∧ Blk wx (w4.heap.size) 23 #[.int .i64 hl, .int .i64 hi] ∧ Blk wx (w5.heap.size) 23 #[.int .i64 sl, .int .i64 sh] ∧ Blk wx (w6.heap.size) 23 #[.int .i64 rl, .int .i64 rh] ∧ Blk wx (w7.heap.size) 23 #[.int .i64 wl, .int .i64 wh])
      case first =>
        have F := HF.out; clear HF
        rcases inn
        · have f1 := F.i0 rfl
          clear F
          by_cases hx : xl ≤ T
          · have hy : decide (T ≤ xh) = false := by simp; omega
            clear f1
            as_aux_lemma =>
              go_wp2_with fail
              go_meet
              exact ⟨rfl, by (repeat' (first | (with_reducible exact K8) | (with_reducible refine Below.setCell ?_ ?_ _) | (with_reducible refine Below.alloc ?_ ?_ _) | (with_reducible refine Below.drew ?_) | (with_reducible refine below_drewN ?_ _))) <;> (first | omega | (simp <;> omega)), by (repeat' (first | (with_reducible exact bX) | (with_reducible refine' Blk.alloc ?_ _) | (with_reducible refine' Blk.drew ?_) | (with_reducible refine' Blk.drewN ?_ _) | (with_reducible refine' Blk.put ?_ ?_) | (with_reducible refine' Blk.far ?_ ?_ _) | exact bX | exact rfl)) <;> (first | omega | (simp <;> omega)), by (repeat' (first | (with_reducible exact bY) | (with_reducible refine' Blk.alloc ?_ _) | (with_reducible refine' Blk.drew ?_) | (with_reducible refine' Blk.drewN ?_ _) | (with_reducible refine' Blk.put ?_ ?_) | (with_reducible refine' Blk.far ?_ ?_ _) | exact bY | exact rfl)) <;> (first | omega | (simp <;> omega)), by (repeat' (first | (with_reducible exact b4_0) | (with_reducible refine' Blk.alloc ?_ _) | (with_reducible refine' Blk.drew ?_) | (with_reducible refine' Blk.drewN ?_ _) | (with_reducible refine' Blk.put ?_ ?_) | (with_reducible refine' Blk.far ?_ ?_ _) | exact b4_0 | exact rfl)) <;> (first | omega | (simp <;> omega)), by (repeat' (first | (with_reducible exact b5_0) | (with_reducible refine' Blk.alloc ?_ _) | (with_reducible refine' Blk.drew ?_) | (with_reducible refine' Blk.drewN ?_ _) | (with_reducible refine' Blk.put ?_ ?_) | (with_reducible refine' Blk.far ?_ ?_ _) | exact b5_0 | exact rfl)) <;> (first | omega | (simp <;> omega)), by (repeat' (first | (with_reducible exact b6_0) | (with_reducible refine' Blk.alloc ?_ _) | (with_reducible refine' Blk.drew ?_) | (with_reducible refine' Blk.drewN ?_ _) | (with_reducible refine' Blk.put ?_ ?_) | (with_reducible refine' Blk.far ?_ ?_ _) | exact b6_0 | exact rfl)) <;> (first | omega | (simp <;> omega)), by (repeat' (first | (with_reducible exact b7_0) | (with_reducible refine' Blk.alloc ?_ _) | (with_reducible refine' Blk.drew ?_) | (with_reducible refine' Blk.drewN ?_ _) | (with_reducible refine' Blk.put ?_ ?_) | (with_reducible refine' Blk.far ?_ ?_ _) | exact b7_0 | exact rfl)) <;> (first | omega | (simp <;> omega)), by (repeat' (first | (with_reducible exact bW) | (with_reducible refine' Blk.alloc ?_ _) | (with_reducible refine' Blk.drew ?_) | (with_reducible refine' Blk.drewN ?_ _) | (with_reducible refine' Blk.put ?_ ?_) | (with_reducible refine' Blk.far ?_ ?_ _) | exact bW | exact rfl)) <;> (first | omega | (simp <;> omega))⟩
          · have hy : decide (xl ≤ T) = false := by simp; omega
            clear f1 hx
            as_aux_lemma =>
              go_wp2_with fail
              go_meet
              exact ⟨rfl, by (repeat' (first | (with_reducible exact K8) | (with_reducible refine Below.setCell ?_ ?_ _) | (with_reducible refine Below.alloc ?_ ?_ _) | (with_reducible refine Below.drew ?_) | (with_reducible refine below_drewN ?_ _))) <;> (first | omega | (simp <;> omega)), by (repeat' (first | (with_reducible exact bX) | (with_reducible refine' Blk.alloc ?_ _) | (with_reducible refine' Blk.drew ?_) | (with_reducible refine' Blk.drewN ?_ _) | (with_reducible refine' Blk.put ?_ ?_) | (with_reducible refine' Blk.far ?_ ?_ _) | exact bX | exact rfl)) <;> (first | omega | (simp <;> omega)), by (repeat' (first | (with_reducible exact bY) | (with_reducible refine' Blk.alloc ?_ _) | (with_reducible refine' Blk.drew ?_) | (with_reducible refine' Blk.drewN ?_ _) | (with_reducible refine' Blk.put ?_ ?_) | (with_reducible refine' Blk.far ?_ ?_ _) | exact bY | exact rfl)) <;> (first | omega | (simp <;> omega)), by (repeat' (first | (with_reducible exact b4_0) | (with_reducible refine' Blk.alloc ?_ _) | (with_reducible refine' Blk.drew ?_) | (with_reducible refine' Blk.drewN ?_ _) | (with_reducible refine' Blk.put ?_ ?_) | (with_reducible refine' Blk.far ?_ ?_ _) | exact b4_0 | exact rfl)) <;> (first | omega | (simp <;> omega)), by (repeat' (first | (with_reducible exact b5_0) | (with_reducible refine' Blk.alloc ?_ _) | (with_reducible refine' Blk.drew ?_) | (with_reducible refine' Blk.drewN ?_ _) | (with_reducible refine' Blk.put ?_ ?_) | (with_reducible refine' Blk.far ?_ ?_ _) | exact b5_0 | exact rfl)) <;> (first | omega | (simp <;> omega)), by (repeat' (first | (with_reducible exact b6_0) | (with_reducible refine' Blk.alloc ?_ _) | (with_reducible refine' Blk.drew ?_) | (with_reducible refine' Blk.drewN ?_ _) | (with_reducible refine' Blk.put ?_ ?_) | (with_reducible refine' Blk.far ?_ ?_ _) | exact b6_0 | exact rfl)) <;> (first | omega | (simp <;> omega)), by (repeat' (first | (with_reducible exact b7_0) | (with_reducible refine' Blk.alloc ?_ _) | (with_reducible refine' Blk.drew ?_) | (with_reducible refine' Blk.drewN ?_ _) | (with_reducible refine' Blk.put ?_ ?_) | (with_reducible refine' Blk.far ?_ ?_ _) | exact b7_0 | exact rfl)) <;> (first | omega | (simp <;> omega)), by (repeat' (first | (with_reducible exact bW) | (with_reducible refine' Blk.alloc ?_ _) | (with_reducible refine' Blk.drew ?_) | (with_reducible refine' Blk.drewN ?_ _) | (with_reducible refine' Blk.put ?_ ?_) | (with_reducible refine' Blk.far ?_ ?_ _) | exact bW | exact rfl)) <;> (first | omega | (simp <;> omega))⟩
        · obtain ⟨f1, f2⟩ := F.i1 rfl
          clear F
          as_aux_lemma =>
            go_wp2_with fail
            go_meet
            exact ⟨rfl, by (repeat' (first | (with_reducible exact K8) | (with_reducible refine Below.setCell ?_ ?_ _) | (with_reducible refine Below.alloc ?_ ?_ _) | (with_reducible refine Below.drew ?_) | (with_reducible refine below_drewN ?_ _))) <;> (first | omega | (simp <;> omega)), by (repeat' (first | (with_reducible exact bX) | (with_reducible refine' Blk.alloc ?_ _) | (with_reducible refine' Blk.drew ?_) | (with_reducible refine' Blk.drewN ?_ _) | (with_reducible refine' Blk.put ?_ ?_) | (with_reducible refine' Blk.far ?_ ?_ _) | exact bX | exact rfl)) <;> (first | omega | (simp <;> omega)), by (repeat' (first | (with_reducible exact bY) | (with_reducible refine' Blk.alloc ?_ _) | (with_reducible refine' Blk.drew ?_) | (with_reducible refine' Blk.drewN ?_ _) | (with_reducible refine' Blk.put ?_ ?_) | (with_reducible refine' Blk.far ?_ ?_ _) | exact bY | exact rfl)) <;> (first | omega | (simp <;> omega)), by (repeat' (first | (with_reducible exact b4_0) | (with_reducible refine' Blk.alloc ?_ _) | (with_reducible refine' Blk.drew ?_) | (with_reducible refine' Blk.drewN ?_ _) | (with_reducible refine' Blk.put ?_ ?_) | (with_reducible refine' Blk.far ?_ ?_ _) | exact b4_0 | exact rfl)) <;> (first | omega | (simp <;> omega)), by (repeat' (first | (with_reducible exact b5_0) | (with_reducible refine' Blk.alloc ?_ _) | (with_reducible refine' Blk.drew ?_) | (with_reducible refine' Blk.drewN ?_ _) | (with_reducible refine' Blk.put ?_ ?_) | (with_reducible refine' Blk.far ?_ ?_ _) | exact b5_0 | exact rfl)) <;> (first | omega | (simp <;> omega)), by (repeat' (first | (with_reducible exact b6_0) | (with_reducible refine' Blk.alloc ?_ _) | (with_reducible refine' Blk.drew ?_) | (with_reducible refine' Blk.drewN ?_ _) | (with_reducible refine' Blk.put ?_ ?_) | (with_reducible refine' Blk.far ?_ ?_ _) | exact b6_0 | exact rfl)) <;> (first | omega | (simp <;> omega)), by (repeat' (first | (with_reducible exact b7_0) | (with_reducible refine' Blk.alloc ?_ _) | (with_reducible refine' Blk.drew ?_) | (with_reducible refine' Blk.drewN ?_ _) | (with_reducible refine' Blk.put ?_ ?_) | (with_reducible refine' Blk.far ?_ ?_ _) | exact b7_0 | exact rfl)) <;> (first | omega | (simp <;> omega)), by (repeat' (first | (with_reducible exact bW) | (with_reducible refine' Blk.alloc ?_ _) | (with_reducible refine' Blk.drew ?_) | (with_reducible refine' Blk.drewN ?_ _) | (with_reducible refine' Blk.put ?_ ?_) | (with_reducible refine' Blk.far ?_ ?_ _) | exact bW | exact rfl)) <;> (first | omega | (simp <;> omega))⟩
      case rest =>
        rename World => w20
        obtain ⟨rfl, hP, nX, nY, n4_0, n5_0, n6_0, n7_0, nW⟩ := hcut
        clear K8
        have K20 := hP; clear hP
        have Z20 := K20.size
        clear bX cX fX lX eX kX; have bX := nX; clear nX
        obtain ⟨cX, fX, lX, eX, kX⟩ := Blk.facts bX
        clear bY cY fY lY eY kY; have bY := nY; clear nY
        obtain ⟨cY, fY, lY, eY, kY⟩ := Blk.facts bY
        clear b4_0 c4_0 f4_0 l4_0 e4_0 k4_0; have b4_0 := n4_0; clear n4_0
        obtain ⟨c4_0, f4_0, l4_0, e4_0, k4_0⟩ := Blk.facts b4_0
        clear b5_0 c5_0 f5_0 l5_0 e5_0 k5_0; have b5_0 := n5_0; clear n5_0
        obtain ⟨c5_0, f5_0, l5_0, e5_0, k5_0⟩ := Blk.facts b5_0
        clear b6_0 c6_0 f6_0 l6_0 e6_0 k6_0; have b6_0 := n6_0; clear n6_0
        obtain ⟨c6_0, f6_0, l6_0, e6_0, k6_0⟩ := Blk.facts b6_0
        clear b7_0 c7_0 f7_0 l7_0 e7_0 k7_0; have b7_0 := n7_0; clear n7_0
        obtain ⟨c7_0, f7_0, l7_0, e7_0, k7_0⟩ := Blk.facts b7_0
        clear bW cW fW lW eW kW; have bW := nW; clear nW
        obtain ⟨cW, fW, lW, eW, kW⟩ := Blk.facts bW
        go_upto_region 11 with fail
        go_cut [161] (fun s161 wx => s161 = .bool false ∧ Below w.heap.size w wx ∧ Blk wx (X) 23 #[.int .i64 xl, .int .i64 xh] ∧ Blk wx (Y) 23 #[.int .i64 yl, .int .i64 yh] ∧ Blk wx (w3.heap.size) 23 #[.int .i64 ml, .int .i64 mh] ∧ Blk wx (w4.heap.size) 23 #[.int .i64 hl, .int .i64 hi] ∧ Blk wx (w5.heap.size) 23 #[.int .i64 sl, .int .i64 sh] ∧ Blk wx (w6.heap.size) 23 #[.int .i64 rl, .int .i64 rh] ∧ Blk wx (w7.heap.size) 23 #[.int .i64 wl, .int .i64 wh])
        case first =>
          have F := HF.out; clear HF
          rcases inn
          · have f2 := F.m1; have f3 : bw = false := F.w
            clear F
            subst f3
            rcases ok
            · clear f2
              as_aux_lemma =>
                go_wp2_with fail
                refine (K_8.out _).mono ?_
                rintro e w21 ⟨rfl, hb21⟩
                have K21 : Below w.heap.size w w21 := kept_call hb21 (by (repeat' (first | (with_reducible exact K20) | (with_reducible refine Below.setCell ?_ ?_ _) | (with_reducible refine Below.alloc ?_ ?_ _) | (with_reducible refine Below.drew ?_) | (with_reducible refine below_drewN ?_ _))) <;> (first | omega | (simp <;> omega)))
                have Z21 : w.heap.size ≤ w21.heap.size := K21.size
                have bX' := Blk.keep (g := X) hb21 (by (repeat' (first | (with_reducible refine' Blk.alloc ?_ _) | (with_reducible refine' Blk.drew ?_) | (with_reducible refine' Blk.drewN ?_ _) | (with_reducible refine' Blk.put ?_ ?_) | (with_reducible refine' Blk.far ?_ ?_ _) | exact bX | exact rfl)) <;> (first | omega | (simp <;> omega)))
                (try simp only [List.setIfInBounds_toArray, List.set_cons_zero, List.set_cons_succ] at bX')
                have bY' := Blk.keep (g := Y) hb21 (by (repeat' (first | (with_reducible refine' Blk.alloc ?_ _) | (with_reducible refine' Blk.drew ?_) | (with_reducible refine' Blk.drewN ?_ _) | (with_reducible refine' Blk.put ?_ ?_) | (with_reducible refine' Blk.far ?_ ?_ _) | exact bY | exact rfl)) <;> (first | omega | (simp <;> omega)))
                (try simp only [List.setIfInBounds_toArray, List.set_cons_zero, List.set_cons_succ] at bY')
                have b4_0' := Blk.keep (g := w3.heap.size) hb21 (by (repeat' (first | (with_reducible refine' Blk.alloc ?_ _) | (with_reducible refine' Blk.drew ?_) | (with_reducible refine' Blk.drewN ?_ _) | (with_reducible refine' Blk.put ?_ ?_) | (with_reducible refine' Blk.far ?_ ?_ _) | exact b4_0 | exact rfl)) <;> (first | omega | (simp <;> omega)))
                (try simp only [List.setIfInBounds_toArray, List.set_cons_zero, List.set_cons_succ] at b4_0')
                have b5_0' := Blk.keep (g := w4.heap.size) hb21 (by (repeat' (first | (with_reducible refine' Blk.alloc ?_ _) | (with_reducible refine' Blk.drew ?_) | (with_reducible refine' Blk.drewN ?_ _) | (with_reducible refine' Blk.put ?_ ?_) | (with_reducible refine' Blk.far ?_ ?_ _) | exact b5_0 | exact rfl)) <;> (first | omega | (simp <;> omega)))
                (try simp only [List.setIfInBounds_toArray, List.set_cons_zero, List.set_cons_succ] at b5_0')
                have b6_0' := Blk.keep (g := w5.heap.size) hb21 (by (repeat' (first | (with_reducible refine' Blk.alloc ?_ _) | (with_reducible refine' Blk.drew ?_) | (with_reducible refine' Blk.drewN ?_ _) | (with_reducible refine' Blk.put ?_ ?_) | (with_reducible refine' Blk.far ?_ ?_ _) | exact b6_0 | exact rfl)) <;> (first | omega | (simp <;> omega)))
                (try simp only [List.setIfInBounds_toArray, List.set_cons_zero, List.set_cons_succ] at b6_0')
                have b7_0' := Blk.keep (g := w6.heap.size) hb21 (by (repeat' (first | (with_reducible refine' Blk.alloc ?_ _) | (with_reducible refine' Blk.drew ?_) | (with_reducible refine' Blk.drewN ?_ _) | (with_reducible refine' Blk.put ?_ ?_) | (with_reducible refine' Blk.far ?_ ?_ _) | exact b7_0 | exact rfl)) <;> (first | omega | (simp <;> omega)))
                (try simp only [List.setIfInBounds_toArray, List.set_cons_zero, List.set_cons_succ] at b7_0')
                have bW' := Blk.keep (g := w7.heap.size) hb21 (by (repeat' (first | (with_reducible refine' Blk.alloc ?_ _) | (with_reducible refine' Blk.drew ?_) | (with_reducible refine' Blk.drewN ?_ _) | (with_reducible refine' Blk.put ?_ ?_) | (with_reducible refine' Blk.far ?_ ?_ _) | exact bW | exact rfl)) <;> (first | omega | (simp <;> omega)))
                (try simp only [List.setIfInBounds_toArray, List.set_cons_zero, List.set_cons_succ] at bW')
                clear hb21 K20
                clear bX cX fX lX eX kX; have bX := bX'; clear bX'
                clear bY cY fY lY eY kY; have bY := bY'; clear bY'
                clear b4_0 c4_0 f4_0 l4_0 e4_0 k4_0; have b4_0 := b4_0'; clear b4_0'
                clear b5_0 c5_0 f5_0 l5_0 e5_0 k5_0; have b5_0 := b5_0'; clear b5_0'
                clear b6_0 c6_0 f6_0 l6_0 e6_0 k6_0; have b6_0 := b6_0'; clear b6_0'
                clear b7_0 c7_0 f7_0 l7_0 e7_0 k7_0; have b7_0 := b7_0'; clear b7_0'
                clear bW cW fW lW eW kW; have bW := bW'; clear bW'
                obtain ⟨cX, fX, lX, eX, kX⟩ := Blk.facts bX
                obtain ⟨cY, fY, lY, eY, kY⟩ := Blk.facts bY
                obtain ⟨c4_0, f4_0, l4_0, e4_0, k4_0⟩ := Blk.facts b4_0
                obtain ⟨c5_0, f5_0, l5_0, e5_0, k5_0⟩ := Blk.facts b5_0
                obtain ⟨c6_0, f6_0, l6_0, e6_0, k6_0⟩ := Blk.facts b6_0
                obtain ⟨c7_0, f7_0, l7_0, e7_0, k7_0⟩ := Blk.facts b7_0
                obtain ⟨cW, fW, lW, eW, kW⟩ := Blk.facts bW
                go_wp2_with fail
                go_meet
                exact ⟨rfl, by (repeat' (first | (with_reducible exact K21) | (with_reducible refine Below.setCell ?_ ?_ _) | (with_reducible refine Below.alloc ?_ ?_ _) | (with_reducible refine Below.drew ?_) | (with_reducible refine below_drewN ?_ _))) <;> (first | omega | (simp <;> omega)), by (repeat' (first | (with_reducible exact bX) | (with_reducible refine' Blk.alloc ?_ _) | (with_reducible refine' Blk.drew ?_) | (with_reducible refine' Blk.drewN ?_ _) | (with_reducible refine' Blk.put ?_ ?_) | (with_reducible refine' Blk.far ?_ ?_ _) | exact bX | exact rfl)) <;> (first | omega | (simp <;> omega)), by (repeat' (first | (with_reducible exact bY) | (with_reducible refine' Blk.alloc ?_ _) | (with_reducible refine' Blk.drew ?_) | (with_reducible refine' Blk.drewN ?_ _) | (with_reducible refine' Blk.put ?_ ?_) | (with_reducible refine' Blk.far ?_ ?_ _) | exact bY | exact rfl)) <;> (first | omega | (simp <;> omega)), by (repeat' (first | (with_reducible exact b4_0) | (with_reducible refine' Blk.alloc ?_ _) | (with_reducible refine' Blk.drew ?_) | (with_reducible refine' Blk.drewN ?_ _) | (with_reducible refine' Blk.put ?_ ?_) | (with_reducible refine' Blk.far ?_ ?_ _) | exact b4_0 | exact rfl)) <;> (first | omega | (simp <;> omega)), by (repeat' (first | (with_reducible exact b5_0) | (with_reducible refine' Blk.alloc ?_ _) | (with_reducible refine' Blk.drew ?_) | (with_reducible refine' Blk.drewN ?_ _) | (with_reducible refine' Blk.put ?_ ?_) | (with_reducible refine' Blk.far ?_ ?_ _) | exact b5_0 | exact rfl)) <;> (first | omega | (simp <;> omega)), by (repeat' (first | (with_reducible exact b6_0) | (with_reducible refine' Blk.alloc ?_ _) | (with_reducible refine' Blk.drew ?_) | (with_reducible refine' Blk.drewN ?_ _) | (with_reducible refine' Blk.put ?_ ?_) | (with_reducible refine' Blk.far ?_ ?_ _) | exact b6_0 | exact rfl)) <;> (first | omega | (simp <;> omega)), by (repeat' (first | (with_reducible exact b7_0) | (with_reducible refine' Blk.alloc ?_ _) | (with_reducible refine' Blk.drew ?_) | (with_reducible refine' Blk.drewN ?_ _) | (with_reducible refine' Blk.put ?_ ?_) | (with_reducible refine' Blk.far ?_ ?_ _) | exact b7_0 | exact rfl)) <;> (first | omega | (simp <;> omega)), by (repeat' (first | (with_reducible exact bW) | (with_reducible refine' Blk.alloc ?_ _) | (with_reducible refine' Blk.drew ?_) | (with_reducible refine' Blk.drewN ?_ _) | (with_reducible refine' Blk.put ?_ ?_) | (with_reducible refine' Blk.far ?_ ?_ _) | exact bW | exact rfl)) <;> (first | omega | (simp <;> omega))⟩
            · have f4 := f2 rfl rfl
              clear f2
              subst f4
              as_aux_lemma =>
                go_wp2_with fail
                refine (K_3.out _).mono ?_
                rintro e w21 ⟨rfl, hb21⟩
                have K21 : Below w.heap.size w w21 := kept_call hb21 (by (repeat' (first | (with_reducible exact K20) | (with_reducible refine Below.setCell ?_ ?_ _) | (with_reducible refine Below.alloc ?_ ?_ _) | (with_reducible refine Below.drew ?_) | (with_reducible refine below_drewN ?_ _))) <;> (first | omega | (simp <;> omega)))
                have Z21 : w.heap.size ≤ w21.heap.size := K21.size
                have bX' := Blk.keep (g := X) hb21 (by (repeat' (first | (with_reducible refine' Blk.alloc ?_ _) | (with_reducible refine' Blk.drew ?_) | (with_reducible refine' Blk.drewN ?_ _) | (with_reducible refine' Blk.put ?_ ?_) | (with_reducible refine' Blk.far ?_ ?_ _) | exact bX | exact rfl)) <;> (first | omega | (simp <;> omega)))
                (try simp only [List.setIfInBounds_toArray, List.set_cons_zero, List.set_cons_succ] at bX')
                have bY' := Blk.keep (g := Y) hb21 (by (repeat' (first | (with_reducible refine' Blk.alloc ?_ _) | (with_reducible refine' Blk.drew ?_) | (with_reducible refine' Blk.drewN ?_ _) | (with_reducible refine' Blk.put ?_ ?_) | (with_reducible refine' Blk.far ?_ ?_ _) | exact bY | exact rfl)) <;> (first | omega | (simp <;> omega)))
                (try simp only [List.setIfInBounds_toArray, List.set_cons_zero, List.set_cons_succ] at bY')
                have b4_0' := Blk.keep (g := w3.heap.size) hb21 (by (repeat' (first | (with_reducible refine' Blk.alloc ?_ _) | (with_reducible refine' Blk.drew ?_) | (with_reducible refine' Blk.drewN ?_ _) | (with_reducible refine' Blk.put ?_ ?_) | (with_reducible refine' Blk.far ?_ ?_ _) | exact b4_0 | exact rfl)) <;> (first | omega | (simp <;> omega)))
                (try simp only [List.setIfInBounds_toArray, List.set_cons_zero, List.set_cons_succ] at b4_0')
                have b5_0' := Blk.keep (g := w4.heap.size) hb21 (by (repeat' (first | (with_reducible refine' Blk.alloc ?_ _) | (with_reducible refine' Blk.drew ?_) | (with_reducible refine' Blk.drewN ?_ _) | (with_reducible refine' Blk.put ?_ ?_) | (with_reducible refine' Blk.far ?_ ?_ _) | exact b5_0 | exact rfl)) <;> (first | omega | (simp <;> omega)))
                (try simp only [List.setIfInBounds_toArray, List.set_cons_zero, List.set_cons_succ] at b5_0')
                have b6_0' := Blk.keep (g := w5.heap.size) hb21 (by (repeat' (first | (with_reducible refine' Blk.alloc ?_ _) | (with_reducible refine' Blk.drew ?_) | (with_reducible refine' Blk.drewN ?_ _) | (with_reducible refine' Blk.put ?_ ?_) | (with_reducible refine' Blk.far ?_ ?_ _) | exact b6_0 | exact rfl)) <;> (first | omega | (simp <;> omega)))
                (try simp only [List.setIfInBounds_toArray, List.set_cons_zero, List.set_cons_succ] at b6_0')
                have b7_0' := Blk.keep (g := w6.heap.size) hb21 (by (repeat' (first | (with_reducible refine' Blk.alloc ?_ _) | (with_reducible refine' Blk.drew ?_) | (with_reducible refine' Blk.drewN ?_ _) | (with_reducible refine' Blk.put ?_ ?_) | (with_reducible refine' Blk.far ?_ ?_ _) | exact b7_0 | exact rfl)) <;> (first | omega | (simp <;> omega)))
                (try simp only [List.setIfInBounds_toArray, List.set_cons_zero, List.set_cons_succ] at b7_0')
                have bW' := Blk.keep (g := w7.heap.size) hb21 (by (repeat' (first | (with_reducible refine' Blk.alloc ?_ _) | (with_reducible refine' Blk.drew ?_) | (with_reducible refine' Blk.drewN ?_ _) | (with_reducible refine' Blk.put ?_ ?_) | (with_reducible refine' Blk.far ?_ ?_ _) | exact bW | exact rfl)) <;> (first | omega | (simp <;> omega)))
                (try simp only [List.setIfInBounds_toArray, List.set_cons_zero, List.set_cons_succ] at bW')
                clear hb21 K20
                clear bX cX fX lX eX kX; have bX := bX'; clear bX'
                clear bY cY fY lY eY kY; have bY := bY'; clear bY'
                clear b4_0 c4_0 f4_0 l4_0 e4_0 k4_0; have b4_0 := b4_0'; clear b4_0'
                clear b5_0 c5_0 f5_0 l5_0 e5_0 k5_0; have b5_0 := b5_0'; clear b5_0'
                clear b6_0 c6_0 f6_0 l6_0 e6_0 k6_0; have b6_0 := b6_0'; clear b6_0'
                clear b7_0 c7_0 f7_0 l7_0 e7_0 k7_0; have b7_0 := b7_0'; clear b7_0'
                clear bW cW fW lW eW kW; have bW := bW'; clear bW'
                obtain ⟨cX, fX, lX, eX, kX⟩ := Blk.facts bX
                obtain ⟨cY, fY, lY, eY, kY⟩ := Blk.facts bY
                obtain ⟨c4_0, f4_0, l4_0, e4_0, k4_0⟩ := Blk.facts b4_0
                obtain ⟨c5_0, f5_0, l5_0, e5_0, k5_0⟩ := Blk.facts b5_0
                obtain ⟨c6_0, f6_0, l6_0, e6_0, k6_0⟩ := Blk.facts b6_0
                obtain ⟨c7_0, f7_0, l7_0, e7_0, k7_0⟩ := Blk.facts b7_0
                obtain ⟨cW, fW, lW, eW, kW⟩ := Blk.facts bW
                go_wp2_with fail
                refine (K_8.out _).mono ?_
                rintro e w22 ⟨rfl, hb22⟩
                have K22 : Below w.heap.size w w22 := kept_call hb22 (by (repeat' (first | (with_reducible exact K21) | (with_reducible refine Below.setCell ?_ ?_ _) | (with_reducible refine Below.alloc ?_ ?_ _) | (with_reducible refine Below.drew ?_) | (with_reducible refine below_drewN ?_ _))) <;> (first | omega | (simp <;> omega)))
                have Z22 : w.heap.size ≤ w22.heap.size := K22.size
                have bX' := Blk.keep (g := X) hb22 (by (repeat' (first | (with_reducible refine' Blk.alloc ?_ _) | (with_reducible refine' Blk.drew ?_) | (with_reducible refine' Blk.drewN ?_ _) | (with_reducible refine' Blk.put ?_ ?_) | (with_reducible refine' Blk.far ?_ ?_ _) | exact bX | exact rfl)) <;> (first | omega | (simp <;> omega)))
                (try simp only [List.setIfInBounds_toArray, List.set_cons_zero, List.set_cons_succ] at bX')
                have bY' := Blk.keep (g := Y) hb22 (by (repeat' (first | (with_reducible refine' Blk.alloc ?_ _) | (with_reducible refine' Blk.drew ?_) | (with_reducible refine' Blk.drewN ?_ _) | (with_reducible refine' Blk.put ?_ ?_) | (with_reducible refine' Blk.far ?_ ?_ _) | exact bY | exact rfl)) <;> (first | omega | (simp <;> omega)))
                (try simp only [List.setIfInBounds_toArray, List.set_cons_zero, List.set_cons_succ] at bY')
                have b4_0' := Blk.keep (g := w3.heap.size) hb22 (by (repeat' (first | (with_reducible refine' Blk.alloc ?_ _) | (with_reducible refine' Blk.drew ?_) | (with_reducible refine' Blk.drewN ?_ _) | (with_reducible refine' Blk.put ?_ ?_) | (with_reducible refine' Blk.far ?_ ?_ _) | exact b4_0 | exact rfl)) <;> (first | omega | (simp <;> omega)))
                (try simp only [List.setIfInBounds_toArray, List.set_cons_zero, List.set_cons_succ] at b4_0')
                have b5_0' := Blk.keep (g := w4.heap.size) hb22 (by (repeat' (first | (with_reducible refine' Blk.alloc ?_ _) | (with_reducible refine' Blk.drew ?_) | (with_reducible refine' Blk.drewN ?_ _) | (with_reducible refine' Blk.put ?_ ?_) | (with_reducible refine' Blk.far ?_ ?_ _) | exact b5_0 | exact rfl)) <;> (first | omega | (simp <;> omega)))
                (try simp only [List.setIfInBounds_toArray, List.set_cons_zero, List.set_cons_succ] at b5_0')
                have b6_0' := Blk.keep (g := w5.heap.size) hb22 (by (repeat' (first | (with_reducible refine' Blk.alloc ?_ _) | (with_reducible refine' Blk.drew ?_) | (with_reducible refine' Blk.drewN ?_ _) | (with_reducible refine' Blk.put ?_ ?_) | (with_reducible refine' Blk.far ?_ ?_ _) | exact b6_0 | exact rfl)) <;> (first | omega | (simp <;> omega)))
                (try simp only [List.setIfInBounds_toArray, List.set_cons_zero, List.set_cons_succ] at b6_0')
                have b7_0' := Blk.keep (g := w6.heap.size) hb22 (by (repeat' (first | (with_reducible refine' Blk.alloc ?_ _) | (with_reducible refine' Blk.drew ?_) | (with_reducible refine' Blk.drewN ?_ _) | (with_reducible refine' Blk.put ?_ ?_) | (with_reducible refine' Blk.far ?_ ?_ _) | exact b7_0 | exact rfl)) <;> (first | omega | (simp <;> omega)))
                (try simp only [List.setIfInBounds_toArray, List.set_cons_zero, List.set_cons_succ] at b7_0')
                have bW' := Blk.keep (g := w7.heap.size) hb22 (by (repeat' (first | (with_reducible refine' Blk.alloc ?_ _) | (with_reducible refine' Blk.drew ?_) | (with_reducible refine' Blk.drewN ?_ _) | (with_reducible refine' Blk.put ?_ ?_) | (with_reducible refine' Blk.far ?_ ?_ _) | exact bW | exact rfl)) <;> (first | omega | (simp <;> omega)))
                (try simp only [List.setIfInBounds_toArray, List.set_cons_zero, List.set_cons_succ] at bW')
                clear hb22 K21
                clear bX cX fX lX eX kX; have bX := bX'; clear bX'
                clear bY cY fY lY eY kY; have bY := bY'; clear bY'
                clear b4_0 c4_0 f4_0 l4_0 e4_0 k4_0; have b4_0 := b4_0'; clear b4_0'
                clear b5_0 c5_0 f5_0 l5_0 e5_0 k5_0; have b5_0 := b5_0'; clear b5_0'
                clear b6_0 c6_0 f6_0 l6_0 e6_0 k6_0; have b6_0 := b6_0'; clear b6_0'
                clear b7_0 c7_0 f7_0 l7_0 e7_0 k7_0; have b7_0 := b7_0'; clear b7_0'
                clear bW cW fW lW eW kW; have bW := bW'; clear bW'
                obtain ⟨cX, fX, lX, eX, kX⟩ := Blk.facts bX
                obtain ⟨cY, fY, lY, eY, kY⟩ := Blk.facts bY
                obtain ⟨c4_0, f4_0, l4_0, e4_0, k4_0⟩ := Blk.facts b4_0
                obtain ⟨c5_0, f5_0, l5_0, e5_0, k5_0⟩ := Blk.facts b5_0
                obtain ⟨c6_0, f6_0, l6_0, e6_0, k6_0⟩ := Blk.facts b6_0
                obtain ⟨c7_0, f7_0, l7_0, e7_0, k7_0⟩ := Blk.facts b7_0
                obtain ⟨cW, fW, lW, eW, kW⟩ := Blk.facts bW
                go_wp2_with fail
                go_meet
                exact ⟨rfl, by (repeat' (first | (with_reducible exact K22) | (with_reducible refine Below.setCell ?_ ?_ _) | (with_reducible refine Below.alloc ?_ ?_ _) | (with_reducible refine Below.drew ?_) | (with_reducible refine below_drewN ?_ _))) <;> (first | omega | (simp <;> omega)), by (repeat' (first | (with_reducible exact bX) | (with_reducible refine' Blk.alloc ?_ _) | (with_reducible refine' Blk.drew ?_) | (with_reducible refine' Blk.drewN ?_ _) | (with_reducible refine' Blk.put ?_ ?_) | (with_reducible refine' Blk.far ?_ ?_ _) | exact bX | exact rfl)) <;> (first | omega | (simp <;> omega)), by (repeat' (first | (with_reducible exact bY) | (with_reducible refine' Blk.alloc ?_ _) | (with_reducible refine' Blk.drew ?_) | (with_reducible refine' Blk.drewN ?_ _) | (with_reducible refine' Blk.put ?_ ?_) | (with_reducible refine' Blk.far ?_ ?_ _) | exact bY | exact rfl)) <;> (first | omega | (simp <;> omega)), by (repeat' (first | (with_reducible exact b4_0) | (with_reducible refine' Blk.alloc ?_ _) | (with_reducible refine' Blk.drew ?_) | (with_reducible refine' Blk.drewN ?_ _) | (with_reducible refine' Blk.put ?_ ?_) | (with_reducible refine' Blk.far ?_ ?_ _) | exact b4_0 | exact rfl)) <;> (first | omega | (simp <;> omega)), by (repeat' (first | (with_reducible exact b5_0) | (with_reducible refine' Blk.alloc ?_ _) | (with_reducible refine' Blk.drew ?_) | (with_reducible refine' Blk.drewN ?_ _) | (with_reducible refine' Blk.put ?_ ?_) | (with_reducible refine' Blk.far ?_ ?_ _) | exact b5_0 | exact rfl)) <;> (first | omega | (simp <;> omega)), by (repeat' (first | (with_reducible exact b6_0) | (with_reducible refine' Blk.alloc ?_ _) | (with_reducible refine' Blk.drew ?_) | (with_reducible refine' Blk.drewN ?_ _) | (with_reducible refine' Blk.put ?_ ?_) | (with_reducible refine' Blk.far ?_ ?_ _) | exact b6_0 | exact rfl)) <;> (first | omega | (simp <;> omega)), by (repeat' (first | (with_reducible exact b7_0) | (with_reducible refine' Blk.alloc ?_ _) | (with_reducible refine' Blk.drew ?_) | (with_reducible refine' Blk.drewN ?_ _) | (with_reducible refine' Blk.put ?_ ?_) | (with_reducible refine' Blk.far ?_ ?_ _) | exact b7_0 | exact rfl)) <;> (first | omega | (simp <;> omega)), by (repeat' (first | (with_reducible exact bW) | (with_reducible refine' Blk.alloc ?_ _) | (with_reducible refine' Blk.drew ?_) | (with_reducible refine' Blk.drewN ?_ _) | (with_reducible refine' Blk.put ?_ ?_) | (with_reducible refine' Blk.far ?_ ?_ _) | exact bW | exact rfl)) <;> (first | omega | (simp <;> omega))⟩
          · have f3 := F.h rfl; have f4 := F.s rfl; have f5 := F.m; have f6 := F.m0; have f7 : bw = true := F.w
            clear F
            subst f3; subst f7
            rcases ok
            · have f8 := f6 rfl rfl
              clear f5 f6
              subst f8
              rcases on
              · clear f4
                as_aux_lemma =>
                  go_wp2_with fail
                  refine (K_4.out _).mono ?_
                  rintro e w21 ⟨rfl, hb21⟩
                  have K21 : Below w.heap.size w w21 := kept_call hb21 (by (repeat' (first | (with_reducible exact K20) | (with_reducible refine Below.setCell ?_ ?_ _) | (with_reducible refine Below.alloc ?_ ?_ _) | (with_reducible refine Below.drew ?_) | (with_reducible refine below_drewN ?_ _))) <;> (first | omega | (simp <;> omega)))
                  have Z21 : w.heap.size ≤ w21.heap.size := K21.size
                  have bX' := Blk.keep (g := X) hb21 (by (repeat' (first | (with_reducible refine' Blk.alloc ?_ _) | (with_reducible refine' Blk.drew ?_) | (with_reducible refine' Blk.drewN ?_ _) | (with_reducible refine' Blk.put ?_ ?_) | (with_reducible refine' Blk.far ?_ ?_ _) | exact bX | exact rfl)) <;> (first | omega | (simp <;> omega)))
                  (try simp only [List.setIfInBounds_toArray, List.set_cons_zero, List.set_cons_succ] at bX')
                  have bY' := Blk.keep (g := Y) hb21 (by (repeat' (first | (with_reducible refine' Blk.alloc ?_ _) | (with_reducible refine' Blk.drew ?_) | (with_reducible refine' Blk.drewN ?_ _) | (with_reducible refine' Blk.put ?_ ?_) | (with_reducible refine' Blk.far ?_ ?_ _) | exact bY | exact rfl)) <;> (first | omega | (simp <;> omega)))
                  (try simp only [List.setIfInBounds_toArray, List.set_cons_zero, List.set_cons_succ] at bY')
                  have b4_0' := Blk.keep (g := w3.heap.size) hb21 (by (repeat' (first | (with_reducible refine' Blk.alloc ?_ _) | (with_reducible refine' Blk.drew ?_) | (with_reducible refine' Blk.drewN ?_ _) | (with_reducible refine' Blk.put ?_ ?_) | (with_reducible refine' Blk.far ?_ ?_ _) | exact b4_0 | exact rfl)) <;> (first | omega | (simp <;> omega)))
                  (try simp only [List.setIfInBounds_toArray, List.set_cons_zero, List.set_cons_succ] at b4_0')
                  have b5_0' := Blk.keep (g := w4.heap.size) hb21 (by (repeat' (first | (with_reducible refine' Blk.alloc ?_ _) | (with_reducible refine' Blk.drew ?_) | (with_reducible refine' Blk.drewN ?_ _) | (with_reducible refine' Blk.put ?_ ?_) | (with_reducible refine' Blk.far ?_ ?_ _) | exact b5_0 | exact rfl)) <;> (first | omega | (simp <;> omega)))
                  (try simp only [List.setIfInBounds_toArray, List.set_cons_zero, List.set_cons_succ] at b5_0')
                  have b6_0' := Blk.keep (g := w5.heap.size) hb21 (by (repeat' (first | (with_reducible refine' Blk.alloc ?_ _) | (with_reducible refine' Blk.drew ?_) | (with_reducible refine' Blk.drewN ?_ _) | (with_reducible refine' Blk.put ?_ ?_) | (with_reducible refine' Blk.far ?_ ?_ _) | exact b6_0 | exact rfl)) <;> (first | omega | (simp <;> omega)))
                  (try simp only [List.setIfInBounds_toArray, List.set_cons_zero, List.set_cons_succ] at b6_0')
                  have b7_0' := Blk.keep (g := w6.heap.size) hb21 (by (repeat' (first | (with_reducible refine' Blk.alloc ?_ _) | (with_reducible refine' Blk.drew ?_) | (with_reducible refine' Blk.drewN ?_ _) | (with_reducible refine' Blk.put ?_ ?_) | (with_reducible refine' Blk.far ?_ ?_ _) | exact b7_0 | exact rfl)) <;> (first | omega | (simp <;> omega)))
                  (try simp only [List.setIfInBounds_toArray, List.set_cons_zero, List.set_cons_succ] at b7_0')
                  have bW' := Blk.keep (g := w7.heap.size) hb21 (by (repeat' (first | (with_reducible refine' Blk.alloc ?_ _) | (with_reducible refine' Blk.drew ?_) | (with_reducible refine' Blk.drewN ?_ _) | (with_reducible refine' Blk.put ?_ ?_) | (with_reducible refine' Blk.far ?_ ?_ _) | exact bW | exact rfl)) <;> (first | omega | (simp <;> omega)))
                  (try simp only [List.setIfInBounds_toArray, List.set_cons_zero, List.set_cons_succ] at bW')
                  clear hb21 K20
                  clear bX cX fX lX eX kX; have bX := bX'; clear bX'
                  clear bY cY fY lY eY kY; have bY := bY'; clear bY'
                  clear b4_0 c4_0 f4_0 l4_0 e4_0 k4_0; have b4_0 := b4_0'; clear b4_0'
                  clear b5_0 c5_0 f5_0 l5_0 e5_0 k5_0; have b5_0 := b5_0'; clear b5_0'
                  clear b6_0 c6_0 f6_0 l6_0 e6_0 k6_0; have b6_0 := b6_0'; clear b6_0'
                  clear b7_0 c7_0 f7_0 l7_0 e7_0 k7_0; have b7_0 := b7_0'; clear b7_0'
                  clear bW cW fW lW eW kW; have bW := bW'; clear bW'
                  obtain ⟨cX, fX, lX, eX, kX⟩ := Blk.facts bX
                  obtain ⟨cY, fY, lY, eY, kY⟩ := Blk.facts bY
                  obtain ⟨c4_0, f4_0, l4_0, e4_0, k4_0⟩ := Blk.facts b4_0
                  obtain ⟨c5_0, f5_0, l5_0, e5_0, k5_0⟩ := Blk.facts b5_0
                  obtain ⟨c6_0, f6_0, l6_0, e6_0, k6_0⟩ := Blk.facts b6_0
                  obtain ⟨c7_0, f7_0, l7_0, e7_0, k7_0⟩ := Blk.facts b7_0
                  obtain ⟨cW, fW, lW, eW, kW⟩ := Blk.facts bW
                  go_wp2_with fail
                  refine (K_5.out _).mono ?_
                  rintro e w22 ⟨rfl, hb22⟩
                  have K22 : Below w.heap.size w w22 := kept_call hb22 (by (repeat' (first | (with_reducible exact K21) | (with_reducible refine Below.setCell ?_ ?_ _) | (with_reducible refine Below.alloc ?_ ?_ _) | (with_reducible refine Below.drew ?_) | (with_reducible refine below_drewN ?_ _))) <;> (first | omega | (simp <;> omega)))
                  have Z22 : w.heap.size ≤ w22.heap.size := K22.size
                  have bX' := Blk.keep (g := X) hb22 (by (repeat' (first | (with_reducible refine' Blk.alloc ?_ _) | (with_reducible refine' Blk.drew ?_) | (with_reducible refine' Blk.drewN ?_ _) | (with_reducible refine' Blk.put ?_ ?_) | (with_reducible refine' Blk.far ?_ ?_ _) | exact bX | exact rfl)) <;> (first | omega | (simp <;> omega)))
                  (try simp only [List.setIfInBounds_toArray, List.set_cons_zero, List.set_cons_succ] at bX')
                  have bY' := Blk.keep (g := Y) hb22 (by (repeat' (first | (with_reducible refine' Blk.alloc ?_ _) | (with_reducible refine' Blk.drew ?_) | (with_reducible refine' Blk.drewN ?_ _) | (with_reducible refine' Blk.put ?_ ?_) | (with_reducible refine' Blk.far ?_ ?_ _) | exact bY | exact rfl)) <;> (first | omega | (simp <;> omega)))
                  (try simp only [List.setIfInBounds_toArray, List.set_cons_zero, List.set_cons_succ] at bY')
                  have b4_0' := Blk.keep (g := w3.heap.size) hb22 (by (repeat' (first | (with_reducible refine' Blk.alloc ?_ _) | (with_reducible refine' Blk.drew ?_) | (with_reducible refine' Blk.drewN ?_ _) | (with_reducible refine' Blk.put ?_ ?_) | (with_reducible refine' Blk.far ?_ ?_ _) | exact b4_0 | exact rfl)) <;> (first | omega | (simp <;> omega)))
                  (try simp only [List.setIfInBounds_toArray, List.set_cons_zero, List.set_cons_succ] at b4_0')
                  have b5_0' := Blk.keep (g := w4.heap.size) hb22 (by (repeat' (first | (with_reducible refine' Blk.alloc ?_ _) | (with_reducible refine' Blk.drew ?_) | (with_reducible refine' Blk.drewN ?_ _) | (with_reducible refine' Blk.put ?_ ?_) | (with_reducible refine' Blk.far ?_ ?_ _) | exact b5_0 | exact rfl)) <;> (first | omega | (simp <;> omega)))
                  (try simp only [List.setIfInBounds_toArray, List.set_cons_zero, List.set_cons_succ] at b5_0')
                  have b6_0' := Blk.keep (g := w5.heap.size) hb22 (by (repeat' (first | (with_reducible refine' Blk.alloc ?_ _) | (with_reducible refine' Blk.drew ?_) | (with_reducible refine' Blk.drewN ?_ _) | (with_reducible refine' Blk.put ?_ ?_) | (with_reducible refine' Blk.far ?_ ?_ _) | exact b6_0 | exact rfl)) <;> (first | omega | (simp <;> omega)))
                  (try simp only [List.setIfInBounds_toArray, List.set_cons_zero, List.set_cons_succ] at b6_0')
                  have b7_0' := Blk.keep (g := w6.heap.size) hb22 (by (repeat' (first | (with_reducible refine' Blk.alloc ?_ _) | (with_reducible refine' Blk.drew ?_) | (with_reducible refine' Blk.drewN ?_ _) | (with_reducible refine' Blk.put ?_ ?_) | (with_reducible refine' Blk.far ?_ ?_ _) | exact b7_0 | exact rfl)) <;> (first | omega | (simp <;> omega)))
                  (try simp only [List.setIfInBounds_toArray, List.set_cons_zero, List.set_cons_succ] at b7_0')
                  have bW' := Blk.keep (g := w7.heap.size) hb22 (by (repeat' (first | (with_reducible refine' Blk.alloc ?_ _) | (with_reducible refine' Blk.drew ?_) | (with_reducible refine' Blk.drewN ?_ _) | (with_reducible refine' Blk.put ?_ ?_) | (with_reducible refine' Blk.far ?_ ?_ _) | exact bW | exact rfl)) <;> (first | omega | (simp <;> omega)))
                  (try simp only [List.setIfInBounds_toArray, List.set_cons_zero, List.set_cons_succ] at bW')
                  clear hb22 K21
                  clear bX cX fX lX eX kX; have bX := bX'; clear bX'
                  clear bY cY fY lY eY kY; have bY := bY'; clear bY'
                  clear b4_0 c4_0 f4_0 l4_0 e4_0 k4_0; have b4_0 := b4_0'; clear b4_0'
                  clear b5_0 c5_0 f5_0 l5_0 e5_0 k5_0; have b5_0 := b5_0'; clear b5_0'
                  clear b6_0 c6_0 f6_0 l6_0 e6_0 k6_0; have b6_0 := b6_0'; clear b6_0'
                  clear b7_0 c7_0 f7_0 l7_0 e7_0 k7_0; have b7_0 := b7_0'; clear b7_0'
                  clear bW cW fW lW eW kW; have bW := bW'; clear bW'
                  obtain ⟨cX, fX, lX, eX, kX⟩ := Blk.facts bX
                  obtain ⟨cY, fY, lY, eY, kY⟩ := Blk.facts bY
                  obtain ⟨c4_0, f4_0, l4_0, e4_0, k4_0⟩ := Blk.facts b4_0
                  obtain ⟨c5_0, f5_0, l5_0, e5_0, k5_0⟩ := Blk.facts b5_0
                  obtain ⟨c6_0, f6_0, l6_0, e6_0, k6_0⟩ := Blk.facts b6_0
                  obtain ⟨c7_0, f7_0, l7_0, e7_0, k7_0⟩ := Blk.facts b7_0
                  obtain ⟨cW, fW, lW, eW, kW⟩ := Blk.facts bW
                  go_wp2_with fail
                  refine (K_8.out _).mono ?_
                  rintro e w23 ⟨rfl, hb23⟩
                  have K23 : Below w.heap.size w w23 := kept_call hb23 (by (repeat' (first | (with_reducible exact K22) | (with_reducible refine Below.setCell ?_ ?_ _) | (with_reducible refine Below.alloc ?_ ?_ _) | (with_reducible refine Below.drew ?_) | (with_reducible refine below_drewN ?_ _))) <;> (first | omega | (simp <;> omega)))
                  have Z23 : w.heap.size ≤ w23.heap.size := K23.size
                  have bX' := Blk.keep (g := X) hb23 (by (repeat' (first | (with_reducible refine' Blk.alloc ?_ _) | (with_reducible refine' Blk.drew ?_) | (with_reducible refine' Blk.drewN ?_ _) | (with_reducible refine' Blk.put ?_ ?_) | (with_reducible refine' Blk.far ?_ ?_ _) | exact bX | exact rfl)) <;> (first | omega | (simp <;> omega)))
                  (try simp only [List.setIfInBounds_toArray, List.set_cons_zero, List.set_cons_succ] at bX')
                  have bY' := Blk.keep (g := Y) hb23 (by (repeat' (first | (with_reducible refine' Blk.alloc ?_ _) | (with_reducible refine' Blk.drew ?_) | (with_reducible refine' Blk.drewN ?_ _) | (with_reducible refine' Blk.put ?_ ?_) | (with_reducible refine' Blk.far ?_ ?_ _) | exact bY | exact rfl)) <;> (first | omega | (simp <;> omega)))
                  (try simp only [List.setIfInBounds_toArray, List.set_cons_zero, List.set_cons_succ] at bY')
                  have b4_0' := Blk.keep (g := w3.heap.size) hb23 (by (repeat' (first | (with_reducible refine' Blk.alloc ?_ _) | (with_reducible refine' Blk.drew ?_) | (with_reducible refine' Blk.drewN ?_ _) | (with_reducible refine' Blk.put ?_ ?_) | (with_reducible refine' Blk.far ?_ ?_ _) | exact b4_0 | exact rfl)) <;> (first | omega | (simp <;> omega)))
                  (try simp only [List.setIfInBounds_toArray, List.set_cons_zero, List.set_cons_succ] at b4_0')
                  have b5_0' := Blk.keep (g := w4.heap.size) hb23 (by (repeat' (first | (with_reducible refine' Blk.alloc ?_ _) | (with_reducible refine' Blk.drew ?_) | (with_reducible refine' Blk.drewN ?_ _) | (with_reducible refine' Blk.put ?_ ?_) | (with_reducible refine' Blk.far ?_ ?_ _) | exact b5_0 | exact rfl)) <;> (first | omega | (simp <;> omega)))
                  (try simp only [List.setIfInBounds_toArray, List.set_cons_zero, List.set_cons_succ] at b5_0')
                  have b6_0' := Blk.keep (g := w5.heap.size) hb23 (by (repeat' (first | (with_reducible refine' Blk.alloc ?_ _) | (with_reducible refine' Blk.drew ?_) | (with_reducible refine' Blk.drewN ?_ _) | (with_reducible refine' Blk.put ?_ ?_) | (with_reducible refine' Blk.far ?_ ?_ _) | exact b6_0 | exact rfl)) <;> (first | omega | (simp <;> omega)))
                  (try simp only [List.setIfInBounds_toArray, List.set_cons_zero, List.set_cons_succ] at b6_0')
                  have b7_0' := Blk.keep (g := w6.heap.size) hb23 (by (repeat' (first | (with_reducible refine' Blk.alloc ?_ _) | (with_reducible refine' Blk.drew ?_) | (with_reducible refine' Blk.drewN ?_ _) | (with_reducible refine' Blk.put ?_ ?_) | (with_reducible refine' Blk.far ?_ ?_ _) | exact b7_0 | exact rfl)) <;> (first | omega | (simp <;> omega)))
                  (try simp only [List.setIfInBounds_toArray, List.set_cons_zero, List.set_cons_succ] at b7_0')
                  have bW' := Blk.keep (g := w7.heap.size) hb23 (by (repeat' (first | (with_reducible refine' Blk.alloc ?_ _) | (with_reducible refine' Blk.drew ?_) | (with_reducible refine' Blk.drewN ?_ _) | (with_reducible refine' Blk.put ?_ ?_) | (with_reducible refine' Blk.far ?_ ?_ _) | exact bW | exact rfl)) <;> (first | omega | (simp <;> omega)))
                  (try simp only [List.setIfInBounds_toArray, List.set_cons_zero, List.set_cons_succ] at bW')
                  clear hb23 K22
                  clear bX cX fX lX eX kX; have bX := bX'; clear bX'
                  clear bY cY fY lY eY kY; have bY := bY'; clear bY'
                  clear b4_0 c4_0 f4_0 l4_0 e4_0 k4_0; have b4_0 := b4_0'; clear b4_0'
                  clear b5_0 c5_0 f5_0 l5_0 e5_0 k5_0; have b5_0 := b5_0'; clear b5_0'
                  clear b6_0 c6_0 f6_0 l6_0 e6_0 k6_0; have b6_0 := b6_0'; clear b6_0'
                  clear b7_0 c7_0 f7_0 l7_0 e7_0 k7_0; have b7_0 := b7_0'; clear b7_0'
                  clear bW cW fW lW eW kW; have bW := bW'; clear bW'
                  obtain ⟨cX, fX, lX, eX, kX⟩ := Blk.facts bX
                  obtain ⟨cY, fY, lY, eY, kY⟩ := Blk.facts bY
                  obtain ⟨c4_0, f4_0, l4_0, e4_0, k4_0⟩ := Blk.facts b4_0
                  obtain ⟨c5_0, f5_0, l5_0, e5_0, k5_0⟩ := Blk.facts b5_0
                  obtain ⟨c6_0, f6_0, l6_0, e6_0, k6_0⟩ := Blk.facts b6_0
                  obtain ⟨c7_0, f7_0, l7_0, e7_0, k7_0⟩ := Blk.facts b7_0
                  obtain ⟨cW, fW, lW, eW, kW⟩ := Blk.facts bW
                  go_wp2_with fail
                  go_meet
                  exact ⟨rfl, by (repeat' (first | (with_reducible exact K23) | (with_reducible refine Below.setCell ?_ ?_ _) | (with_reducible refine Below.alloc ?_ ?_ _) | (with_reducible refine Below.drew ?_) | (with_reducible refine below_drewN ?_ _))) <;> (first | omega | (simp <;> omega)), by (repeat' (first | (with_reducible exact bX) | (with_reducible refine' Blk.alloc ?_ _) | (with_reducible refine' Blk.drew ?_) | (with_reducible refine' Blk.drewN ?_ _) | (with_reducible refine' Blk.put ?_ ?_) | (with_reducible refine' Blk.far ?_ ?_ _) | exact bX | exact rfl)) <;> (first | omega | (simp <;> omega)), by (repeat' (first | (with_reducible exact bY) | (with_reducible refine' Blk.alloc ?_ _) | (with_reducible refine' Blk.drew ?_) | (with_reducible refine' Blk.drewN ?_ _) | (with_reducible refine' Blk.put ?_ ?_) | (with_reducible refine' Blk.far ?_ ?_ _) | exact bY | exact rfl)) <;> (first | omega | (simp <;> omega)), by (repeat' (first | (with_reducible exact b4_0) | (with_reducible refine' Blk.alloc ?_ _) | (with_reducible refine' Blk.drew ?_) | (with_reducible refine' Blk.drewN ?_ _) | (with_reducible refine' Blk.put ?_ ?_) | (with_reducible refine' Blk.far ?_ ?_ _) | exact b4_0 | exact rfl)) <;> (first | omega | (simp <;> omega)), by (repeat' (first | (with_reducible exact b5_0) | (with_reducible refine' Blk.alloc ?_ _) | (with_reducible refine' Blk.drew ?_) | (with_reducible refine' Blk.drewN ?_ _) | (with_reducible refine' Blk.put ?_ ?_) | (with_reducible refine' Blk.far ?_ ?_ _) | exact b5_0 | exact rfl)) <;> (first | omega | (simp <;> omega)), by (repeat' (first | (with_reducible exact b6_0) | (with_reducible refine' Blk.alloc ?_ _) | (with_reducible refine' Blk.drew ?_) | (with_reducible refine' Blk.drewN ?_ _) | (with_reducible refine' Blk.put ?_ ?_) | (with_reducible refine' Blk.far ?_ ?_ _) | exact b6_0 | exact rfl)) <;> (first | omega | (simp <;> omega)), by (repeat' (first | (with_reducible exact b7_0) | (with_reducible refine' Blk.alloc ?_ _) | (with_reducible refine' Blk.drew ?_) | (with_reducible refine' Blk.drewN ?_ _) | (with_reducible refine' Blk.put ?_ ?_) | (with_reducible refine' Blk.far ?_ ?_ _) | exact b7_0 | exact rfl)) <;> (first | omega | (simp <;> omega)), by (repeat' (first | (with_reducible exact bW) | (with_reducible refine' Blk.alloc ?_ _) | (with_reducible refine' Blk.drew ?_) | (with_reducible refine' Blk.drewN ?_ _) | (with_reducible refine' Blk.put ?_ ?_) | (with_reducible refine' Blk.far ?_ ?_ _) | exact bW | exact rfl)) <;> (first | omega | (simp <;> omega))⟩
              · obtain ⟨f9, f10⟩ := f4 rfl
                clear f4
                subst f9; subst f10
                as_aux_lemma =>
                  go_wp2_with fail
                  refine (K_4.out _).mono ?_
                  rintro e w21 ⟨rfl, hb21⟩
                  have K21 : Below w.heap.size w w21 := kept_call hb21 (by (repeat' (first | (with_reducible exact K20) | (with_reducible refine Below.setCell ?_ ?_ _) | (with_reducible refine Below.alloc ?_ ?_ _) | (with_reducible refine Below.drew ?_) | (with_reducible refine below_drewN ?_ _))) <;> (first | omega | (simp <;> omega)))
                  have Z21 : w.heap.size ≤ w21.heap.size := K21.size
                  have bX' := Blk.keep (g := X) hb21 (by (repeat' (first | (with_reducible refine' Blk.alloc ?_ _) | (with_reducible refine' Blk.drew ?_) | (with_reducible refine' Blk.drewN ?_ _) | (with_reducible refine' Blk.put ?_ ?_) | (with_reducible refine' Blk.far ?_ ?_ _) | exact bX | exact rfl)) <;> (first | omega | (simp <;> omega)))
                  (try simp only [List.setIfInBounds_toArray, List.set_cons_zero, List.set_cons_succ] at bX')
                  have bY' := Blk.keep (g := Y) hb21 (by (repeat' (first | (with_reducible refine' Blk.alloc ?_ _) | (with_reducible refine' Blk.drew ?_) | (with_reducible refine' Blk.drewN ?_ _) | (with_reducible refine' Blk.put ?_ ?_) | (with_reducible refine' Blk.far ?_ ?_ _) | exact bY | exact rfl)) <;> (first | omega | (simp <;> omega)))
                  (try simp only [List.setIfInBounds_toArray, List.set_cons_zero, List.set_cons_succ] at bY')
                  have b4_0' := Blk.keep (g := w3.heap.size) hb21 (by (repeat' (first | (with_reducible refine' Blk.alloc ?_ _) | (with_reducible refine' Blk.drew ?_) | (with_reducible refine' Blk.drewN ?_ _) | (with_reducible refine' Blk.put ?_ ?_) | (with_reducible refine' Blk.far ?_ ?_ _) | exact b4_0 | exact rfl)) <;> (first | omega | (simp <;> omega)))
                  (try simp only [List.setIfInBounds_toArray, List.set_cons_zero, List.set_cons_succ] at b4_0')
                  have b5_0' := Blk.keep (g := w4.heap.size) hb21 (by (repeat' (first | (with_reducible refine' Blk.alloc ?_ _) | (with_reducible refine' Blk.drew ?_) | (with_reducible refine' Blk.drewN ?_ _) | (with_reducible refine' Blk.put ?_ ?_) | (with_reducible refine' Blk.far ?_ ?_ _) | exact b5_0 | exact rfl)) <;> (first | omega | (simp <;> omega)))
                  (try simp only [List.setIfInBounds_toArray, List.set_cons_zero, List.set_cons_succ] at b5_0')
                  have b6_0' := Blk.keep (g := w5.heap.size) hb21 (by (repeat' (first | (with_reducible refine' Blk.alloc ?_ _) | (with_reducible refine' Blk.drew ?_) | (with_reducible refine' Blk.drewN ?_ _) | (with_reducible refine' Blk.put ?_ ?_) | (with_reducible refine' Blk.far ?_ ?_ _) | exact b6_0 | exact rfl)) <;> (first | omega | (simp <;> omega)))
                  (try simp only [List.setIfInBounds_toArray, List.set_cons_zero, List.set_cons_succ] at b6_0')
                  have b7_0' := Blk.keep (g := w6.heap.size) hb21 (by (repeat' (first | (with_reducible refine' Blk.alloc ?_ _) | (with_reducible refine' Blk.drew ?_) | (with_reducible refine' Blk.drewN ?_ _) | (with_reducible refine' Blk.put ?_ ?_) | (with_reducible refine' Blk.far ?_ ?_ _) | exact b7_0 | exact rfl)) <;> (first | omega | (simp <;> omega)))
                  (try simp only [List.setIfInBounds_toArray, List.set_cons_zero, List.set_cons_succ] at b7_0')
                  have bW' := Blk.keep (g := w7.heap.size) hb21 (by (repeat' (first | (with_reducible refine' Blk.alloc ?_ _) | (with_reducible refine' Blk.drew ?_) | (with_reducible refine' Blk.drewN ?_ _) | (with_reducible refine' Blk.put ?_ ?_) | (with_reducible refine' Blk.far ?_ ?_ _) | exact bW | exact rfl)) <;> (first | omega | (simp <;> omega)))
                  (try simp only [List.setIfInBounds_toArray, List.set_cons_zero, List.set_cons_succ] at bW')
                  clear hb21 K20
                  clear bX cX fX lX eX kX; have bX := bX'; clear bX'
                  clear bY cY fY lY eY kY; have bY := bY'; clear bY'
                  clear b4_0 c4_0 f4_0 l4_0 e4_0 k4_0; have b4_0 := b4_0'; clear b4_0'
                  clear b5_0 c5_0 f5_0 l5_0 e5_0 k5_0; have b5_0 := b5_0'; clear b5_0'
                  clear b6_0 c6_0 f6_0 l6_0 e6_0 k6_0; have b6_0 := b6_0'; clear b6_0'
                  clear b7_0 c7_0 f7_0 l7_0 e7_0 k7_0; have b7_0 := b7_0'; clear b7_0'
                  clear bW cW fW lW eW kW; have bW := bW'; clear bW'
                  obtain ⟨cX, fX, lX, eX, kX⟩ := Blk.facts bX
                  obtain ⟨cY, fY, lY, eY, kY⟩ := Blk.facts bY
                  obtain ⟨c4_0, f4_0, l4_0, e4_0, k4_0⟩ := Blk.facts b4_0
                  obtain ⟨c5_0, f5_0, l5_0, e5_0, k5_0⟩ := Blk.facts b5_0
                  obtain ⟨c6_0, f6_0, l6_0, e6_0, k6_0⟩ := Blk.facts b6_0
                  obtain ⟨c7_0, f7_0, l7_0, e7_0, k7_0⟩ := Blk.facts b7_0
                  obtain ⟨cW, fW, lW, eW, kW⟩ := Blk.facts bW
                  go_wp2_with fail
                  refine (K_5.out _).mono ?_
                  rintro e w22 ⟨rfl, hb22⟩
                  have K22 : Below w.heap.size w w22 := kept_call hb22 (by (repeat' (first | (with_reducible exact K21) | (with_reducible refine Below.setCell ?_ ?_ _) | (with_reducible refine Below.alloc ?_ ?_ _) | (with_reducible refine Below.drew ?_) | (with_reducible refine below_drewN ?_ _))) <;> (first | omega | (simp <;> omega)))
                  have Z22 : w.heap.size ≤ w22.heap.size := K22.size
                  have bX' := Blk.keep (g := X) hb22 (by (repeat' (first | (with_reducible refine' Blk.alloc ?_ _) | (with_reducible refine' Blk.drew ?_) | (with_reducible refine' Blk.drewN ?_ _) | (with_reducible refine' Blk.put ?_ ?_) | (with_reducible refine' Blk.far ?_ ?_ _) | exact bX | exact rfl)) <;> (first | omega | (simp <;> omega)))
                  (try simp only [List.setIfInBounds_toArray, List.set_cons_zero, List.set_cons_succ] at bX')
                  have bY' := Blk.keep (g := Y) hb22 (by (repeat' (first | (with_reducible refine' Blk.alloc ?_ _) | (with_reducible refine' Blk.drew ?_) | (with_reducible refine' Blk.drewN ?_ _) | (with_reducible refine' Blk.put ?_ ?_) | (with_reducible refine' Blk.far ?_ ?_ _) | exact bY | exact rfl)) <;> (first | omega | (simp <;> omega)))
                  (try simp only [List.setIfInBounds_toArray, List.set_cons_zero, List.set_cons_succ] at bY')
                  have b4_0' := Blk.keep (g := w3.heap.size) hb22 (by (repeat' (first | (with_reducible refine' Blk.alloc ?_ _) | (with_reducible refine' Blk.drew ?_) | (with_reducible refine' Blk.drewN ?_ _) | (with_reducible refine' Blk.put ?_ ?_) | (with_reducible refine' Blk.far ?_ ?_ _) | exact b4_0 | exact rfl)) <;> (first | omega | (simp <;> omega)))
                  (try simp only [List.setIfInBounds_toArray, List.set_cons_zero, List.set_cons_succ] at b4_0')
                  have b5_0' := Blk.keep (g := w4.heap.size) hb22 (by (repeat' (first | (with_reducible refine' Blk.alloc ?_ _) | (with_reducible refine' Blk.drew ?_) | (with_reducible refine' Blk.drewN ?_ _) | (with_reducible refine' Blk.put ?_ ?_) | (with_reducible refine' Blk.far ?_ ?_ _) | exact b5_0 | exact rfl)) <;> (first | omega | (simp <;> omega)))
                  (try simp only [List.setIfInBounds_toArray, List.set_cons_zero, List.set_cons_succ] at b5_0')
                  have b6_0' := Blk.keep (g := w5.heap.size) hb22 (by (repeat' (first | (with_reducible refine' Blk.alloc ?_ _) | (with_reducible refine' Blk.drew ?_) | (with_reducible refine' Blk.drewN ?_ _) | (with_reducible refine' Blk.put ?_ ?_) | (with_reducible refine' Blk.far ?_ ?_ _) | exact b6_0 | exact rfl)) <;> (first | omega | (simp <;> omega)))
                  (try simp only [List.setIfInBounds_toArray, List.set_cons_zero, List.set_cons_succ] at b6_0')
                  have b7_0' := Blk.keep (g := w6.heap.size) hb22 (by (repeat' (first | (with_reducible refine' Blk.alloc ?_ _) | (with_reducible refine' Blk.drew ?_) | (with_reducible refine' Blk.drewN ?_ _) | (with_reducible refine' Blk.put ?_ ?_) | (with_reducible refine' Blk.far ?_ ?_ _) | exact b7_0 | exact rfl)) <;> (first | omega | (simp <;> omega)))
                  (try simp only [List.setIfInBounds_toArray, List.set_cons_zero, List.set_cons_succ] at b7_0')
                  have bW' := Blk.keep (g := w7.heap.size) hb22 (by (repeat' (first | (with_reducible refine' Blk.alloc ?_ _) | (with_reducible refine' Blk.drew ?_) | (with_reducible refine' Blk.drewN ?_ _) | (with_reducible refine' Blk.put ?_ ?_) | (with_reducible refine' Blk.far ?_ ?_ _) | exact bW | exact rfl)) <;> (first | omega | (simp <;> omega)))
                  (try simp only [List.setIfInBounds_toArray, List.set_cons_zero, List.set_cons_succ] at bW')
                  clear hb22 K21
                  clear bX cX fX lX eX kX; have bX := bX'; clear bX'
                  clear bY cY fY lY eY kY; have bY := bY'; clear bY'
                  clear b4_0 c4_0 f4_0 l4_0 e4_0 k4_0; have b4_0 := b4_0'; clear b4_0'
                  clear b5_0 c5_0 f5_0 l5_0 e5_0 k5_0; have b5_0 := b5_0'; clear b5_0'
                  clear b6_0 c6_0 f6_0 l6_0 e6_0 k6_0; have b6_0 := b6_0'; clear b6_0'
                  clear b7_0 c7_0 f7_0 l7_0 e7_0 k7_0; have b7_0 := b7_0'; clear b7_0'
                  clear bW cW fW lW eW kW; have bW := bW'; clear bW'
                  obtain ⟨cX, fX, lX, eX, kX⟩ := Blk.facts bX
                  obtain ⟨cY, fY, lY, eY, kY⟩ := Blk.facts bY
                  obtain ⟨c4_0, f4_0, l4_0, e4_0, k4_0⟩ := Blk.facts b4_0
                  obtain ⟨c5_0, f5_0, l5_0, e5_0, k5_0⟩ := Blk.facts b5_0
                  obtain ⟨c6_0, f6_0, l6_0, e6_0, k6_0⟩ := Blk.facts b6_0
                  obtain ⟨c7_0, f7_0, l7_0, e7_0, k7_0⟩ := Blk.facts b7_0
                  obtain ⟨cW, fW, lW, eW, kW⟩ := Blk.facts bW
                  go_wp2_with fail
                  refine (K_6.out _).mono ?_
                  rintro e w23 ⟨rfl, hb23⟩
                  have K23 : Below w.heap.size w w23 := kept_call hb23 (by (repeat' (first | (with_reducible exact K22) | (with_reducible refine Below.setCell ?_ ?_ _) | (with_reducible refine Below.alloc ?_ ?_ _) | (with_reducible refine Below.drew ?_) | (with_reducible refine below_drewN ?_ _))) <;> (first | omega | (simp <;> omega)))
                  have Z23 : w.heap.size ≤ w23.heap.size := K23.size
                  have bX' := Blk.keep (g := X) hb23 (by (repeat' (first | (with_reducible refine' Blk.alloc ?_ _) | (with_reducible refine' Blk.drew ?_) | (with_reducible refine' Blk.drewN ?_ _) | (with_reducible refine' Blk.put ?_ ?_) | (with_reducible refine' Blk.far ?_ ?_ _) | exact bX | exact rfl)) <;> (first | omega | (simp <;> omega)))
                  (try simp only [List.setIfInBounds_toArray, List.set_cons_zero, List.set_cons_succ] at bX')
                  have bY' := Blk.keep (g := Y) hb23 (by (repeat' (first | (with_reducible refine' Blk.alloc ?_ _) | (with_reducible refine' Blk.drew ?_) | (with_reducible refine' Blk.drewN ?_ _) | (with_reducible refine' Blk.put ?_ ?_) | (with_reducible refine' Blk.far ?_ ?_ _) | exact bY | exact rfl)) <;> (first | omega | (simp <;> omega)))
                  (try simp only [List.setIfInBounds_toArray, List.set_cons_zero, List.set_cons_succ] at bY')
                  have b4_0' := Blk.keep (g := w3.heap.size) hb23 (by (repeat' (first | (with_reducible refine' Blk.alloc ?_ _) | (with_reducible refine' Blk.drew ?_) | (with_reducible refine' Blk.drewN ?_ _) | (with_reducible refine' Blk.put ?_ ?_) | (with_reducible refine' Blk.far ?_ ?_ _) | exact b4_0 | exact rfl)) <;> (first | omega | (simp <;> omega)))
                  (try simp only [List.setIfInBounds_toArray, List.set_cons_zero, List.set_cons_succ] at b4_0')
                  have b5_0' := Blk.keep (g := w4.heap.size) hb23 (by (repeat' (first | (with_reducible refine' Blk.alloc ?_ _) | (with_reducible refine' Blk.drew ?_) | (with_reducible refine' Blk.drewN ?_ _) | (with_reducible refine' Blk.put ?_ ?_) | (with_reducible refine' Blk.far ?_ ?_ _) | exact b5_0 | exact rfl)) <;> (first | omega | (simp <;> omega)))
                  (try simp only [List.setIfInBounds_toArray, List.set_cons_zero, List.set_cons_succ] at b5_0')
                  have b6_0' := Blk.keep (g := w5.heap.size) hb23 (by (repeat' (first | (with_reducible refine' Blk.alloc ?_ _) | (with_reducible refine' Blk.drew ?_) | (with_reducible refine' Blk.drewN ?_ _) | (with_reducible refine' Blk.put ?_ ?_) | (with_reducible refine' Blk.far ?_ ?_ _) | exact b6_0 | exact rfl)) <;> (first | omega | (simp <;> omega)))
                  (try simp only [List.setIfInBounds_toArray, List.set_cons_zero, List.set_cons_succ] at b6_0')
                  have b7_0' := Blk.keep (g := w6.heap.size) hb23 (by (repeat' (first | (with_reducible refine' Blk.alloc ?_ _) | (with_reducible refine' Blk.drew ?_) | (with_reducible refine' Blk.drewN ?_ _) | (with_reducible refine' Blk.put ?_ ?_) | (with_reducible refine' Blk.far ?_ ?_ _) | exact b7_0 | exact rfl)) <;> (first | omega | (simp <;> omega)))
                  (try simp only [List.setIfInBounds_toArray, List.set_cons_zero, List.set_cons_succ] at b7_0')
                  have bW' := Blk.keep (g := w7.heap.size) hb23 (by (repeat' (first | (with_reducible refine' Blk.alloc ?_ _) | (with_reducible refine' Blk.drew ?_) | (with_reducible refine' Blk.drewN ?_ _) | (with_reducible refine' Blk.put ?_ ?_) | (with_reducible refine' Blk.far ?_ ?_ _) | exact bW | exact rfl)) <;> (first | omega | (simp <;> omega)))
                  (try simp only [List.setIfInBounds_toArray, List.set_cons_zero, List.set_cons_succ] at bW')
                  clear hb23 K22
                  clear bX cX fX lX eX kX; have bX := bX'; clear bX'
                  clear bY cY fY lY eY kY; have bY := bY'; clear bY'
                  clear b4_0 c4_0 f4_0 l4_0 e4_0 k4_0; have b4_0 := b4_0'; clear b4_0'
                  clear b5_0 c5_0 f5_0 l5_0 e5_0 k5_0; have b5_0 := b5_0'; clear b5_0'
                  clear b6_0 c6_0 f6_0 l6_0 e6_0 k6_0; have b6_0 := b6_0'; clear b6_0'
                  clear b7_0 c7_0 f7_0 l7_0 e7_0 k7_0; have b7_0 := b7_0'; clear b7_0'
                  clear bW cW fW lW eW kW; have bW := bW'; clear bW'
                  obtain ⟨cX, fX, lX, eX, kX⟩ := Blk.facts bX
                  obtain ⟨cY, fY, lY, eY, kY⟩ := Blk.facts bY
                  obtain ⟨c4_0, f4_0, l4_0, e4_0, k4_0⟩ := Blk.facts b4_0
                  obtain ⟨c5_0, f5_0, l5_0, e5_0, k5_0⟩ := Blk.facts b5_0
                  obtain ⟨c6_0, f6_0, l6_0, e6_0, k6_0⟩ := Blk.facts b6_0
                  obtain ⟨c7_0, f7_0, l7_0, e7_0, k7_0⟩ := Blk.facts b7_0
                  obtain ⟨cW, fW, lW, eW, kW⟩ := Blk.facts bW
                  go_wp2_with fail
                  refine (K_7.out _).mono ?_
                  rintro e w24 ⟨rfl, hb24⟩
                  have K24 : Below w.heap.size w w24 := kept_call hb24 (by (repeat' (first | (with_reducible exact K23) | (with_reducible refine Below.setCell ?_ ?_ _) | (with_reducible refine Below.alloc ?_ ?_ _) | (with_reducible refine Below.drew ?_) | (with_reducible refine below_drewN ?_ _))) <;> (first | omega | (simp <;> omega)))
                  have Z24 : w.heap.size ≤ w24.heap.size := K24.size
                  have bX' := Blk.keep (g := X) hb24 (by (repeat' (first | (with_reducible refine' Blk.alloc ?_ _) | (with_reducible refine' Blk.drew ?_) | (with_reducible refine' Blk.drewN ?_ _) | (with_reducible refine' Blk.put ?_ ?_) | (with_reducible refine' Blk.far ?_ ?_ _) | exact bX | exact rfl)) <;> (first | omega | (simp <;> omega)))
                  (try simp only [List.setIfInBounds_toArray, List.set_cons_zero, List.set_cons_succ] at bX')
                  have bY' := Blk.keep (g := Y) hb24 (by (repeat' (first | (with_reducible refine' Blk.alloc ?_ _) | (with_reducible refine' Blk.drew ?_) | (with_reducible refine' Blk.drewN ?_ _) | (with_reducible refine' Blk.put ?_ ?_) | (with_reducible refine' Blk.far ?_ ?_ _) | exact bY | exact rfl)) <;> (first | omega | (simp <;> omega)))
                  (try simp only [List.setIfInBounds_toArray, List.set_cons_zero, List.set_cons_succ] at bY')
                  have b4_0' := Blk.keep (g := w3.heap.size) hb24 (by (repeat' (first | (with_reducible refine' Blk.alloc ?_ _) | (with_reducible refine' Blk.drew ?_) | (with_reducible refine' Blk.drewN ?_ _) | (with_reducible refine' Blk.put ?_ ?_) | (with_reducible refine' Blk.far ?_ ?_ _) | exact b4_0 | exact rfl)) <;> (first | omega | (simp <;> omega)))
                  (try simp only [List.setIfInBounds_toArray, List.set_cons_zero, List.set_cons_succ] at b4_0')
                  have b5_0' := Blk.keep (g := w4.heap.size) hb24 (by (repeat' (first | (with_reducible refine' Blk.alloc ?_ _) | (with_reducible refine' Blk.drew ?_) | (with_reducible refine' Blk.drewN ?_ _) | (with_reducible refine' Blk.put ?_ ?_) | (with_reducible refine' Blk.far ?_ ?_ _) | exact b5_0 | exact rfl)) <;> (first | omega | (simp <;> omega)))
                  (try simp only [List.setIfInBounds_toArray, List.set_cons_zero, List.set_cons_succ] at b5_0')
                  have b6_0' := Blk.keep (g := w5.heap.size) hb24 (by (repeat' (first | (with_reducible refine' Blk.alloc ?_ _) | (with_reducible refine' Blk.drew ?_) | (with_reducible refine' Blk.drewN ?_ _) | (with_reducible refine' Blk.put ?_ ?_) | (with_reducible refine' Blk.far ?_ ?_ _) | exact b6_0 | exact rfl)) <;> (first | omega | (simp <;> omega)))
                  (try simp only [List.setIfInBounds_toArray, List.set_cons_zero, List.set_cons_succ] at b6_0')
                  have b7_0' := Blk.keep (g := w6.heap.size) hb24 (by (repeat' (first | (with_reducible refine' Blk.alloc ?_ _) | (with_reducible refine' Blk.drew ?_) | (with_reducible refine' Blk.drewN ?_ _) | (with_reducible refine' Blk.put ?_ ?_) | (with_reducible refine' Blk.far ?_ ?_ _) | exact b7_0 | exact rfl)) <;> (first | omega | (simp <;> omega)))
                  (try simp only [List.setIfInBounds_toArray, List.set_cons_zero, List.set_cons_succ] at b7_0')
                  have bW' := Blk.keep (g := w7.heap.size) hb24 (by (repeat' (first | (with_reducible refine' Blk.alloc ?_ _) | (with_reducible refine' Blk.drew ?_) | (with_reducible refine' Blk.drewN ?_ _) | (with_reducible refine' Blk.put ?_ ?_) | (with_reducible refine' Blk.far ?_ ?_ _) | exact bW | exact rfl)) <;> (first | omega | (simp <;> omega)))
                  (try simp only [List.setIfInBounds_toArray, List.set_cons_zero, List.set_cons_succ] at bW')
                  clear hb24 K23
                  clear bX cX fX lX eX kX; have bX := bX'; clear bX'
                  clear bY cY fY lY eY kY; have bY := bY'; clear bY'
                  clear b4_0 c4_0 f4_0 l4_0 e4_0 k4_0; have b4_0 := b4_0'; clear b4_0'
                  clear b5_0 c5_0 f5_0 l5_0 e5_0 k5_0; have b5_0 := b5_0'; clear b5_0'
                  clear b6_0 c6_0 f6_0 l6_0 e6_0 k6_0; have b6_0 := b6_0'; clear b6_0'
                  clear b7_0 c7_0 f7_0 l7_0 e7_0 k7_0; have b7_0 := b7_0'; clear b7_0'
                  clear bW cW fW lW eW kW; have bW := bW'; clear bW'
                  obtain ⟨cX, fX, lX, eX, kX⟩ := Blk.facts bX
                  obtain ⟨cY, fY, lY, eY, kY⟩ := Blk.facts bY
                  obtain ⟨c4_0, f4_0, l4_0, e4_0, k4_0⟩ := Blk.facts b4_0
                  obtain ⟨c5_0, f5_0, l5_0, e5_0, k5_0⟩ := Blk.facts b5_0
                  obtain ⟨c6_0, f6_0, l6_0, e6_0, k6_0⟩ := Blk.facts b6_0
                  obtain ⟨c7_0, f7_0, l7_0, e7_0, k7_0⟩ := Blk.facts b7_0
                  obtain ⟨cW, fW, lW, eW, kW⟩ := Blk.facts bW
                  go_wp2_with fail
                  refine (K_8.out _).mono ?_
                  rintro e w25 ⟨rfl, hb25⟩
                  have K25 : Below w.heap.size w w25 := kept_call hb25 (by (repeat' (first | (with_reducible exact K24) | (with_reducible refine Below.setCell ?_ ?_ _) | (with_reducible refine Below.alloc ?_ ?_ _) | (with_reducible refine Below.drew ?_) | (with_reducible refine below_drewN ?_ _))) <;> (first | omega | (simp <;> omega)))
                  have Z25 : w.heap.size ≤ w25.heap.size := K25.size
                  have bX' := Blk.keep (g := X) hb25 (by (repeat' (first | (with_reducible refine' Blk.alloc ?_ _) | (with_reducible refine' Blk.drew ?_) | (with_reducible refine' Blk.drewN ?_ _) | (with_reducible refine' Blk.put ?_ ?_) | (with_reducible refine' Blk.far ?_ ?_ _) | exact bX | exact rfl)) <;> (first | omega | (simp <;> omega)))
                  (try simp only [List.setIfInBounds_toArray, List.set_cons_zero, List.set_cons_succ] at bX')
                  have bY' := Blk.keep (g := Y) hb25 (by (repeat' (first | (with_reducible refine' Blk.alloc ?_ _) | (with_reducible refine' Blk.drew ?_) | (with_reducible refine' Blk.drewN ?_ _) | (with_reducible refine' Blk.put ?_ ?_) | (with_reducible refine' Blk.far ?_ ?_ _) | exact bY | exact rfl)) <;> (first | omega | (simp <;> omega)))
                  (try simp only [List.setIfInBounds_toArray, List.set_cons_zero, List.set_cons_succ] at bY')
                  have b4_0' := Blk.keep (g := w3.heap.size) hb25 (by (repeat' (first | (with_reducible refine' Blk.alloc ?_ _) | (with_reducible refine' Blk.drew ?_) | (with_reducible refine' Blk.drewN ?_ _) | (with_reducible refine' Blk.put ?_ ?_) | (with_reducible refine' Blk.far ?_ ?_ _) | exact b4_0 | exact rfl)) <;> (first | omega | (simp <;> omega)))
                  (try simp only [List.setIfInBounds_toArray, List.set_cons_zero, List.set_cons_succ] at b4_0')
                  have b5_0' := Blk.keep (g := w4.heap.size) hb25 (by (repeat' (first | (with_reducible refine' Blk.alloc ?_ _) | (with_reducible refine' Blk.drew ?_) | (with_reducible refine' Blk.drewN ?_ _) | (with_reducible refine' Blk.put ?_ ?_) | (with_reducible refine' Blk.far ?_ ?_ _) | exact b5_0 | exact rfl)) <;> (first | omega | (simp <;> omega)))
                  (try simp only [List.setIfInBounds_toArray, List.set_cons_zero, List.set_cons_succ] at b5_0')
                  have b6_0' := Blk.keep (g := w5.heap.size) hb25 (by (repeat' (first | (with_reducible refine' Blk.alloc ?_ _) | (with_reducible refine' Blk.drew ?_) | (with_reducible refine' Blk.drewN ?_ _) | (with_reducible refine' Blk.put ?_ ?_) | (with_reducible refine' Blk.far ?_ ?_ _) | exact b6_0 | exact rfl)) <;> (first | omega | (simp <;> omega)))
                  (try simp only [List.setIfInBounds_toArray, List.set_cons_zero, List.set_cons_succ] at b6_0')
                  have b7_0' := Blk.keep (g := w6.heap.size) hb25 (by (repeat' (first | (with_reducible refine' Blk.alloc ?_ _) | (with_reducible refine' Blk.drew ?_) | (with_reducible refine' Blk.drewN ?_ _) | (with_reducible refine' Blk.put ?_ ?_) | (with_reducible refine' Blk.far ?_ ?_ _) | exact b7_0 | exact rfl)) <;> (first | omega | (simp <;> omega)))
                  (try simp only [List.setIfInBounds_toArray, List.set_cons_zero, List.set_cons_succ] at b7_0')
                  have bW' := Blk.keep (g := w7.heap.size) hb25 (by (repeat' (first | (with_reducible refine' Blk.alloc ?_ _) | (with_reducible refine' Blk.drew ?_) | (with_reducible refine' Blk.drewN ?_ _) | (with_reducible refine' Blk.put ?_ ?_) | (with_reducible refine' Blk.far ?_ ?_ _) | exact bW | exact rfl)) <;> (first | omega | (simp <;> omega)))
                  (try simp only [List.setIfInBounds_toArray, List.set_cons_zero, List.set_cons_succ] at bW')
                  clear hb25 K24
                  clear bX cX fX lX eX kX; have bX := bX'; clear bX'
                  clear bY cY fY lY eY kY; have bY := bY'; clear bY'
                  clear b4_0 c4_0 f4_0 l4_0 e4_0 k4_0; have b4_0 := b4_0'; clear b4_0'
                  clear b5_0 c5_0 f5_0 l5_0 e5_0 k5_0; have b5_0 := b5_0'; clear b5_0'
                  clear b6_0 c6_0 f6_0 l6_0 e6_0 k6_0; have b6_0 := b6_0'; clear b6_0'
                  clear b7_0 c7_0 f7_0 l7_0 e7_0 k7_0; have b7_0 := b7_0'; clear b7_0'
                  clear bW cW fW lW eW kW; have bW := bW'; clear bW'
                  obtain ⟨cX, fX, lX, eX, kX⟩ := Blk.facts bX
                  obtain ⟨cY, fY, lY, eY, kY⟩ := Blk.facts bY
                  obtain ⟨c4_0, f4_0, l4_0, e4_0, k4_0⟩ := Blk.facts b4_0
                  obtain ⟨c5_0, f5_0, l5_0, e5_0, k5_0⟩ := Blk.facts b5_0
                  obtain ⟨c6_0, f6_0, l6_0, e6_0, k6_0⟩ := Blk.facts b6_0
                  obtain ⟨c7_0, f7_0, l7_0, e7_0, k7_0⟩ := Blk.facts b7_0
                  obtain ⟨cW, fW, lW, eW, kW⟩ := Blk.facts bW
                  go_wp2_with fail
                  go_meet
                  exact ⟨rfl, by (repeat' (first | (with_reducible exact K25) | (with_reducible refine Below.setCell ?_ ?_ _) | (with_reducible refine Below.alloc ?_ ?_ _) | (with_reducible refine Below.drew ?_) | (with_reducible refine below_drewN ?_ _))) <;> (first | omega | (simp <;> omega)), by (repeat' (first | (with_reducible exact bX) | (with_reducible refine' Blk.alloc ?_ _) | (with_reducible refine' Blk.drew ?_) | (with_reducible refine' Blk.drewN ?_ _) | (with_reducible refine' Blk.put ?_ ?_) | (with_reducible refine' Blk.far ?_ ?_ _) | exact bX | exact rfl)) <;> (first | omega | (simp <;> omega)), by (repeat' (first | (with_reducible exact bY) | (with_reducible refine' Blk.alloc ?_ _) | (with_reducible refine' Blk.drew ?_) | (with_reducible refine' Blk.drewN ?_ _) | (with_reducible refine' Blk.put ?_ ?_) | (with_reducible refine' Blk.far ?_ ?_ _) | exact bY | exact rfl)) <;> (first | omega | (simp <;> omega)), by (repeat' (first | (with_reducible exact b4_0) | (with_reducible refine' Blk.alloc ?_ _) | (with_reducible refine' Blk.drew ?_) | (with_reducible refine' Blk.drewN ?_ _) | (with_reducible refine' Blk.put ?_ ?_) | (with_reducible refine' Blk.far ?_ ?_ _) | exact b4_0 | exact rfl)) <;> (first | omega | (simp <;> omega)), by (repeat' (first | (with_reducible exact b5_0) | (with_reducible refine' Blk.alloc ?_ _) | (with_reducible refine' Blk.drew ?_) | (with_reducible refine' Blk.drewN ?_ _) | (with_reducible refine' Blk.put ?_ ?_) | (with_reducible refine' Blk.far ?_ ?_ _) | exact b5_0 | exact rfl)) <;> (first | omega | (simp <;> omega)), by (repeat' (first | (with_reducible exact b6_0) | (with_reducible refine' Blk.alloc ?_ _) | (with_reducible refine' Blk.drew ?_) | (with_reducible refine' Blk.drewN ?_ _) | (with_reducible refine' Blk.put ?_ ?_) | (with_reducible refine' Blk.far ?_ ?_ _) | exact b6_0 | exact rfl)) <;> (first | omega | (simp <;> omega)), by (repeat' (first | (with_reducible exact b7_0) | (with_reducible refine' Blk.alloc ?_ _) | (with_reducible refine' Blk.drew ?_) | (with_reducible refine' Blk.drewN ?_ _) | (with_reducible refine' Blk.put ?_ ?_) | (with_reducible refine' Blk.far ?_ ?_ _) | exact b7_0 | exact rfl)) <;> (first | omega | (simp <;> omega)), by (repeat' (first | (with_reducible exact bW) | (with_reducible refine' Blk.alloc ?_ _) | (with_reducible refine' Blk.drew ?_) | (with_reducible refine' Blk.drewN ?_ _) | (with_reducible refine' Blk.put ?_ ?_) | (with_reducible refine' Blk.far ?_ ?_ _) | exact bW | exact rfl)) <;> (first | omega | (simp <;> omega))⟩
            · have f8 := f5 rfl rfl
              clear f5 f6
              subst f8
              rcases on
              · clear f4
                as_aux_lemma =>
                  go_wp2_with fail
                  refine (K_3.out _).mono ?_
                  rintro e w21 ⟨rfl, hb21⟩
                  have K21 : Below w.heap.size w w21 := kept_call hb21 (by (repeat' (first | (with_reducible exact K20) | (with_reducible refine Below.setCell ?_ ?_ _) | (with_reducible refine Below.alloc ?_ ?_ _) | (with_reducible refine Below.drew ?_) | (with_reducible refine below_drewN ?_ _))) <;> (first | omega | (simp <;> omega)))
                  have Z21 : w.heap.size ≤ w21.heap.size := K21.size
                  have bX' := Blk.keep (g := X) hb21 (by (repeat' (first | (with_reducible refine' Blk.alloc ?_ _) | (with_reducible refine' Blk.drew ?_) | (with_reducible refine' Blk.drewN ?_ _) | (with_reducible refine' Blk.put ?_ ?_) | (with_reducible refine' Blk.far ?_ ?_ _) | exact bX | exact rfl)) <;> (first | omega | (simp <;> omega)))
                  (try simp only [List.setIfInBounds_toArray, List.set_cons_zero, List.set_cons_succ] at bX')
                  have bY' := Blk.keep (g := Y) hb21 (by (repeat' (first | (with_reducible refine' Blk.alloc ?_ _) | (with_reducible refine' Blk.drew ?_) | (with_reducible refine' Blk.drewN ?_ _) | (with_reducible refine' Blk.put ?_ ?_) | (with_reducible refine' Blk.far ?_ ?_ _) | exact bY | exact rfl)) <;> (first | omega | (simp <;> omega)))
                  (try simp only [List.setIfInBounds_toArray, List.set_cons_zero, List.set_cons_succ] at bY')
                  have b4_0' := Blk.keep (g := w3.heap.size) hb21 (by (repeat' (first | (with_reducible refine' Blk.alloc ?_ _) | (with_reducible refine' Blk.drew ?_) | (with_reducible refine' Blk.drewN ?_ _) | (with_reducible refine' Blk.put ?_ ?_) | (with_reducible refine' Blk.far ?_ ?_ _) | exact b4_0 | exact rfl)) <;> (first | omega | (simp <;> omega)))
                  (try simp only [List.setIfInBounds_toArray, List.set_cons_zero, List.set_cons_succ] at b4_0')
                  have b5_0' := Blk.keep (g := w4.heap.size) hb21 (by (repeat' (first | (with_reducible refine' Blk.alloc ?_ _) | (with_reducible refine' Blk.drew ?_) | (with_reducible refine' Blk.drewN ?_ _) | (with_reducible refine' Blk.put ?_ ?_) | (with_reducible refine' Blk.far ?_ ?_ _) | exact b5_0 | exact rfl)) <;> (first | omega | (simp <;> omega)))
                  (try simp only [List.setIfInBounds_toArray, List.set_cons_zero, List.set_cons_succ] at b5_0')
                  have b6_0' := Blk.keep (g := w5.heap.size) hb21 (by (repeat' (first | (with_reducible refine' Blk.alloc ?_ _) | (with_reducible refine' Blk.drew ?_) | (with_reducible refine' Blk.drewN ?_ _) | (with_reducible refine' Blk.put ?_ ?_) | (with_reducible refine' Blk.far ?_ ?_ _) | exact b6_0 | exact rfl)) <;> (first | omega | (simp <;> omega)))
                  (try simp only [List.setIfInBounds_toArray, List.set_cons_zero, List.set_cons_succ] at b6_0')
                  have b7_0' := Blk.keep (g := w6.heap.size) hb21 (by (repeat' (first | (with_reducible refine' Blk.alloc ?_ _) | (with_reducible refine' Blk.drew ?_) | (with_reducible refine' Blk.drewN ?_ _) | (with_reducible refine' Blk.put ?_ ?_) | (with_reducible refine' Blk.far ?_ ?_ _) | exact b7_0 | exact rfl)) <;> (first | omega | (simp <;> omega)))
                  (try simp only [List.setIfInBounds_toArray, List.set_cons_zero, List.set_cons_succ] at b7_0')
                  have bW' := Blk.keep (g := w7.heap.size) hb21 (by (repeat' (first | (with_reducible refine' Blk.alloc ?_ _) | (with_reducible refine' Blk.drew ?_) | (with_reducible refine' Blk.drewN ?_ _) | (with_reducible refine' Blk.put ?_ ?_) | (with_reducible refine' Blk.far ?_ ?_ _) | exact bW | exact rfl)) <;> (first | omega | (simp <;> omega)))
                  (try simp only [List.setIfInBounds_toArray, List.set_cons_zero, List.set_cons_succ] at bW')
                  clear hb21 K20
                  clear bX cX fX lX eX kX; have bX := bX'; clear bX'
                  clear bY cY fY lY eY kY; have bY := bY'; clear bY'
                  clear b4_0 c4_0 f4_0 l4_0 e4_0 k4_0; have b4_0 := b4_0'; clear b4_0'
                  clear b5_0 c5_0 f5_0 l5_0 e5_0 k5_0; have b5_0 := b5_0'; clear b5_0'
                  clear b6_0 c6_0 f6_0 l6_0 e6_0 k6_0; have b6_0 := b6_0'; clear b6_0'
                  clear b7_0 c7_0 f7_0 l7_0 e7_0 k7_0; have b7_0 := b7_0'; clear b7_0'
                  clear bW cW fW lW eW kW; have bW := bW'; clear bW'
                  obtain ⟨cX, fX, lX, eX, kX⟩ := Blk.facts bX
                  obtain ⟨cY, fY, lY, eY, kY⟩ := Blk.facts bY
                  obtain ⟨c4_0, f4_0, l4_0, e4_0, k4_0⟩ := Blk.facts b4_0
                  obtain ⟨c5_0, f5_0, l5_0, e5_0, k5_0⟩ := Blk.facts b5_0
                  obtain ⟨c6_0, f6_0, l6_0, e6_0, k6_0⟩ := Blk.facts b6_0
                  obtain ⟨c7_0, f7_0, l7_0, e7_0, k7_0⟩ := Blk.facts b7_0
                  obtain ⟨cW, fW, lW, eW, kW⟩ := Blk.facts bW
                  go_wp2_with fail
                  refine (K_4.out _).mono ?_
                  rintro e w22 ⟨rfl, hb22⟩
                  have K22 : Below w.heap.size w w22 := kept_call hb22 (by (repeat' (first | (with_reducible exact K21) | (with_reducible refine Below.setCell ?_ ?_ _) | (with_reducible refine Below.alloc ?_ ?_ _) | (with_reducible refine Below.drew ?_) | (with_reducible refine below_drewN ?_ _))) <;> (first | omega | (simp <;> omega)))
                  have Z22 : w.heap.size ≤ w22.heap.size := K22.size
                  have bX' := Blk.keep (g := X) hb22 (by (repeat' (first | (with_reducible refine' Blk.alloc ?_ _) | (with_reducible refine' Blk.drew ?_) | (with_reducible refine' Blk.drewN ?_ _) | (with_reducible refine' Blk.put ?_ ?_) | (with_reducible refine' Blk.far ?_ ?_ _) | exact bX | exact rfl)) <;> (first | omega | (simp <;> omega)))
                  (try simp only [List.setIfInBounds_toArray, List.set_cons_zero, List.set_cons_succ] at bX')
                  have bY' := Blk.keep (g := Y) hb22 (by (repeat' (first | (with_reducible refine' Blk.alloc ?_ _) | (with_reducible refine' Blk.drew ?_) | (with_reducible refine' Blk.drewN ?_ _) | (with_reducible refine' Blk.put ?_ ?_) | (with_reducible refine' Blk.far ?_ ?_ _) | exact bY | exact rfl)) <;> (first | omega | (simp <;> omega)))
                  (try simp only [List.setIfInBounds_toArray, List.set_cons_zero, List.set_cons_succ] at bY')
                  have b4_0' := Blk.keep (g := w3.heap.size) hb22 (by (repeat' (first | (with_reducible refine' Blk.alloc ?_ _) | (with_reducible refine' Blk.drew ?_) | (with_reducible refine' Blk.drewN ?_ _) | (with_reducible refine' Blk.put ?_ ?_) | (with_reducible refine' Blk.far ?_ ?_ _) | exact b4_0 | exact rfl)) <;> (first | omega | (simp <;> omega)))
                  (try simp only [List.setIfInBounds_toArray, List.set_cons_zero, List.set_cons_succ] at b4_0')
                  have b5_0' := Blk.keep (g := w4.heap.size) hb22 (by (repeat' (first | (with_reducible refine' Blk.alloc ?_ _) | (with_reducible refine' Blk.drew ?_) | (with_reducible refine' Blk.drewN ?_ _) | (with_reducible refine' Blk.put ?_ ?_) | (with_reducible refine' Blk.far ?_ ?_ _) | exact b5_0 | exact rfl)) <;> (first | omega | (simp <;> omega)))
                  (try simp only [List.setIfInBounds_toArray, List.set_cons_zero, List.set_cons_succ] at b5_0')
                  have b6_0' := Blk.keep (g := w5.heap.size) hb22 (by (repeat' (first | (with_reducible refine' Blk.alloc ?_ _) | (with_reducible refine' Blk.drew ?_) | (with_reducible refine' Blk.drewN ?_ _) | (with_reducible refine' Blk.put ?_ ?_) | (with_reducible refine' Blk.far ?_ ?_ _) | exact b6_0 | exact rfl)) <;> (first | omega | (simp <;> omega)))
                  (try simp only [List.setIfInBounds_toArray, List.set_cons_zero, List.set_cons_succ] at b6_0')
                  have b7_0' := Blk.keep (g := w6.heap.size) hb22 (by (repeat' (first | (with_reducible refine' Blk.alloc ?_ _) | (with_reducible refine' Blk.drew ?_) | (with_reducible refine' Blk.drewN ?_ _) | (with_reducible refine' Blk.put ?_ ?_) | (with_reducible refine' Blk.far ?_ ?_ _) | exact b7_0 | exact rfl)) <;> (first | omega | (simp <;> omega)))
                  (try simp only [List.setIfInBounds_toArray, List.set_cons_zero, List.set_cons_succ] at b7_0')
                  have bW' := Blk.keep (g := w7.heap.size) hb22 (by (repeat' (first | (with_reducible refine' Blk.alloc ?_ _) | (with_reducible refine' Blk.drew ?_) | (with_reducible refine' Blk.drewN ?_ _) | (with_reducible refine' Blk.put ?_ ?_) | (with_reducible refine' Blk.far ?_ ?_ _) | exact bW | exact rfl)) <;> (first | omega | (simp <;> omega)))
                  (try simp only [List.setIfInBounds_toArray, List.set_cons_zero, List.set_cons_succ] at bW')
                  clear hb22 K21
                  clear bX cX fX lX eX kX; have bX := bX'; clear bX'
                  clear bY cY fY lY eY kY; have bY := bY'; clear bY'
                  clear b4_0 c4_0 f4_0 l4_0 e4_0 k4_0; have b4_0 := b4_0'; clear b4_0'
                  clear b5_0 c5_0 f5_0 l5_0 e5_0 k5_0; have b5_0 := b5_0'; clear b5_0'
                  clear b6_0 c6_0 f6_0 l6_0 e6_0 k6_0; have b6_0 := b6_0'; clear b6_0'
                  clear b7_0 c7_0 f7_0 l7_0 e7_0 k7_0; have b7_0 := b7_0'; clear b7_0'
                  clear bW cW fW lW eW kW; have bW := bW'; clear bW'
                  obtain ⟨cX, fX, lX, eX, kX⟩ := Blk.facts bX
                  obtain ⟨cY, fY, lY, eY, kY⟩ := Blk.facts bY
                  obtain ⟨c4_0, f4_0, l4_0, e4_0, k4_0⟩ := Blk.facts b4_0
                  obtain ⟨c5_0, f5_0, l5_0, e5_0, k5_0⟩ := Blk.facts b5_0
                  obtain ⟨c6_0, f6_0, l6_0, e6_0, k6_0⟩ := Blk.facts b6_0
                  obtain ⟨c7_0, f7_0, l7_0, e7_0, k7_0⟩ := Blk.facts b7_0
                  obtain ⟨cW, fW, lW, eW, kW⟩ := Blk.facts bW
                  go_wp2_with fail
                  refine (K_5.out _).mono ?_
                  rintro e w23 ⟨rfl, hb23⟩
                  have K23 : Below w.heap.size w w23 := kept_call hb23 (by (repeat' (first | (with_reducible exact K22) | (with_reducible refine Below.setCell ?_ ?_ _) | (with_reducible refine Below.alloc ?_ ?_ _) | (with_reducible refine Below.drew ?_) | (with_reducible refine below_drewN ?_ _))) <;> (first | omega | (simp <;> omega)))
                  have Z23 : w.heap.size ≤ w23.heap.size := K23.size
                  have bX' := Blk.keep (g := X) hb23 (by (repeat' (first | (with_reducible refine' Blk.alloc ?_ _) | (with_reducible refine' Blk.drew ?_) | (with_reducible refine' Blk.drewN ?_ _) | (with_reducible refine' Blk.put ?_ ?_) | (with_reducible refine' Blk.far ?_ ?_ _) | exact bX | exact rfl)) <;> (first | omega | (simp <;> omega)))
                  (try simp only [List.setIfInBounds_toArray, List.set_cons_zero, List.set_cons_succ] at bX')
                  have bY' := Blk.keep (g := Y) hb23 (by (repeat' (first | (with_reducible refine' Blk.alloc ?_ _) | (with_reducible refine' Blk.drew ?_) | (with_reducible refine' Blk.drewN ?_ _) | (with_reducible refine' Blk.put ?_ ?_) | (with_reducible refine' Blk.far ?_ ?_ _) | exact bY | exact rfl)) <;> (first | omega | (simp <;> omega)))
                  (try simp only [List.setIfInBounds_toArray, List.set_cons_zero, List.set_cons_succ] at bY')
                  have b4_0' := Blk.keep (g := w3.heap.size) hb23 (by (repeat' (first | (with_reducible refine' Blk.alloc ?_ _) | (with_reducible refine' Blk.drew ?_) | (with_reducible refine' Blk.drewN ?_ _) | (with_reducible refine' Blk.put ?_ ?_) | (with_reducible refine' Blk.far ?_ ?_ _) | exact b4_0 | exact rfl)) <;> (first | omega | (simp <;> omega)))
                  (try simp only [List.setIfInBounds_toArray, List.set_cons_zero, List.set_cons_succ] at b4_0')
                  have b5_0' := Blk.keep (g := w4.heap.size) hb23 (by (repeat' (first | (with_reducible refine' Blk.alloc ?_ _) | (with_reducible refine' Blk.drew ?_) | (with_reducible refine' Blk.drewN ?_ _) | (with_reducible refine' Blk.put ?_ ?_) | (with_reducible refine' Blk.far ?_ ?_ _) | exact b5_0 | exact rfl)) <;> (first | omega | (simp <;> omega)))
                  (try simp only [List.setIfInBounds_toArray, List.set_cons_zero, List.set_cons_succ] at b5_0')
                  have b6_0' := Blk.keep (g := w5.heap.size) hb23 (by (repeat' (first | (with_reducible refine' Blk.alloc ?_ _) | (with_reducible refine' Blk.drew ?_) | (with_reducible refine' Blk.drewN ?_ _) | (with_reducible refine' Blk.put ?_ ?_) | (with_reducible refine' Blk.far ?_ ?_ _) | exact b6_0 | exact rfl)) <;> (first | omega | (simp <;> omega)))
                  (try simp only [List.setIfInBounds_toArray, List.set_cons_zero, List.set_cons_succ] at b6_0')
                  have b7_0' := Blk.keep (g := w6.heap.size) hb23 (by (repeat' (first | (with_reducible refine' Blk.alloc ?_ _) | (with_reducible refine' Blk.drew ?_) | (with_reducible refine' Blk.drewN ?_ _) | (with_reducible refine' Blk.put ?_ ?_) | (with_reducible refine' Blk.far ?_ ?_ _) | exact b7_0 | exact rfl)) <;> (first | omega | (simp <;> omega)))
                  (try simp only [List.setIfInBounds_toArray, List.set_cons_zero, List.set_cons_succ] at b7_0')
                  have bW' := Blk.keep (g := w7.heap.size) hb23 (by (repeat' (first | (with_reducible refine' Blk.alloc ?_ _) | (with_reducible refine' Blk.drew ?_) | (with_reducible refine' Blk.drewN ?_ _) | (with_reducible refine' Blk.put ?_ ?_) | (with_reducible refine' Blk.far ?_ ?_ _) | exact bW | exact rfl)) <;> (first | omega | (simp <;> omega)))
                  (try simp only [List.setIfInBounds_toArray, List.set_cons_zero, List.set_cons_succ] at bW')
                  clear hb23 K22
                  clear bX cX fX lX eX kX; have bX := bX'; clear bX'
                  clear bY cY fY lY eY kY; have bY := bY'; clear bY'
                  clear b4_0 c4_0 f4_0 l4_0 e4_0 k4_0; have b4_0 := b4_0'; clear b4_0'
                  clear b5_0 c5_0 f5_0 l5_0 e5_0 k5_0; have b5_0 := b5_0'; clear b5_0'
                  clear b6_0 c6_0 f6_0 l6_0 e6_0 k6_0; have b6_0 := b6_0'; clear b6_0'
                  clear b7_0 c7_0 f7_0 l7_0 e7_0 k7_0; have b7_0 := b7_0'; clear b7_0'
                  clear bW cW fW lW eW kW; have bW := bW'; clear bW'
                  obtain ⟨cX, fX, lX, eX, kX⟩ := Blk.facts bX
                  obtain ⟨cY, fY, lY, eY, kY⟩ := Blk.facts bY
                  obtain ⟨c4_0, f4_0, l4_0, e4_0, k4_0⟩ := Blk.facts b4_0
                  obtain ⟨c5_0, f5_0, l5_0, e5_0, k5_0⟩ := Blk.facts b5_0
                  obtain ⟨c6_0, f6_0, l6_0, e6_0, k6_0⟩ := Blk.facts b6_0
                  obtain ⟨c7_0, f7_0, l7_0, e7_0, k7_0⟩ := Blk.facts b7_0
                  obtain ⟨cW, fW, lW, eW, kW⟩ := Blk.facts bW
                  go_wp2_with fail
                  refine (K_8.out _).mono ?_
                  rintro e w24 ⟨rfl, hb24⟩
                  have K24 : Below w.heap.size w w24 := kept_call hb24 (by (repeat' (first | (with_reducible exact K23) | (with_reducible refine Below.setCell ?_ ?_ _) | (with_reducible refine Below.alloc ?_ ?_ _) | (with_reducible refine Below.drew ?_) | (with_reducible refine below_drewN ?_ _))) <;> (first | omega | (simp <;> omega)))
                  have Z24 : w.heap.size ≤ w24.heap.size := K24.size
                  have bX' := Blk.keep (g := X) hb24 (by (repeat' (first | (with_reducible refine' Blk.alloc ?_ _) | (with_reducible refine' Blk.drew ?_) | (with_reducible refine' Blk.drewN ?_ _) | (with_reducible refine' Blk.put ?_ ?_) | (with_reducible refine' Blk.far ?_ ?_ _) | exact bX | exact rfl)) <;> (first | omega | (simp <;> omega)))
                  (try simp only [List.setIfInBounds_toArray, List.set_cons_zero, List.set_cons_succ] at bX')
                  have bY' := Blk.keep (g := Y) hb24 (by (repeat' (first | (with_reducible refine' Blk.alloc ?_ _) | (with_reducible refine' Blk.drew ?_) | (with_reducible refine' Blk.drewN ?_ _) | (with_reducible refine' Blk.put ?_ ?_) | (with_reducible refine' Blk.far ?_ ?_ _) | exact bY | exact rfl)) <;> (first | omega | (simp <;> omega)))
                  (try simp only [List.setIfInBounds_toArray, List.set_cons_zero, List.set_cons_succ] at bY')
                  have b4_0' := Blk.keep (g := w3.heap.size) hb24 (by (repeat' (first | (with_reducible refine' Blk.alloc ?_ _) | (with_reducible refine' Blk.drew ?_) | (with_reducible refine' Blk.drewN ?_ _) | (with_reducible refine' Blk.put ?_ ?_) | (with_reducible refine' Blk.far ?_ ?_ _) | exact b4_0 | exact rfl)) <;> (first | omega | (simp <;> omega)))
                  (try simp only [List.setIfInBounds_toArray, List.set_cons_zero, List.set_cons_succ] at b4_0')
                  have b5_0' := Blk.keep (g := w4.heap.size) hb24 (by (repeat' (first | (with_reducible refine' Blk.alloc ?_ _) | (with_reducible refine' Blk.drew ?_) | (with_reducible refine' Blk.drewN ?_ _) | (with_reducible refine' Blk.put ?_ ?_) | (with_reducible refine' Blk.far ?_ ?_ _) | exact b5_0 | exact rfl)) <;> (first | omega | (simp <;> omega)))
                  (try simp only [List.setIfInBounds_toArray, List.set_cons_zero, List.set_cons_succ] at b5_0')
                  have b6_0' := Blk.keep (g := w5.heap.size) hb24 (by (repeat' (first | (with_reducible refine' Blk.alloc ?_ _) | (with_reducible refine' Blk.drew ?_) | (with_reducible refine' Blk.drewN ?_ _) | (with_reducible refine' Blk.put ?_ ?_) | (with_reducible refine' Blk.far ?_ ?_ _) | exact b6_0 | exact rfl)) <;> (first | omega | (simp <;> omega)))
                  (try simp only [List.setIfInBounds_toArray, List.set_cons_zero, List.set_cons_succ] at b6_0')
                  have b7_0' := Blk.keep (g := w6.heap.size) hb24 (by (repeat' (first | (with_reducible refine' Blk.alloc ?_ _) | (with_reducible refine' Blk.drew ?_) | (with_reducible refine' Blk.drewN ?_ _) | (with_reducible refine' Blk.put ?_ ?_) | (with_reducible refine' Blk.far ?_ ?_ _) | exact b7_0 | exact rfl)) <;> (first | omega | (simp <;> omega)))
                  (try simp only [List.setIfInBounds_toArray, List.set_cons_zero, List.set_cons_succ] at b7_0')
                  have bW' := Blk.keep (g := w7.heap.size) hb24 (by (repeat' (first | (with_reducible refine' Blk.alloc ?_ _) | (with_reducible refine' Blk.drew ?_) | (with_reducible refine' Blk.drewN ?_ _) | (with_reducible refine' Blk.put ?_ ?_) | (with_reducible refine' Blk.far ?_ ?_ _) | exact bW | exact rfl)) <;> (first | omega | (simp <;> omega)))
                  (try simp only [List.setIfInBounds_toArray, List.set_cons_zero, List.set_cons_succ] at bW')
                  clear hb24 K23
                  clear bX cX fX lX eX kX; have bX := bX'; clear bX'
                  clear bY cY fY lY eY kY; have bY := bY'; clear bY'
                  clear b4_0 c4_0 f4_0 l4_0 e4_0 k4_0; have b4_0 := b4_0'; clear b4_0'
                  clear b5_0 c5_0 f5_0 l5_0 e5_0 k5_0; have b5_0 := b5_0'; clear b5_0'
                  clear b6_0 c6_0 f6_0 l6_0 e6_0 k6_0; have b6_0 := b6_0'; clear b6_0'
                  clear b7_0 c7_0 f7_0 l7_0 e7_0 k7_0; have b7_0 := b7_0'; clear b7_0'
                  clear bW cW fW lW eW kW; have bW := bW'; clear bW'
                  obtain ⟨cX, fX, lX, eX, kX⟩ := Blk.facts bX
                  obtain ⟨cY, fY, lY, eY, kY⟩ := Blk.facts bY
                  obtain ⟨c4_0, f4_0, l4_0, e4_0, k4_0⟩ := Blk.facts b4_0
                  obtain ⟨c5_0, f5_0, l5_0, e5_0, k5_0⟩ := Blk.facts b5_0
                  obtain ⟨c6_0, f6_0, l6_0, e6_0, k6_0⟩ := Blk.facts b6_0
                  obtain ⟨c7_0, f7_0, l7_0, e7_0, k7_0⟩ := Blk.facts b7_0
                  obtain ⟨cW, fW, lW, eW, kW⟩ := Blk.facts bW
                  go_wp2_with fail
                  go_meet
                  exact ⟨rfl, by (repeat' (first | (with_reducible exact K24) | (with_reducible refine Below.setCell ?_ ?_ _) | (with_reducible refine Below.alloc ?_ ?_ _) | (with_reducible refine Below.drew ?_) | (with_reducible refine below_drewN ?_ _))) <;> (first | omega | (simp <;> omega)), by (repeat' (first | (with_reducible exact bX) | (with_reducible refine' Blk.alloc ?_ _) | (with_reducible refine' Blk.drew ?_) | (with_reducible refine' Blk.drewN ?_ _) | (with_reducible refine' Blk.put ?_ ?_) | (with_reducible refine' Blk.far ?_ ?_ _) | exact bX | exact rfl)) <;> (first | omega | (simp <;> omega)), by (repeat' (first | (with_reducible exact bY) | (with_reducible refine' Blk.alloc ?_ _) | (with_reducible refine' Blk.drew ?_) | (with_reducible refine' Blk.drewN ?_ _) | (with_reducible refine' Blk.put ?_ ?_) | (with_reducible refine' Blk.far ?_ ?_ _) | exact bY | exact rfl)) <;> (first | omega | (simp <;> omega)), by (repeat' (first | (with_reducible exact b4_0) | (with_reducible refine' Blk.alloc ?_ _) | (with_reducible refine' Blk.drew ?_) | (with_reducible refine' Blk.drewN ?_ _) | (with_reducible refine' Blk.put ?_ ?_) | (with_reducible refine' Blk.far ?_ ?_ _) | exact b4_0 | exact rfl)) <;> (first | omega | (simp <;> omega)), by (repeat' (first | (with_reducible exact b5_0) | (with_reducible refine' Blk.alloc ?_ _) | (with_reducible refine' Blk.drew ?_) | (with_reducible refine' Blk.drewN ?_ _) | (with_reducible refine' Blk.put ?_ ?_) | (with_reducible refine' Blk.far ?_ ?_ _) | exact b5_0 | exact rfl)) <;> (first | omega | (simp <;> omega)), by (repeat' (first | (with_reducible exact b6_0) | (with_reducible refine' Blk.alloc ?_ _) | (with_reducible refine' Blk.drew ?_) | (with_reducible refine' Blk.drewN ?_ _) | (with_reducible refine' Blk.put ?_ ?_) | (with_reducible refine' Blk.far ?_ ?_ _) | exact b6_0 | exact rfl)) <;> (first | omega | (simp <;> omega)), by (repeat' (first | (with_reducible exact b7_0) | (with_reducible refine' Blk.alloc ?_ _) | (with_reducible refine' Blk.drew ?_) | (with_reducible refine' Blk.drewN ?_ _) | (with_reducible refine' Blk.put ?_ ?_) | (with_reducible refine' Blk.far ?_ ?_ _) | exact b7_0 | exact rfl)) <;> (first | omega | (simp <;> omega)), by (repeat' (first | (with_reducible exact bW) | (with_reducible refine' Blk.alloc ?_ _) | (with_reducible refine' Blk.drew ?_) | (with_reducible refine' Blk.drewN ?_ _) | (with_reducible refine' Blk.put ?_ ?_) | (with_reducible refine' Blk.far ?_ ?_ _) | exact bW | exact rfl)) <;> (first | omega | (simp <;> omega))⟩
              · obtain ⟨f9, f10⟩ := f4 rfl
                clear f4
                subst f9; subst f10
                as_aux_lemma =>
                  go_wp2_with fail
                  refine (K_3.out _).mono ?_
                  rintro e w21 ⟨rfl, hb21⟩
                  have K21 : Below w.heap.size w w21 := kept_call hb21 (by (repeat' (first | (with_reducible exact K20) | (with_reducible refine Below.setCell ?_ ?_ _) | (with_reducible refine Below.alloc ?_ ?_ _) | (with_reducible refine Below.drew ?_) | (with_reducible refine below_drewN ?_ _))) <;> (first | omega | (simp <;> omega)))
                  have Z21 : w.heap.size ≤ w21.heap.size := K21.size
                  have bX' := Blk.keep (g := X) hb21 (by (repeat' (first | (with_reducible refine' Blk.alloc ?_ _) | (with_reducible refine' Blk.drew ?_) | (with_reducible refine' Blk.drewN ?_ _) | (with_reducible refine' Blk.put ?_ ?_) | (with_reducible refine' Blk.far ?_ ?_ _) | exact bX | exact rfl)) <;> (first | omega | (simp <;> omega)))
                  (try simp only [List.setIfInBounds_toArray, List.set_cons_zero, List.set_cons_succ] at bX')
                  have bY' := Blk.keep (g := Y) hb21 (by (repeat' (first | (with_reducible refine' Blk.alloc ?_ _) | (with_reducible refine' Blk.drew ?_) | (with_reducible refine' Blk.drewN ?_ _) | (with_reducible refine' Blk.put ?_ ?_) | (with_reducible refine' Blk.far ?_ ?_ _) | exact bY | exact rfl)) <;> (first | omega | (simp <;> omega)))
                  (try simp only [List.setIfInBounds_toArray, List.set_cons_zero, List.set_cons_succ] at bY')
                  have b4_0' := Blk.keep (g := w3.heap.size) hb21 (by (repeat' (first | (with_reducible refine' Blk.alloc ?_ _) | (with_reducible refine' Blk.drew ?_) | (with_reducible refine' Blk.drewN ?_ _) | (with_reducible refine' Blk.put ?_ ?_) | (with_reducible refine' Blk.far ?_ ?_ _) | exact b4_0 | exact rfl)) <;> (first | omega | (simp <;> omega)))
                  (try simp only [List.setIfInBounds_toArray, List.set_cons_zero, List.set_cons_succ] at b4_0')
                  have b5_0' := Blk.keep (g := w4.heap.size) hb21 (by (repeat' (first | (with_reducible refine' Blk.alloc ?_ _) | (with_reducible refine' Blk.drew ?_) | (with_reducible refine' Blk.drewN ?_ _) | (with_reducible refine' Blk.put ?_ ?_) | (with_reducible refine' Blk.far ?_ ?_ _) | exact b5_0 | exact rfl)) <;> (first | omega | (simp <;> omega)))
                  (try simp only [List.setIfInBounds_toArray, List.set_cons_zero, List.set_cons_succ] at b5_0')
                  have b6_0' := Blk.keep (g := w5.heap.size) hb21 (by (repeat' (first | (with_reducible refine' Blk.alloc ?_ _) | (with_reducible refine' Blk.drew ?_) | (with_reducible refine' Blk.drewN ?_ _) | (with_reducible refine' Blk.put ?_ ?_) | (with_reducible refine' Blk.far ?_ ?_ _) | exact b6_0 | exact rfl)) <;> (first | omega | (simp <;> omega)))
                  (try simp only [List.setIfInBounds_toArray, List.set_cons_zero, List.set_cons_succ] at b6_0')
                  have b7_0' := Blk.keep (g := w6.heap.size) hb21 (by (repeat' (first | (with_reducible refine' Blk.alloc ?_ _) | (with_reducible refine' Blk.drew ?_) | (with_reducible refine' Blk.drewN ?_ _) | (with_reducible refine' Blk.put ?_ ?_) | (with_reducible refine' Blk.far ?_ ?_ _) | exact b7_0 | exact rfl)) <;> (first | omega | (simp <;> omega)))
                  (try simp only [List.setIfInBounds_toArray, List.set_cons_zero, List.set_cons_succ] at b7_0')
                  have bW' := Blk.keep (g := w7.heap.size) hb21 (by (repeat' (first | (with_reducible refine' Blk.alloc ?_ _) | (with_reducible refine' Blk.drew ?_) | (with_reducible refine' Blk.drewN ?_ _) | (with_reducible refine' Blk.put ?_ ?_) | (with_reducible refine' Blk.far ?_ ?_ _) | exact bW | exact rfl)) <;> (first | omega | (simp <;> omega)))
                  (try simp only [List.setIfInBounds_toArray, List.set_cons_zero, List.set_cons_succ] at bW')
                  clear hb21 K20
                  clear bX cX fX lX eX kX; have bX := bX'; clear bX'
                  clear bY cY fY lY eY kY; have bY := bY'; clear bY'
                  clear b4_0 c4_0 f4_0 l4_0 e4_0 k4_0; have b4_0 := b4_0'; clear b4_0'
                  clear b5_0 c5_0 f5_0 l5_0 e5_0 k5_0; have b5_0 := b5_0'; clear b5_0'
                  clear b6_0 c6_0 f6_0 l6_0 e6_0 k6_0; have b6_0 := b6_0'; clear b6_0'
                  clear b7_0 c7_0 f7_0 l7_0 e7_0 k7_0; have b7_0 := b7_0'; clear b7_0'
                  clear bW cW fW lW eW kW; have bW := bW'; clear bW'
                  obtain ⟨cX, fX, lX, eX, kX⟩ := Blk.facts bX
                  obtain ⟨cY, fY, lY, eY, kY⟩ := Blk.facts bY
                  obtain ⟨c4_0, f4_0, l4_0, e4_0, k4_0⟩ := Blk.facts b4_0
                  obtain ⟨c5_0, f5_0, l5_0, e5_0, k5_0⟩ := Blk.facts b5_0
                  obtain ⟨c6_0, f6_0, l6_0, e6_0, k6_0⟩ := Blk.facts b6_0
                  obtain ⟨c7_0, f7_0, l7_0, e7_0, k7_0⟩ := Blk.facts b7_0
                  obtain ⟨cW, fW, lW, eW, kW⟩ := Blk.facts bW
                  go_wp2_with fail
                  refine (K_4.out _).mono ?_
                  rintro e w22 ⟨rfl, hb22⟩
                  have K22 : Below w.heap.size w w22 := kept_call hb22 (by (repeat' (first | (with_reducible exact K21) | (with_reducible refine Below.setCell ?_ ?_ _) | (with_reducible refine Below.alloc ?_ ?_ _) | (with_reducible refine Below.drew ?_) | (with_reducible refine below_drewN ?_ _))) <;> (first | omega | (simp <;> omega)))
                  have Z22 : w.heap.size ≤ w22.heap.size := K22.size
                  have bX' := Blk.keep (g := X) hb22 (by (repeat' (first | (with_reducible refine' Blk.alloc ?_ _) | (with_reducible refine' Blk.drew ?_) | (with_reducible refine' Blk.drewN ?_ _) | (with_reducible refine' Blk.put ?_ ?_) | (with_reducible refine' Blk.far ?_ ?_ _) | exact bX | exact rfl)) <;> (first | omega | (simp <;> omega)))
                  (try simp only [List.setIfInBounds_toArray, List.set_cons_zero, List.set_cons_succ] at bX')
                  have bY' := Blk.keep (g := Y) hb22 (by (repeat' (first | (with_reducible refine' Blk.alloc ?_ _) | (with_reducible refine' Blk.drew ?_) | (with_reducible refine' Blk.drewN ?_ _) | (with_reducible refine' Blk.put ?_ ?_) | (with_reducible refine' Blk.far ?_ ?_ _) | exact bY | exact rfl)) <;> (first | omega | (simp <;> omega)))
                  (try simp only [List.setIfInBounds_toArray, List.set_cons_zero, List.set_cons_succ] at bY')
                  have b4_0' := Blk.keep (g := w3.heap.size) hb22 (by (repeat' (first | (with_reducible refine' Blk.alloc ?_ _) | (with_reducible refine' Blk.drew ?_) | (with_reducible refine' Blk.drewN ?_ _) | (with_reducible refine' Blk.put ?_ ?_) | (with_reducible refine' Blk.far ?_ ?_ _) | exact b4_0 | exact rfl)) <;> (first | omega | (simp <;> omega)))
                  (try simp only [List.setIfInBounds_toArray, List.set_cons_zero, List.set_cons_succ] at b4_0')
                  have b5_0' := Blk.keep (g := w4.heap.size) hb22 (by (repeat' (first | (with_reducible refine' Blk.alloc ?_ _) | (with_reducible refine' Blk.drew ?_) | (with_reducible refine' Blk.drewN ?_ _) | (with_reducible refine' Blk.put ?_ ?_) | (with_reducible refine' Blk.far ?_ ?_ _) | exact b5_0 | exact rfl)) <;> (first | omega | (simp <;> omega)))
                  (try simp only [List.setIfInBounds_toArray, List.set_cons_zero, List.set_cons_succ] at b5_0')
                  have b6_0' := Blk.keep (g := w5.heap.size) hb22 (by (repeat' (first | (with_reducible refine' Blk.alloc ?_ _) | (with_reducible refine' Blk.drew ?_) | (with_reducible refine' Blk.drewN ?_ _) | (with_reducible refine' Blk.put ?_ ?_) | (with_reducible refine' Blk.far ?_ ?_ _) | exact b6_0 | exact rfl)) <;> (first | omega | (simp <;> omega)))
                  (try simp only [List.setIfInBounds_toArray, List.set_cons_zero, List.set_cons_succ] at b6_0')
                  have b7_0' := Blk.keep (g := w6.heap.size) hb22 (by (repeat' (first | (with_reducible refine' Blk.alloc ?_ _) | (with_reducible refine' Blk.drew ?_) | (with_reducible refine' Blk.drewN ?_ _) | (with_reducible refine' Blk.put ?_ ?_) | (with_reducible refine' Blk.far ?_ ?_ _) | exact b7_0 | exact rfl)) <;> (first | omega | (simp <;> omega)))
                  (try simp only [List.setIfInBounds_toArray, List.set_cons_zero, List.set_cons_succ] at b7_0')
                  have bW' := Blk.keep (g := w7.heap.size) hb22 (by (repeat' (first | (with_reducible refine' Blk.alloc ?_ _) | (with_reducible refine' Blk.drew ?_) | (with_reducible refine' Blk.drewN ?_ _) | (with_reducible refine' Blk.put ?_ ?_) | (with_reducible refine' Blk.far ?_ ?_ _) | exact bW | exact rfl)) <;> (first | omega | (simp <;> omega)))
                  (try simp only [List.setIfInBounds_toArray, List.set_cons_zero, List.set_cons_succ] at bW')
                  clear hb22 K21
                  clear bX cX fX lX eX kX; have bX := bX'; clear bX'
                  clear bY cY fY lY eY kY; have bY := bY'; clear bY'
                  clear b4_0 c4_0 f4_0 l4_0 e4_0 k4_0; have b4_0 := b4_0'; clear b4_0'
                  clear b5_0 c5_0 f5_0 l5_0 e5_0 k5_0; have b5_0 := b5_0'; clear b5_0'
                  clear b6_0 c6_0 f6_0 l6_0 e6_0 k6_0; have b6_0 := b6_0'; clear b6_0'
                  clear b7_0 c7_0 f7_0 l7_0 e7_0 k7_0; have b7_0 := b7_0'; clear b7_0'
                  clear bW cW fW lW eW kW; have bW := bW'; clear bW'
                  obtain ⟨cX, fX, lX, eX, kX⟩ := Blk.facts bX
                  obtain ⟨cY, fY, lY, eY, kY⟩ := Blk.facts bY
                  obtain ⟨c4_0, f4_0, l4_0, e4_0, k4_0⟩ := Blk.facts b4_0
                  obtain ⟨c5_0, f5_0, l5_0, e5_0, k5_0⟩ := Blk.facts b5_0
                  obtain ⟨c6_0, f6_0, l6_0, e6_0, k6_0⟩ := Blk.facts b6_0
                  obtain ⟨c7_0, f7_0, l7_0, e7_0, k7_0⟩ := Blk.facts b7_0
                  obtain ⟨cW, fW, lW, eW, kW⟩ := Blk.facts bW
                  go_wp2_with fail
                  refine (K_5.out _).mono ?_
                  rintro e w23 ⟨rfl, hb23⟩
                  have K23 : Below w.heap.size w w23 := kept_call hb23 (by (repeat' (first | (with_reducible exact K22) | (with_reducible refine Below.setCell ?_ ?_ _) | (with_reducible refine Below.alloc ?_ ?_ _) | (with_reducible refine Below.drew ?_) | (with_reducible refine below_drewN ?_ _))) <;> (first | omega | (simp <;> omega)))
                  have Z23 : w.heap.size ≤ w23.heap.size := K23.size
                  have bX' := Blk.keep (g := X) hb23 (by (repeat' (first | (with_reducible refine' Blk.alloc ?_ _) | (with_reducible refine' Blk.drew ?_) | (with_reducible refine' Blk.drewN ?_ _) | (with_reducible refine' Blk.put ?_ ?_) | (with_reducible refine' Blk.far ?_ ?_ _) | exact bX | exact rfl)) <;> (first | omega | (simp <;> omega)))
                  (try simp only [List.setIfInBounds_toArray, List.set_cons_zero, List.set_cons_succ] at bX')
                  have bY' := Blk.keep (g := Y) hb23 (by (repeat' (first | (with_reducible refine' Blk.alloc ?_ _) | (with_reducible refine' Blk.drew ?_) | (with_reducible refine' Blk.drewN ?_ _) | (with_reducible refine' Blk.put ?_ ?_) | (with_reducible refine' Blk.far ?_ ?_ _) | exact bY | exact rfl)) <;> (first | omega | (simp <;> omega)))
                  (try simp only [List.setIfInBounds_toArray, List.set_cons_zero, List.set_cons_succ] at bY')
                  have b4_0' := Blk.keep (g := w3.heap.size) hb23 (by (repeat' (first | (with_reducible refine' Blk.alloc ?_ _) | (with_reducible refine' Blk.drew ?_) | (with_reducible refine' Blk.drewN ?_ _) | (with_reducible refine' Blk.put ?_ ?_) | (with_reducible refine' Blk.far ?_ ?_ _) | exact b4_0 | exact rfl)) <;> (first | omega | (simp <;> omega)))
                  (try simp only [List.setIfInBounds_toArray, List.set_cons_zero, List.set_cons_succ] at b4_0')
                  have b5_0' := Blk.keep (g := w4.heap.size) hb23 (by (repeat' (first | (with_reducible refine' Blk.alloc ?_ _) | (with_reducible refine' Blk.drew ?_) | (with_reducible refine' Blk.drewN ?_ _) | (with_reducible refine' Blk.put ?_ ?_) | (with_reducible refine' Blk.far ?_ ?_ _) | exact b5_0 | exact rfl)) <;> (first | omega | (simp <;> omega)))
                  (try simp only [List.setIfInBounds_toArray, List.set_cons_zero, List.set_cons_succ] at b5_0')
                  have b6_0' := Blk.keep (g := w5.heap.size) hb23 (by (repeat' (first | (with_reducible refine' Blk.alloc ?_ _) | (with_reducible refine' Blk.drew ?_) | (with_reducible refine' Blk.drewN ?_ _) | (with_reducible refine' Blk.put ?_ ?_) | (with_reducible refine' Blk.far ?_ ?_ _) | exact b6_0 | exact rfl)) <;> (first | omega | (simp <;> omega)))
                  (try simp only [List.setIfInBounds_toArray, List.set_cons_zero, List.set_cons_succ] at b6_0')
                  have b7_0' := Blk.keep (g := w6.heap.size) hb23 (by (repeat' (first | (with_reducible refine' Blk.alloc ?_ _) | (with_reducible refine' Blk.drew ?_) | (with_reducible refine' Blk.drewN ?_ _) | (with_reducible refine' Blk.put ?_ ?_) | (with_reducible refine' Blk.far ?_ ?_ _) | exact b7_0 | exact rfl)) <;> (first | omega | (simp <;> omega)))
                  (try simp only [List.setIfInBounds_toArray, List.set_cons_zero, List.set_cons_succ] at b7_0')
                  have bW' := Blk.keep (g := w7.heap.size) hb23 (by (repeat' (first | (with_reducible refine' Blk.alloc ?_ _) | (with_reducible refine' Blk.drew ?_) | (with_reducible refine' Blk.drewN ?_ _) | (with_reducible refine' Blk.put ?_ ?_) | (with_reducible refine' Blk.far ?_ ?_ _) | exact bW | exact rfl)) <;> (first | omega | (simp <;> omega)))
                  (try simp only [List.setIfInBounds_toArray, List.set_cons_zero, List.set_cons_succ] at bW')
                  clear hb23 K22
                  clear bX cX fX lX eX kX; have bX := bX'; clear bX'
                  clear bY cY fY lY eY kY; have bY := bY'; clear bY'
                  clear b4_0 c4_0 f4_0 l4_0 e4_0 k4_0; have b4_0 := b4_0'; clear b4_0'
                  clear b5_0 c5_0 f5_0 l5_0 e5_0 k5_0; have b5_0 := b5_0'; clear b5_0'
                  clear b6_0 c6_0 f6_0 l6_0 e6_0 k6_0; have b6_0 := b6_0'; clear b6_0'
                  clear b7_0 c7_0 f7_0 l7_0 e7_0 k7_0; have b7_0 := b7_0'; clear b7_0'
                  clear bW cW fW lW eW kW; have bW := bW'; clear bW'
                  obtain ⟨cX, fX, lX, eX, kX⟩ := Blk.facts bX
                  obtain ⟨cY, fY, lY, eY, kY⟩ := Blk.facts bY
                  obtain ⟨c4_0, f4_0, l4_0, e4_0, k4_0⟩ := Blk.facts b4_0
                  obtain ⟨c5_0, f5_0, l5_0, e5_0, k5_0⟩ := Blk.facts b5_0
                  obtain ⟨c6_0, f6_0, l6_0, e6_0, k6_0⟩ := Blk.facts b6_0
                  obtain ⟨c7_0, f7_0, l7_0, e7_0, k7_0⟩ := Blk.facts b7_0
                  obtain ⟨cW, fW, lW, eW, kW⟩ := Blk.facts bW
                  go_wp2_with fail
                  refine (K_6.out _).mono ?_
                  rintro e w24 ⟨rfl, hb24⟩
                  have K24 : Below w.heap.size w w24 := kept_call hb24 (by (repeat' (first | (with_reducible exact K23) | (with_reducible refine Below.setCell ?_ ?_ _) | (with_reducible refine Below.alloc ?_ ?_ _) | (with_reducible refine Below.drew ?_) | (with_reducible refine below_drewN ?_ _))) <;> (first | omega | (simp <;> omega)))
                  have Z24 : w.heap.size ≤ w24.heap.size := K24.size
                  have bX' := Blk.keep (g := X) hb24 (by (repeat' (first | (with_reducible refine' Blk.alloc ?_ _) | (with_reducible refine' Blk.drew ?_) | (with_reducible refine' Blk.drewN ?_ _) | (with_reducible refine' Blk.put ?_ ?_) | (with_reducible refine' Blk.far ?_ ?_ _) | exact bX | exact rfl)) <;> (first | omega | (simp <;> omega)))
                  (try simp only [List.setIfInBounds_toArray, List.set_cons_zero, List.set_cons_succ] at bX')
                  have bY' := Blk.keep (g := Y) hb24 (by (repeat' (first | (with_reducible refine' Blk.alloc ?_ _) | (with_reducible refine' Blk.drew ?_) | (with_reducible refine' Blk.drewN ?_ _) | (with_reducible refine' Blk.put ?_ ?_) | (with_reducible refine' Blk.far ?_ ?_ _) | exact bY | exact rfl)) <;> (first | omega | (simp <;> omega)))
                  (try simp only [List.setIfInBounds_toArray, List.set_cons_zero, List.set_cons_succ] at bY')
                  have b4_0' := Blk.keep (g := w3.heap.size) hb24 (by (repeat' (first | (with_reducible refine' Blk.alloc ?_ _) | (with_reducible refine' Blk.drew ?_) | (with_reducible refine' Blk.drewN ?_ _) | (with_reducible refine' Blk.put ?_ ?_) | (with_reducible refine' Blk.far ?_ ?_ _) | exact b4_0 | exact rfl)) <;> (first | omega | (simp <;> omega)))
                  (try simp only [List.setIfInBounds_toArray, List.set_cons_zero, List.set_cons_succ] at b4_0')
                  have b5_0' := Blk.keep (g := w4.heap.size) hb24 (by (repeat' (first | (with_reducible refine' Blk.alloc ?_ _) | (with_reducible refine' Blk.drew ?_) | (with_reducible refine' Blk.drewN ?_ _) | (with_reducible refine' Blk.put ?_ ?_) | (with_reducible refine' Blk.far ?_ ?_ _) | exact b5_0 | exact rfl)) <;> (first | omega | (simp <;> omega)))
                  (try simp only [List.setIfInBounds_toArray, List.set_cons_zero, List.set_cons_succ] at b5_0')
                  have b6_0' := Blk.keep (g := w5.heap.size) hb24 (by (repeat' (first | (with_reducible refine' Blk.alloc ?_ _) | (with_reducible refine' Blk.drew ?_) | (with_reducible refine' Blk.drewN ?_ _) | (with_reducible refine' Blk.put ?_ ?_) | (with_reducible refine' Blk.far ?_ ?_ _) | exact b6_0 | exact rfl)) <;> (first | omega | (simp <;> omega)))
                  (try simp only [List.setIfInBounds_toArray, List.set_cons_zero, List.set_cons_succ] at b6_0')
                  have b7_0' := Blk.keep (g := w6.heap.size) hb24 (by (repeat' (first | (with_reducible refine' Blk.alloc ?_ _) | (with_reducible refine' Blk.drew ?_) | (with_reducible refine' Blk.drewN ?_ _) | (with_reducible refine' Blk.put ?_ ?_) | (with_reducible refine' Blk.far ?_ ?_ _) | exact b7_0 | exact rfl)) <;> (first | omega | (simp <;> omega)))
                  (try simp only [List.setIfInBounds_toArray, List.set_cons_zero, List.set_cons_succ] at b7_0')
                  have bW' := Blk.keep (g := w7.heap.size) hb24 (by (repeat' (first | (with_reducible refine' Blk.alloc ?_ _) | (with_reducible refine' Blk.drew ?_) | (with_reducible refine' Blk.drewN ?_ _) | (with_reducible refine' Blk.put ?_ ?_) | (with_reducible refine' Blk.far ?_ ?_ _) | exact bW | exact rfl)) <;> (first | omega | (simp <;> omega)))
                  (try simp only [List.setIfInBounds_toArray, List.set_cons_zero, List.set_cons_succ] at bW')
                  clear hb24 K23
                  clear bX cX fX lX eX kX; have bX := bX'; clear bX'
                  clear bY cY fY lY eY kY; have bY := bY'; clear bY'
                  clear b4_0 c4_0 f4_0 l4_0 e4_0 k4_0; have b4_0 := b4_0'; clear b4_0'
                  clear b5_0 c5_0 f5_0 l5_0 e5_0 k5_0; have b5_0 := b5_0'; clear b5_0'
                  clear b6_0 c6_0 f6_0 l6_0 e6_0 k6_0; have b6_0 := b6_0'; clear b6_0'
                  clear b7_0 c7_0 f7_0 l7_0 e7_0 k7_0; have b7_0 := b7_0'; clear b7_0'
                  clear bW cW fW lW eW kW; have bW := bW'; clear bW'
                  obtain ⟨cX, fX, lX, eX, kX⟩ := Blk.facts bX
                  obtain ⟨cY, fY, lY, eY, kY⟩ := Blk.facts bY
                  obtain ⟨c4_0, f4_0, l4_0, e4_0, k4_0⟩ := Blk.facts b4_0
                  obtain ⟨c5_0, f5_0, l5_0, e5_0, k5_0⟩ := Blk.facts b5_0
                  obtain ⟨c6_0, f6_0, l6_0, e6_0, k6_0⟩ := Blk.facts b6_0
                  obtain ⟨c7_0, f7_0, l7_0, e7_0, k7_0⟩ := Blk.facts b7_0
                  obtain ⟨cW, fW, lW, eW, kW⟩ := Blk.facts bW
                  go_wp2_with fail
                  refine (K_7.out _).mono ?_
                  rintro e w25 ⟨rfl, hb25⟩
                  have K25 : Below w.heap.size w w25 := kept_call hb25 (by (repeat' (first | (with_reducible exact K24) | (with_reducible refine Below.setCell ?_ ?_ _) | (with_reducible refine Below.alloc ?_ ?_ _) | (with_reducible refine Below.drew ?_) | (with_reducible refine below_drewN ?_ _))) <;> (first | omega | (simp <;> omega)))
                  have Z25 : w.heap.size ≤ w25.heap.size := K25.size
                  have bX' := Blk.keep (g := X) hb25 (by (repeat' (first | (with_reducible refine' Blk.alloc ?_ _) | (with_reducible refine' Blk.drew ?_) | (with_reducible refine' Blk.drewN ?_ _) | (with_reducible refine' Blk.put ?_ ?_) | (with_reducible refine' Blk.far ?_ ?_ _) | exact bX | exact rfl)) <;> (first | omega | (simp <;> omega)))
                  (try simp only [List.setIfInBounds_toArray, List.set_cons_zero, List.set_cons_succ] at bX')
                  have bY' := Blk.keep (g := Y) hb25 (by (repeat' (first | (with_reducible refine' Blk.alloc ?_ _) | (with_reducible refine' Blk.drew ?_) | (with_reducible refine' Blk.drewN ?_ _) | (with_reducible refine' Blk.put ?_ ?_) | (with_reducible refine' Blk.far ?_ ?_ _) | exact bY | exact rfl)) <;> (first | omega | (simp <;> omega)))
                  (try simp only [List.setIfInBounds_toArray, List.set_cons_zero, List.set_cons_succ] at bY')
                  have b4_0' := Blk.keep (g := w3.heap.size) hb25 (by (repeat' (first | (with_reducible refine' Blk.alloc ?_ _) | (with_reducible refine' Blk.drew ?_) | (with_reducible refine' Blk.drewN ?_ _) | (with_reducible refine' Blk.put ?_ ?_) | (with_reducible refine' Blk.far ?_ ?_ _) | exact b4_0 | exact rfl)) <;> (first | omega | (simp <;> omega)))
                  (try simp only [List.setIfInBounds_toArray, List.set_cons_zero, List.set_cons_succ] at b4_0')
                  have b5_0' := Blk.keep (g := w4.heap.size) hb25 (by (repeat' (first | (with_reducible refine' Blk.alloc ?_ _) | (with_reducible refine' Blk.drew ?_) | (with_reducible refine' Blk.drewN ?_ _) | (with_reducible refine' Blk.put ?_ ?_) | (with_reducible refine' Blk.far ?_ ?_ _) | exact b5_0 | exact rfl)) <;> (first | omega | (simp <;> omega)))
                  (try simp only [List.setIfInBounds_toArray, List.set_cons_zero, List.set_cons_succ] at b5_0')
                  have b6_0' := Blk.keep (g := w5.heap.size) hb25 (by (repeat' (first | (with_reducible refine' Blk.alloc ?_ _) | (with_reducible refine' Blk.drew ?_) | (with_reducible refine' Blk.drewN ?_ _) | (with_reducible refine' Blk.put ?_ ?_) | (with_reducible refine' Blk.far ?_ ?_ _) | exact b6_0 | exact rfl)) <;> (first | omega | (simp <;> omega)))
                  (try simp only [List.setIfInBounds_toArray, List.set_cons_zero, List.set_cons_succ] at b6_0')
                  have b7_0' := Blk.keep (g := w6.heap.size) hb25 (by (repeat' (first | (with_reducible refine' Blk.alloc ?_ _) | (with_reducible refine' Blk.drew ?_) | (with_reducible refine' Blk.drewN ?_ _) | (with_reducible refine' Blk.put ?_ ?_) | (with_reducible refine' Blk.far ?_ ?_ _) | exact b7_0 | exact rfl)) <;> (first | omega | (simp <;> omega)))
                  (try simp only [List.setIfInBounds_toArray, List.set_cons_zero, List.set_cons_succ] at b7_0')
                  have bW' := Blk.keep (g := w7.heap.size) hb25 (by (repeat' (first | (with_reducible refine' Blk.alloc ?_ _) | (with_reducible refine' Blk.drew ?_) | (with_reducible refine' Blk.drewN ?_ _) | (with_reducible refine' Blk.put ?_ ?_) | (with_reducible refine' Blk.far ?_ ?_ _) | exact bW | exact rfl)) <;> (first | omega | (simp <;> omega)))
                  (try simp only [List.setIfInBounds_toArray, List.set_cons_zero, List.set_cons_succ] at bW')
                  clear hb25 K24
                  clear bX cX fX lX eX kX; have bX := bX'; clear bX'
                  clear bY cY fY lY eY kY; have bY := bY'; clear bY'
                  clear b4_0 c4_0 f4_0 l4_0 e4_0 k4_0; have b4_0 := b4_0'; clear b4_0'
                  clear b5_0 c5_0 f5_0 l5_0 e5_0 k5_0; have b5_0 := b5_0'; clear b5_0'
                  clear b6_0 c6_0 f6_0 l6_0 e6_0 k6_0; have b6_0 := b6_0'; clear b6_0'
                  clear b7_0 c7_0 f7_0 l7_0 e7_0 k7_0; have b7_0 := b7_0'; clear b7_0'
                  clear bW cW fW lW eW kW; have bW := bW'; clear bW'
                  obtain ⟨cX, fX, lX, eX, kX⟩ := Blk.facts bX
                  obtain ⟨cY, fY, lY, eY, kY⟩ := Blk.facts bY
                  obtain ⟨c4_0, f4_0, l4_0, e4_0, k4_0⟩ := Blk.facts b4_0
                  obtain ⟨c5_0, f5_0, l5_0, e5_0, k5_0⟩ := Blk.facts b5_0
                  obtain ⟨c6_0, f6_0, l6_0, e6_0, k6_0⟩ := Blk.facts b6_0
                  obtain ⟨c7_0, f7_0, l7_0, e7_0, k7_0⟩ := Blk.facts b7_0
                  obtain ⟨cW, fW, lW, eW, kW⟩ := Blk.facts bW
                  go_wp2_with fail
                  refine (K_8.out _).mono ?_
                  rintro e w26 ⟨rfl, hb26⟩
                  have K26 : Below w.heap.size w w26 := kept_call hb26 (by (repeat' (first | (with_reducible exact K25) | (with_reducible refine Below.setCell ?_ ?_ _) | (with_reducible refine Below.alloc ?_ ?_ _) | (with_reducible refine Below.drew ?_) | (with_reducible refine below_drewN ?_ _))) <;> (first | omega | (simp <;> omega)))
                  have Z26 : w.heap.size ≤ w26.heap.size := K26.size
                  have bX' := Blk.keep (g := X) hb26 (by (repeat' (first | (with_reducible refine' Blk.alloc ?_ _) | (with_reducible refine' Blk.drew ?_) | (with_reducible refine' Blk.drewN ?_ _) | (with_reducible refine' Blk.put ?_ ?_) | (with_reducible refine' Blk.far ?_ ?_ _) | exact bX | exact rfl)) <;> (first | omega | (simp <;> omega)))
                  (try simp only [List.setIfInBounds_toArray, List.set_cons_zero, List.set_cons_succ] at bX')
                  have bY' := Blk.keep (g := Y) hb26 (by (repeat' (first | (with_reducible refine' Blk.alloc ?_ _) | (with_reducible refine' Blk.drew ?_) | (with_reducible refine' Blk.drewN ?_ _) | (with_reducible refine' Blk.put ?_ ?_) | (with_reducible refine' Blk.far ?_ ?_ _) | exact bY | exact rfl)) <;> (first | omega | (simp <;> omega)))
                  (try simp only [List.setIfInBounds_toArray, List.set_cons_zero, List.set_cons_succ] at bY')
                  have b4_0' := Blk.keep (g := w3.heap.size) hb26 (by (repeat' (first | (with_reducible refine' Blk.alloc ?_ _) | (with_reducible refine' Blk.drew ?_) | (with_reducible refine' Blk.drewN ?_ _) | (with_reducible refine' Blk.put ?_ ?_) | (with_reducible refine' Blk.far ?_ ?_ _) | exact b4_0 | exact rfl)) <;> (first | omega | (simp <;> omega)))
                  (try simp only [List.setIfInBounds_toArray, List.set_cons_zero, List.set_cons_succ] at b4_0')
                  have b5_0' := Blk.keep (g := w4.heap.size) hb26 (by (repeat' (first | (with_reducible refine' Blk.alloc ?_ _) | (with_reducible refine' Blk.drew ?_) | (with_reducible refine' Blk.drewN ?_ _) | (with_reducible refine' Blk.put ?_ ?_) | (with_reducible refine' Blk.far ?_ ?_ _) | exact b5_0 | exact rfl)) <;> (first | omega | (simp <;> omega)))
                  (try simp only [List.setIfInBounds_toArray, List.set_cons_zero, List.set_cons_succ] at b5_0')
                  have b6_0' := Blk.keep (g := w5.heap.size) hb26 (by (repeat' (first | (with_reducible refine' Blk.alloc ?_ _) | (with_reducible refine' Blk.drew ?_) | (with_reducible refine' Blk.drewN ?_ _) | (with_reducible refine' Blk.put ?_ ?_) | (with_reducible refine' Blk.far ?_ ?_ _) | exact b6_0 | exact rfl)) <;> (first | omega | (simp <;> omega)))
                  (try simp only [List.setIfInBounds_toArray, List.set_cons_zero, List.set_cons_succ] at b6_0')
                  have b7_0' := Blk.keep (g := w6.heap.size) hb26 (by (repeat' (first | (with_reducible refine' Blk.alloc ?_ _) | (with_reducible refine' Blk.drew ?_) | (with_reducible refine' Blk.drewN ?_ _) | (with_reducible refine' Blk.put ?_ ?_) | (with_reducible refine' Blk.far ?_ ?_ _) | exact b7_0 | exact rfl)) <;> (first | omega | (simp <;> omega)))
                  (try simp only [List.setIfInBounds_toArray, List.set_cons_zero, List.set_cons_succ] at b7_0')
                  have bW' := Blk.keep (g := w7.heap.size) hb26 (by (repeat' (first | (with_reducible refine' Blk.alloc ?_ _) | (with_reducible refine' Blk.drew ?_) | (with_reducible refine' Blk.drewN ?_ _) | (with_reducible refine' Blk.put ?_ ?_) | (with_reducible refine' Blk.far ?_ ?_ _) | exact bW | exact rfl)) <;> (first | omega | (simp <;> omega)))
                  (try simp only [List.setIfInBounds_toArray, List.set_cons_zero, List.set_cons_succ] at bW')
                  clear hb26 K25
                  clear bX cX fX lX eX kX; have bX := bX'; clear bX'
                  clear bY cY fY lY eY kY; have bY := bY'; clear bY'
                  clear b4_0 c4_0 f4_0 l4_0 e4_0 k4_0; have b4_0 := b4_0'; clear b4_0'
                  clear b5_0 c5_0 f5_0 l5_0 e5_0 k5_0; have b5_0 := b5_0'; clear b5_0'
                  clear b6_0 c6_0 f6_0 l6_0 e6_0 k6_0; have b6_0 := b6_0'; clear b6_0'
                  clear b7_0 c7_0 f7_0 l7_0 e7_0 k7_0; have b7_0 := b7_0'; clear b7_0'
                  clear bW cW fW lW eW kW; have bW := bW'; clear bW'
                  obtain ⟨cX, fX, lX, eX, kX⟩ := Blk.facts bX
                  obtain ⟨cY, fY, lY, eY, kY⟩ := Blk.facts bY
                  obtain ⟨c4_0, f4_0, l4_0, e4_0, k4_0⟩ := Blk.facts b4_0
                  obtain ⟨c5_0, f5_0, l5_0, e5_0, k5_0⟩ := Blk.facts b5_0
                  obtain ⟨c6_0, f6_0, l6_0, e6_0, k6_0⟩ := Blk.facts b6_0
                  obtain ⟨c7_0, f7_0, l7_0, e7_0, k7_0⟩ := Blk.facts b7_0
                  obtain ⟨cW, fW, lW, eW, kW⟩ := Blk.facts bW
                  go_wp2_with fail
                  go_meet
                  exact ⟨rfl, by (repeat' (first | (with_reducible exact K26) | (with_reducible refine Below.setCell ?_ ?_ _) | (with_reducible refine Below.alloc ?_ ?_ _) | (with_reducible refine Below.drew ?_) | (with_reducible refine below_drewN ?_ _))) <;> (first | omega | (simp <;> omega)), by (repeat' (first | (with_reducible exact bX) | (with_reducible refine' Blk.alloc ?_ _) | (with_reducible refine' Blk.drew ?_) | (with_reducible refine' Blk.drewN ?_ _) | (with_reducible refine' Blk.put ?_ ?_) | (with_reducible refine' Blk.far ?_ ?_ _) | exact bX | exact rfl)) <;> (first | omega | (simp <;> omega)), by (repeat' (first | (with_reducible exact bY) | (with_reducible refine' Blk.alloc ?_ _) | (with_reducible refine' Blk.drew ?_) | (with_reducible refine' Blk.drewN ?_ _) | (with_reducible refine' Blk.put ?_ ?_) | (with_reducible refine' Blk.far ?_ ?_ _) | exact bY | exact rfl)) <;> (first | omega | (simp <;> omega)), by (repeat' (first | (with_reducible exact b4_0) | (with_reducible refine' Blk.alloc ?_ _) | (with_reducible refine' Blk.drew ?_) | (with_reducible refine' Blk.drewN ?_ _) | (with_reducible refine' Blk.put ?_ ?_) | (with_reducible refine' Blk.far ?_ ?_ _) | exact b4_0 | exact rfl)) <;> (first | omega | (simp <;> omega)), by (repeat' (first | (with_reducible exact b5_0) | (with_reducible refine' Blk.alloc ?_ _) | (with_reducible refine' Blk.drew ?_) | (with_reducible refine' Blk.drewN ?_ _) | (with_reducible refine' Blk.put ?_ ?_) | (with_reducible refine' Blk.far ?_ ?_ _) | exact b5_0 | exact rfl)) <;> (first | omega | (simp <;> omega)), by (repeat' (first | (with_reducible exact b6_0) | (with_reducible refine' Blk.alloc ?_ _) | (with_reducible refine' Blk.drew ?_) | (with_reducible refine' Blk.drewN ?_ _) | (with_reducible refine' Blk.put ?_ ?_) | (with_reducible refine' Blk.far ?_ ?_ _) | exact b6_0 | exact rfl)) <;> (first | omega | (simp <;> omega)), by (repeat' (first | (with_reducible exact b7_0) | (with_reducible refine' Blk.alloc ?_ _) | (with_reducible refine' Blk.drew ?_) | (with_reducible refine' Blk.drewN ?_ _) | (with_reducible refine' Blk.put ?_ ?_) | (with_reducible refine' Blk.far ?_ ?_ _) | exact b7_0 | exact rfl)) <;> (first | omega | (simp <;> omega)), by (repeat' (first | (with_reducible exact bW) | (with_reducible refine' Blk.alloc ?_ _) | (with_reducible refine' Blk.drew ?_) | (with_reducible refine' Blk.drewN ?_ _) | (with_reducible refine' Blk.put ?_ ?_) | (with_reducible refine' Blk.far ?_ ?_ _) | exact bW | exact rfl)) <;> (first | omega | (simp <;> omega))⟩
        case rest =>
          rename World => w30
          obtain ⟨rfl, hP, nX, nY, n4_0, n5_0, n6_0, n7_0, nW⟩ := hcut
          clear K20
          have K30 := hP; clear hP
          have Z30 := K30.size
          clear bX cX fX lX eX kX; have bX := nX; clear nX
          obtain ⟨cX, fX, lX, eX, kX⟩ := Blk.facts bX
          clear bY cY fY lY eY kY; have bY := nY; clear nY
          obtain ⟨cY, fY, lY, eY, kY⟩ := Blk.facts bY
          clear b4_0 c4_0 f4_0 l4_0 e4_0 k4_0; have b4_0 := n4_0; clear n4_0
          obtain ⟨c4_0, f4_0, l4_0, e4_0, k4_0⟩ := Blk.facts b4_0
          clear b5_0 c5_0 f5_0 l5_0 e5_0 k5_0; have b5_0 := n5_0; clear n5_0
          obtain ⟨c5_0, f5_0, l5_0, e5_0, k5_0⟩ := Blk.facts b5_0
          clear b6_0 c6_0 f6_0 l6_0 e6_0 k6_0; have b6_0 := n6_0; clear n6_0
          obtain ⟨c6_0, f6_0, l6_0, e6_0, k6_0⟩ := Blk.facts b6_0
          clear b7_0 c7_0 f7_0 l7_0 e7_0 k7_0; have b7_0 := n7_0; clear n7_0
          obtain ⟨c7_0, f7_0, l7_0, e7_0, k7_0⟩ := Blk.facts b7_0
          clear bW cW fW lW eW kW; have bW := nW; clear nW
          obtain ⟨cW, fW, lW, eW, kW⟩ := Blk.facts bW
          go_wp2_with fail
          refine' wp_region_calm (by kernel_rfl) (fun _ _ w' => Below w.heap.size w w' ∧ Blk w' (X) 23 #[.int .i64 xl, .int .i64 xh] ∧ Blk w' (Y) 23 #[.int .i64 yl, .int .i64 yh] ∧ Blk w' (w3.heap.size) 23 #[.int .i64 ml, .int .i64 mh] ∧ Blk w' (w4.heap.size) 23 #[.int .i64 hl, .int .i64 hi] ∧ Blk w' (w5.heap.size) 23 #[.int .i64 sl, .int .i64 sh] ∧ Blk w' (w6.heap.size) 23 #[.int .i64 rl, .int .i64 rh] ∧ Blk w' (w7.heap.size) 23 #[.int .i64 wl, .int .i64 wh]) (fun _ _ => True) [(Is _), (Is _), (Is _), (Is _), (Is _), (Is _), (Is _), (Is _), (Is _), (Is _), (Is _), (Is _), (Is _), (Is _), (Is _), (Is _), (Is _), (Is _), (Is _), (Is _), (Is _), (Is _), (Is _), (Is _), (Is _), (Is _), (Is _), (Is _), (Is _)] [[], [0], [1], [1], [2, 3, 1], [1, 4], [5], [6], [6], [7, 8, 6], [6, 9], [10], [11], [12, 11], [11], [14, 11], [11], [16, 11], [15, 17, 11], [13, 18, 11], [11, 19], [20], [21], [22, 21], [21], [24, 21], [23, 25, 21], [21, 26], [27]] [] [] rfl (by kernel_rfl) (fun u => by (simp only [calmPut, Act.put, List.setIfInBounds_toArray, List.set_cons_zero, List.set_cons_succ, Nat.zero_add, Nat.reduceAdd]; rfl)) ?_ (calmKeep_cons keep_is' (calmKeep_cons keep_is' (calmKeep_cons keep_is' (calmKeep_cons keep_is' (calmKeep_cons keep_is' (calmKeep_cons keep_is' (calmKeep_cons keep_is' (calmKeep_cons keep_is' (calmKeep_cons keep_is' (calmKeep_cons keep_is' (calmKeep_cons keep_is' (calmKeep_cons keep_is' (calmKeep_cons keep_is' (calmKeep_cons keep_is' (calmKeep_cons keep_is' (calmKeep_cons keep_is' (calmKeep_cons keep_is' (calmKeep_cons keep_is' (calmKeep_cons keep_is' (calmKeep_cons keep_is' (calmKeep_cons keep_is' (calmKeep_cons keep_is' (calmKeep_cons keep_is' (calmKeep_cons keep_is' (calmKeep_cons keep_is' (calmKeep_cons keep_is' (calmKeep_cons keep_is' (calmKeep_cons keep_is' (calmKeep_cons keep_is' (calmKeep_nil)))))))))))))))))))))))))))))) ?_ ?_
          · intro _
            exact ⟨(by (repeat' (first | (with_reducible exact K30) | (with_reducible refine Below.setCell ?_ ?_ _) | (with_reducible refine Below.alloc ?_ ?_ _) | (with_reducible refine Below.drew ?_) | (with_reducible refine below_drewN ?_ _))) <;> (first | omega | (simp <;> omega))), (by (repeat' (first | (with_reducible exact bX) | (with_reducible refine' Blk.alloc ?_ _) | (with_reducible refine' Blk.drew ?_) | (with_reducible refine' Blk.drewN ?_ _) | (with_reducible refine' Blk.put ?_ ?_) | (with_reducible refine' Blk.far ?_ ?_ _) | exact bX | exact rfl)) <;> (first | omega | (simp <;> omega))), (by (repeat' (first | (with_reducible exact bY) | (with_reducible refine' Blk.alloc ?_ _) | (with_reducible refine' Blk.drew ?_) | (with_reducible refine' Blk.drewN ?_ _) | (with_reducible refine' Blk.put ?_ ?_) | (with_reducible refine' Blk.far ?_ ?_ _) | exact bY | exact rfl)) <;> (first | omega | (simp <;> omega))), (by (repeat' (first | (with_reducible exact b4_0) | (with_reducible refine' Blk.alloc ?_ _) | (with_reducible refine' Blk.drew ?_) | (with_reducible refine' Blk.drewN ?_ _) | (with_reducible refine' Blk.put ?_ ?_) | (with_reducible refine' Blk.far ?_ ?_ _) | exact b4_0 | exact rfl)) <;> (first | omega | (simp <;> omega))), (by (repeat' (first | (with_reducible exact b5_0) | (with_reducible refine' Blk.alloc ?_ _) | (with_reducible refine' Blk.drew ?_) | (with_reducible refine' Blk.drewN ?_ _) | (with_reducible refine' Blk.put ?_ ?_) | (with_reducible refine' Blk.far ?_ ?_ _) | exact b5_0 | exact rfl)) <;> (first | omega | (simp <;> omega))), (by (repeat' (first | (with_reducible exact b6_0) | (with_reducible refine' Blk.alloc ?_ _) | (with_reducible refine' Blk.drew ?_) | (with_reducible refine' Blk.drewN ?_ _) | (with_reducible refine' Blk.put ?_ ?_) | (with_reducible refine' Blk.far ?_ ?_ _) | exact b6_0 | exact rfl)) <;> (first | omega | (simp <;> omega))), (by (repeat' (first | (with_reducible exact b7_0) | (with_reducible refine' Blk.alloc ?_ _) | (with_reducible refine' Blk.drew ?_) | (with_reducible refine' Blk.drewN ?_ _) | (with_reducible refine' Blk.put ?_ ?_) | (with_reducible refine' Blk.far ?_ ?_ _) | exact b7_0 | exact rfl)) <;> (first | omega | (simp <;> omega))), (by (repeat' (first | (with_reducible exact bW) | (with_reducible refine' Blk.alloc ?_ _) | (with_reducible refine' Blk.drew ?_) | (with_reducible refine' Blk.drewN ?_ _) | (with_reducible refine' Blk.put ?_ ?_) | (with_reducible refine' Blk.far ?_ ?_ _) | exact bW | exact rfl)) <;> (first | omega | (simp <;> omega)))⟩
          rotate_left 29
          · skip
            refine calmSteps_cons (fun u wq n hn hn2 hC hk K hK => ?_) ?_
            · obtain ⟨hP, mX, mY, m4_0, m5_0, m6_0, m7_0, mW⟩ := hC
              clear hk
              go_wp2_with fail
              first | (with_reducible refine (known11_any _).mono ?_) | (with_reducible refine (G1.out _).mono ?_) | (with_reducible refine (G2.out _).mono ?_) | (with_reducible refine (G3.out _).mono ?_) | (with_reducible refine (G4.out _).mono ?_) | (with_reducible refine (G5.out _).mono ?_) | (with_reducible refine (G6.out _).mono ?_)
              rintro e w2 ⟨rfl, hbl⟩
              exact hK _ _ _ rfl ⟨kept_call hbl hP, Blk.keep hbl mX, Blk.keep hbl mY, Blk.keep hbl m4_0, Blk.keep hbl m5_0, Blk.keep hbl m6_0, Blk.keep hbl m7_0, Blk.keep hbl mW⟩ trivial rfl
            refine calmSteps_cons (fun u wq n hn hn2 hC hk K hK => ?_) ?_
            · obtain ⟨hP, mX, mY, m4_0, m5_0, m6_0, m7_0, mW⟩ := hC
              simp only [calmKnown, List.getElem?_cons_zero, List.getElem?_cons_succ, and_true, Is, Pure, Option.some.injEq, List.getD_cons_zero, List.getD_cons_succ, List.map_cons, List.map_nil] at hk
              have h0 := hk; clear hk
              simp only [h0] at hK ⊢
              have H0 := Lib.hid h0; clear h0
              go_simp
              exact hK _ _ _ rfl ⟨hP, mX, mY, m4_0, m5_0, m6_0, m7_0, mW⟩ trivial rfl
            refine calmSteps_cons (fun u wq n hn hn2 hC hk K hK => ?_) ?_
            · obtain ⟨hP, mX, mY, m4_0, m5_0, m6_0, m7_0, mW⟩ := hC
              simp only [calmKnown, List.getElem?_cons_zero, List.getElem?_cons_succ, and_true, Is, Pure, Option.some.injEq, List.getD_cons_zero, List.getD_cons_succ, List.map_cons, List.map_nil] at hk
              have h1 := hk; clear hk
              simp only [h1] at hK ⊢
              have H1 := Lib.hid h1; clear h1
              have zX := mX.cell
              have zY := mY.cell
              have z4_0 := m4_0.cell
              have z5_0 := m5_0.cell
              have z6_0 := m6_0.cell
              have z7_0 := m7_0.cell
              have zW := mW.cell
              go_simp
              exact hK _ _ _ rfl ⟨hP, mX, mY, m4_0, m5_0, m6_0, m7_0, mW⟩ trivial rfl
            refine calmSteps_cons (fun u wq n hn hn2 hC hk K hK => ?_) ?_
            · obtain ⟨hP, mX, mY, m4_0, m5_0, m6_0, m7_0, mW⟩ := hC
              simp only [calmKnown, List.getElem?_cons_zero, List.getElem?_cons_succ, and_true, Is, Pure, Option.some.injEq, List.getD_cons_zero, List.getD_cons_succ, List.map_cons, List.map_nil] at hk
              have h1 := hk; clear hk
              simp only [h1] at hK ⊢
              have H1 := Lib.hid h1; clear h1
              have zX := mX.cell
              have zY := mY.cell
              have z4_0 := m4_0.cell
              have z5_0 := m5_0.cell
              have z6_0 := m6_0.cell
              have z7_0 := m7_0.cell
              have zW := mW.cell
              go_simp
              exact hK _ _ _ rfl ⟨hP, mX, mY, m4_0, m5_0, m6_0, m7_0, mW⟩ trivial rfl
            refine calmSteps_cons (fun u wq n hn hn2 hC hk K hK => ?_) ?_
            · obtain ⟨hP, mX, mY, m4_0, m5_0, m6_0, m7_0, mW⟩ := hC
              simp only [calmKnown, List.getElem?_cons_zero, List.getElem?_cons_succ, and_true, Is, Pure, Option.some.injEq, List.getD_cons_zero, List.getD_cons_succ, List.map_cons, List.map_nil] at hk
              obtain ⟨h2, h3, h1⟩ := hk
              simp only [h2, h3, h1] at hK ⊢
              have H2 := Lib.hid h2; clear h2; have H3 := Lib.hid h3; clear h3; have H1 := Lib.hid h1; clear h1
              go_wp2_with fail
              first | (with_reducible refine (known11_any _).mono ?_) | (with_reducible refine (G1.out _).mono ?_) | (with_reducible refine (G2.out _).mono ?_) | (with_reducible refine (G3.out _).mono ?_) | (with_reducible refine (G4.out _).mono ?_) | (with_reducible refine (G5.out _).mono ?_) | (with_reducible refine (G6.out _).mono ?_)
              rintro e w2 ⟨rfl, hbl⟩
              exact hK _ _ _ rfl ⟨kept_call hbl hP, Blk.keep hbl mX, Blk.keep hbl mY, Blk.keep hbl m4_0, Blk.keep hbl m5_0, Blk.keep hbl m6_0, Blk.keep hbl m7_0, Blk.keep hbl mW⟩ trivial rfl
            refine calmSteps_cons (fun u wq n hn hn2 hC hk K hK => ?_) ?_
            · obtain ⟨hP, mX, mY, m4_0, m5_0, m6_0, m7_0, mW⟩ := hC
              simp only [calmKnown, List.getElem?_cons_zero, List.getElem?_cons_succ, and_true, Is, Pure, Option.some.injEq, List.getD_cons_zero, List.getD_cons_succ, List.map_cons, List.map_nil] at hk
              obtain ⟨h1, h4⟩ := hk
              simp only [h1, h4] at hK ⊢
              have H1 := Lib.hid h1; clear h1; have H4 := Lib.hid h4; clear h4
              go_simp
              exact hK _ _ _ rfl ⟨hP, mX, mY, m4_0, m5_0, m6_0, m7_0, mW⟩ trivial rfl
            refine calmSteps_cons (fun u wq n hn hn2 hC hk K hK => ?_) ?_
            · obtain ⟨hP, mX, mY, m4_0, m5_0, m6_0, m7_0, mW⟩ := hC
              simp only [calmKnown, List.getElem?_cons_zero, List.getElem?_cons_succ, and_true, Is, Pure, Option.some.injEq, List.getD_cons_zero, List.getD_cons_succ, List.map_cons, List.map_nil] at hk
              have h5 := hk; clear hk
              simp only [h5] at hK ⊢
              have H5 := Lib.hid h5; clear h5
              go_simp
              exact hK _ _ _ rfl ⟨hP, mX, mY, m4_0, m5_0, m6_0, m7_0, mW⟩ trivial rfl
            refine calmSteps_cons (fun u wq n hn hn2 hC hk K hK => ?_) ?_
            · obtain ⟨hP, mX, mY, m4_0, m5_0, m6_0, m7_0, mW⟩ := hC
              simp only [calmKnown, List.getElem?_cons_zero, List.getElem?_cons_succ, and_true, Is, Pure, Option.some.injEq, List.getD_cons_zero, List.getD_cons_succ, List.map_cons, List.map_nil] at hk
              have h6 := hk; clear hk
              simp only [h6] at hK ⊢
              have H6 := Lib.hid h6; clear h6
              have zX := mX.cell
              have zY := mY.cell
              have z4_0 := m4_0.cell
              have z5_0 := m5_0.cell
              have z6_0 := m6_0.cell
              have z7_0 := m7_0.cell
              have zW := mW.cell
              go_simp
              exact hK _ _ _ rfl ⟨hP, mX, mY, m4_0, m5_0, m6_0, m7_0, mW⟩ trivial rfl
            refine calmSteps_cons (fun u wq n hn hn2 hC hk K hK => ?_) ?_
            · obtain ⟨hP, mX, mY, m4_0, m5_0, m6_0, m7_0, mW⟩ := hC
              simp only [calmKnown, List.getElem?_cons_zero, List.getElem?_cons_succ, and_true, Is, Pure, Option.some.injEq, List.getD_cons_zero, List.getD_cons_succ, List.map_cons, List.map_nil] at hk
              have h6 := hk; clear hk
              simp only [h6] at hK ⊢
              have H6 := Lib.hid h6; clear h6
              have zX := mX.cell
              have zY := mY.cell
              have z4_0 := m4_0.cell
              have z5_0 := m5_0.cell
              have z6_0 := m6_0.cell
              have z7_0 := m7_0.cell
              have zW := mW.cell
              go_simp
              exact hK _ _ _ rfl ⟨hP, mX, mY, m4_0, m5_0, m6_0, m7_0, mW⟩ trivial rfl
            refine calmSteps_cons (fun u wq n hn hn2 hC hk K hK => ?_) ?_
            · obtain ⟨hP, mX, mY, m4_0, m5_0, m6_0, m7_0, mW⟩ := hC
              simp only [calmKnown, List.getElem?_cons_zero, List.getElem?_cons_succ, and_true, Is, Pure, Option.some.injEq, List.getD_cons_zero, List.getD_cons_succ, List.map_cons, List.map_nil] at hk
              obtain ⟨h7, h8, h6⟩ := hk
              simp only [h7, h8, h6] at hK ⊢
              have H7 := Lib.hid h7; clear h7; have H8 := Lib.hid h8; clear h8; have H6 := Lib.hid h6; clear h6
              go_wp2_with fail
              first | (with_reducible refine (known11_any _).mono ?_) | (with_reducible refine (G1.out _).mono ?_) | (with_reducible refine (G2.out _).mono ?_) | (with_reducible refine (G3.out _).mono ?_) | (with_reducible refine (G4.out _).mono ?_) | (with_reducible refine (G5.out _).mono ?_) | (with_reducible refine (G6.out _).mono ?_)
              rintro e w2 ⟨rfl, hbl⟩
              exact hK _ _ _ rfl ⟨kept_call hbl hP, Blk.keep hbl mX, Blk.keep hbl mY, Blk.keep hbl m4_0, Blk.keep hbl m5_0, Blk.keep hbl m6_0, Blk.keep hbl m7_0, Blk.keep hbl mW⟩ trivial rfl
            refine calmSteps_cons (fun u wq n hn hn2 hC hk K hK => ?_) ?_
            · obtain ⟨hP, mX, mY, m4_0, m5_0, m6_0, m7_0, mW⟩ := hC
              simp only [calmKnown, List.getElem?_cons_zero, List.getElem?_cons_succ, and_true, Is, Pure, Option.some.injEq, List.getD_cons_zero, List.getD_cons_succ, List.map_cons, List.map_nil] at hk
              obtain ⟨h6, h9⟩ := hk
              simp only [h6, h9] at hK ⊢
              have H6 := Lib.hid h6; clear h6; have H9 := Lib.hid h9; clear h9
              go_simp
              exact hK _ _ _ rfl ⟨hP, mX, mY, m4_0, m5_0, m6_0, m7_0, mW⟩ trivial rfl
            refine calmSteps_cons (fun u wq n hn hn2 hC hk K hK => ?_) ?_
            · obtain ⟨hP, mX, mY, m4_0, m5_0, m6_0, m7_0, mW⟩ := hC
              simp only [calmKnown, List.getElem?_cons_zero, List.getElem?_cons_succ, and_true, Is, Pure, Option.some.injEq, List.getD_cons_zero, List.getD_cons_succ, List.map_cons, List.map_nil] at hk
              have h10 := hk; clear hk
              simp only [h10] at hK ⊢
              have H10 := Lib.hid h10; clear h10
              go_simp
              exact hK _ _ _ rfl ⟨hP, mX, mY, m4_0, m5_0, m6_0, m7_0, mW⟩ trivial rfl
            refine calmSteps_cons (fun u wq n hn hn2 hC hk K hK => ?_) ?_
            · obtain ⟨hP, mX, mY, m4_0, m5_0, m6_0, m7_0, mW⟩ := hC
              simp only [calmKnown, List.getElem?_cons_zero, List.getElem?_cons_succ, and_true, Is, Pure, Option.some.injEq, List.getD_cons_zero, List.getD_cons_succ, List.map_cons, List.map_nil] at hk
              have h11 := hk; clear hk
              simp only [h11] at hK ⊢
              have H11 := Lib.hid h11; clear h11
              have zX := mX.cell
              have zY := mY.cell
              have z4_0 := m4_0.cell
              have z5_0 := m5_0.cell
              have z6_0 := m6_0.cell
              have z7_0 := m7_0.cell
              have zW := mW.cell
              go_simp
              exact hK _ _ _ rfl ⟨hP, mX, mY, m4_0, m5_0, m6_0, m7_0, mW⟩ trivial rfl
            refine calmSteps_cons (fun u wq n hn hn2 hC hk K hK => ?_) ?_
            · obtain ⟨hP, mX, mY, m4_0, m5_0, m6_0, m7_0, mW⟩ := hC
              simp only [calmKnown, List.getElem?_cons_zero, List.getElem?_cons_succ, and_true, Is, Pure, Option.some.injEq, List.getD_cons_zero, List.getD_cons_succ, List.map_cons, List.map_nil] at hk
              obtain ⟨h12, h11⟩ := hk
              simp only [h12, h11] at hK ⊢
              have H12 := Lib.hid h12; clear h12; have H11 := Lib.hid h11; clear h11
              go_wp2_with fail
              first | (with_reducible refine (known11_any _).mono ?_) | (with_reducible refine (G1.out _).mono ?_) | (with_reducible refine (G2.out _).mono ?_) | (with_reducible refine (G3.out _).mono ?_) | (with_reducible refine (G4.out _).mono ?_) | (with_reducible refine (G5.out _).mono ?_) | (with_reducible refine (G6.out _).mono ?_)
              rintro e w2 ⟨rfl, hbl⟩
              exact hK _ _ _ rfl ⟨kept_call hbl hP, Blk.keep hbl mX, Blk.keep hbl mY, Blk.keep hbl m4_0, Blk.keep hbl m5_0, Blk.keep hbl m6_0, Blk.keep hbl m7_0, Blk.keep hbl mW⟩ trivial rfl
            refine calmSteps_cons (fun u wq n hn hn2 hC hk K hK => ?_) ?_
            · obtain ⟨hP, mX, mY, m4_0, m5_0, m6_0, m7_0, mW⟩ := hC
              simp only [calmKnown, List.getElem?_cons_zero, List.getElem?_cons_succ, and_true, Is, Pure, Option.some.injEq, List.getD_cons_zero, List.getD_cons_succ, List.map_cons, List.map_nil] at hk
              have h11 := hk; clear hk
              simp only [h11] at hK ⊢
              have H11 := Lib.hid h11; clear h11
              have zX := mX.cell
              have zY := mY.cell
              have z4_0 := m4_0.cell
              have z5_0 := m5_0.cell
              have z6_0 := m6_0.cell
              have z7_0 := m7_0.cell
              have zW := mW.cell
              go_simp
              exact hK _ _ _ rfl ⟨hP, mX, mY, m4_0, m5_0, m6_0, m7_0, mW⟩ trivial rfl
            refine calmSteps_cons (fun u wq n hn hn2 hC hk K hK => ?_) ?_
            · obtain ⟨hP, mX, mY, m4_0, m5_0, m6_0, m7_0, mW⟩ := hC
              simp only [calmKnown, List.getElem?_cons_zero, List.getElem?_cons_succ, and_true, Is, Pure, Option.some.injEq, List.getD_cons_zero, List.getD_cons_succ, List.map_cons, List.map_nil] at hk
              obtain ⟨h14, h11⟩ := hk
              simp only [h14, h11] at hK ⊢
              have H14 := Lib.hid h14; clear h14; have H11 := Lib.hid h11; clear h11
              go_wp2_with fail
              first | (with_reducible refine (known11_any _).mono ?_) | (with_reducible refine (G1.out _).mono ?_) | (with_reducible refine (G2.out _).mono ?_) | (with_reducible refine (G3.out _).mono ?_) | (with_reducible refine (G4.out _).mono ?_) | (with_reducible refine (G5.out _).mono ?_) | (with_reducible refine (G6.out _).mono ?_)
              rintro e w2 ⟨rfl, hbl⟩
              exact hK _ _ _ rfl ⟨kept_call hbl hP, Blk.keep hbl mX, Blk.keep hbl mY, Blk.keep hbl m4_0, Blk.keep hbl m5_0, Blk.keep hbl m6_0, Blk.keep hbl m7_0, Blk.keep hbl mW⟩ trivial rfl
            refine calmSteps_cons (fun u wq n hn hn2 hC hk K hK => ?_) ?_
            · obtain ⟨hP, mX, mY, m4_0, m5_0, m6_0, m7_0, mW⟩ := hC
              simp only [calmKnown, List.getElem?_cons_zero, List.getElem?_cons_succ, and_true, Is, Pure, Option.some.injEq, List.getD_cons_zero, List.getD_cons_succ, List.map_cons, List.map_nil] at hk
              have h11 := hk; clear hk
              simp only [h11] at hK ⊢
              have H11 := Lib.hid h11; clear h11
              have zX := mX.cell
              have zY := mY.cell
              have z4_0 := m4_0.cell
              have z5_0 := m5_0.cell
              have z6_0 := m6_0.cell
              have z7_0 := m7_0.cell
              have zW := mW.cell
              go_simp
              exact hK _ _ _ rfl ⟨hP, mX, mY, m4_0, m5_0, m6_0, m7_0, mW⟩ trivial rfl
            refine calmSteps_cons (fun u wq n hn hn2 hC hk K hK => ?_) ?_
            · obtain ⟨hP, mX, mY, m4_0, m5_0, m6_0, m7_0, mW⟩ := hC
              simp only [calmKnown, List.getElem?_cons_zero, List.getElem?_cons_succ, and_true, Is, Pure, Option.some.injEq, List.getD_cons_zero, List.getD_cons_succ, List.map_cons, List.map_nil] at hk
              obtain ⟨h16, h11⟩ := hk
              simp only [h16, h11] at hK ⊢
              have H16 := Lib.hid h16; clear h16; have H11 := Lib.hid h11; clear h11
              go_wp2_with fail
              first | (with_reducible refine (known11_any _).mono ?_) | (with_reducible refine (G1.out _).mono ?_) | (with_reducible refine (G2.out _).mono ?_) | (with_reducible refine (G3.out _).mono ?_) | (with_reducible refine (G4.out _).mono ?_) | (with_reducible refine (G5.out _).mono ?_) | (with_reducible refine (G6.out _).mono ?_)
              rintro e w2 ⟨rfl, hbl⟩
              exact hK _ _ _ rfl ⟨kept_call hbl hP, Blk.keep hbl mX, Blk.keep hbl mY, Blk.keep hbl m4_0, Blk.keep hbl m5_0, Blk.keep hbl m6_0, Blk.keep hbl m7_0, Blk.keep hbl mW⟩ trivial rfl
            refine calmSteps_cons (fun u wq n hn hn2 hC hk K hK => ?_) ?_
            · obtain ⟨hP, mX, mY, m4_0, m5_0, m6_0, m7_0, mW⟩ := hC
              simp only [calmKnown, List.getElem?_cons_zero, List.getElem?_cons_succ, and_true, Is, Pure, Option.some.injEq, List.getD_cons_zero, List.getD_cons_succ, List.map_cons, List.map_nil] at hk
              obtain ⟨h15, h17, h11⟩ := hk
              simp only [h15, h17, h11] at hK ⊢
              have H15 := Lib.hid h15; clear h15; have H17 := Lib.hid h17; clear h17; have H11 := Lib.hid h11; clear h11
              go_simp
              exact hK _ _ _ rfl ⟨hP, mX, mY, m4_0, m5_0, m6_0, m7_0, mW⟩ trivial rfl
            refine calmSteps_cons (fun u wq n hn hn2 hC hk K hK => ?_) ?_
            · obtain ⟨hP, mX, mY, m4_0, m5_0, m6_0, m7_0, mW⟩ := hC
              simp only [calmKnown, List.getElem?_cons_zero, List.getElem?_cons_succ, and_true, Is, Pure, Option.some.injEq, List.getD_cons_zero, List.getD_cons_succ, List.map_cons, List.map_nil] at hk
              obtain ⟨h13, h18, h11⟩ := hk
              simp only [h13, h18, h11] at hK ⊢
              have H13 := Lib.hid h13; clear h13; have H18 := Lib.hid h18; clear h18; have H11 := Lib.hid h11; clear h11
              go_simp
              exact hK _ _ _ rfl ⟨hP, mX, mY, m4_0, m5_0, m6_0, m7_0, mW⟩ trivial rfl
            refine calmSteps_cons (fun u wq n hn hn2 hC hk K hK => ?_) ?_
            · obtain ⟨hP, mX, mY, m4_0, m5_0, m6_0, m7_0, mW⟩ := hC
              simp only [calmKnown, List.getElem?_cons_zero, List.getElem?_cons_succ, and_true, Is, Pure, Option.some.injEq, List.getD_cons_zero, List.getD_cons_succ, List.map_cons, List.map_nil] at hk
              obtain ⟨h11, h19⟩ := hk
              simp only [h11, h19] at hK ⊢
              have H11 := Lib.hid h11; clear h11; have H19 := Lib.hid h19; clear h19
              go_simp
              exact hK _ _ _ rfl ⟨hP, mX, mY, m4_0, m5_0, m6_0, m7_0, mW⟩ trivial rfl
            refine calmSteps_cons (fun u wq n hn hn2 hC hk K hK => ?_) ?_
            · obtain ⟨hP, mX, mY, m4_0, m5_0, m6_0, m7_0, mW⟩ := hC
              simp only [calmKnown, List.getElem?_cons_zero, List.getElem?_cons_succ, and_true, Is, Pure, Option.some.injEq, List.getD_cons_zero, List.getD_cons_succ, List.map_cons, List.map_nil] at hk
              have h20 := hk; clear hk
              simp only [h20] at hK ⊢
              have H20 := Lib.hid h20; clear h20
              go_simp
              exact hK _ _ _ rfl ⟨hP, mX, mY, m4_0, m5_0, m6_0, m7_0, mW⟩ trivial rfl
            refine calmSteps_cons (fun u wq n hn hn2 hC hk K hK => ?_) ?_
            · obtain ⟨hP, mX, mY, m4_0, m5_0, m6_0, m7_0, mW⟩ := hC
              simp only [calmKnown, List.getElem?_cons_zero, List.getElem?_cons_succ, and_true, Is, Pure, Option.some.injEq, List.getD_cons_zero, List.getD_cons_succ, List.map_cons, List.map_nil] at hk
              have h21 := hk; clear hk
              simp only [h21] at hK ⊢
              have H21 := Lib.hid h21; clear h21
              have zX := mX.cell
              have zY := mY.cell
              have z4_0 := m4_0.cell
              have z5_0 := m5_0.cell
              have z6_0 := m6_0.cell
              have z7_0 := m7_0.cell
              have zW := mW.cell
              go_simp
              exact hK _ _ _ rfl ⟨hP, mX, mY, m4_0, m5_0, m6_0, m7_0, mW⟩ trivial rfl
            refine calmSteps_cons (fun u wq n hn hn2 hC hk K hK => ?_) ?_
            · obtain ⟨hP, mX, mY, m4_0, m5_0, m6_0, m7_0, mW⟩ := hC
              simp only [calmKnown, List.getElem?_cons_zero, List.getElem?_cons_succ, and_true, Is, Pure, Option.some.injEq, List.getD_cons_zero, List.getD_cons_succ, List.map_cons, List.map_nil] at hk
              obtain ⟨h22, h21⟩ := hk
              simp only [h22, h21] at hK ⊢
              have H22 := Lib.hid h22; clear h22; have H21 := Lib.hid h21; clear h21
              go_wp2_with fail
              first | (with_reducible refine (known11_any _).mono ?_) | (with_reducible refine (G1.out _).mono ?_) | (with_reducible refine (G2.out _).mono ?_) | (with_reducible refine (G3.out _).mono ?_) | (with_reducible refine (G4.out _).mono ?_) | (with_reducible refine (G5.out _).mono ?_) | (with_reducible refine (G6.out _).mono ?_)
              rintro e w2 ⟨rfl, hbl⟩
              exact hK _ _ _ rfl ⟨kept_call hbl hP, Blk.keep hbl mX, Blk.keep hbl mY, Blk.keep hbl m4_0, Blk.keep hbl m5_0, Blk.keep hbl m6_0, Blk.keep hbl m7_0, Blk.keep hbl mW⟩ trivial rfl
            refine calmSteps_cons (fun u wq n hn hn2 hC hk K hK => ?_) ?_
            · obtain ⟨hP, mX, mY, m4_0, m5_0, m6_0, m7_0, mW⟩ := hC
              simp only [calmKnown, List.getElem?_cons_zero, List.getElem?_cons_succ, and_true, Is, Pure, Option.some.injEq, List.getD_cons_zero, List.getD_cons_succ, List.map_cons, List.map_nil] at hk
              have h21 := hk; clear hk
              simp only [h21] at hK ⊢
              have H21 := Lib.hid h21; clear h21
              have zX := mX.cell
              have zY := mY.cell
              have z4_0 := m4_0.cell
              have z5_0 := m5_0.cell
              have z6_0 := m6_0.cell
              have z7_0 := m7_0.cell
              have zW := mW.cell
              go_simp
              exact hK _ _ _ rfl ⟨hP, mX, mY, m4_0, m5_0, m6_0, m7_0, mW⟩ trivial rfl
            refine calmSteps_cons (fun u wq n hn hn2 hC hk K hK => ?_) ?_
            · obtain ⟨hP, mX, mY, m4_0, m5_0, m6_0, m7_0, mW⟩ := hC
              simp only [calmKnown, List.getElem?_cons_zero, List.getElem?_cons_succ, and_true, Is, Pure, Option.some.injEq, List.getD_cons_zero, List.getD_cons_succ, List.map_cons, List.map_nil] at hk
              obtain ⟨h24, h21⟩ := hk
              simp only [h24, h21] at hK ⊢
              have H24 := Lib.hid h24; clear h24; have H21 := Lib.hid h21; clear h21
              go_wp2_with fail
              first | (with_reducible refine (known11_any _).mono ?_) | (with_reducible refine (G1.out _).mono ?_) | (with_reducible refine (G2.out _).mono ?_) | (with_reducible refine (G3.out _).mono ?_) | (with_reducible refine (G4.out _).mono ?_) | (with_reducible refine (G5.out _).mono ?_) | (with_reducible refine (G6.out _).mono ?_)
              rintro e w2 ⟨rfl, hbl⟩
              exact hK _ _ _ rfl ⟨kept_call hbl hP, Blk.keep hbl mX, Blk.keep hbl mY, Blk.keep hbl m4_0, Blk.keep hbl m5_0, Blk.keep hbl m6_0, Blk.keep hbl m7_0, Blk.keep hbl mW⟩ trivial rfl
            refine calmSteps_cons (fun u wq n hn hn2 hC hk K hK => ?_) ?_
            · obtain ⟨hP, mX, mY, m4_0, m5_0, m6_0, m7_0, mW⟩ := hC
              simp only [calmKnown, List.getElem?_cons_zero, List.getElem?_cons_succ, and_true, Is, Pure, Option.some.injEq, List.getD_cons_zero, List.getD_cons_succ, List.map_cons, List.map_nil] at hk
              obtain ⟨h23, h25, h21⟩ := hk
              simp only [h23, h25, h21] at hK ⊢
              have H23 := Lib.hid h23; clear h23; have H25 := Lib.hid h25; clear h25; have H21 := Lib.hid h21; clear h21
              go_simp
              exact hK _ _ _ rfl ⟨hP, mX, mY, m4_0, m5_0, m6_0, m7_0, mW⟩ trivial rfl
            refine calmSteps_cons (fun u wq n hn hn2 hC hk K hK => ?_) ?_
            · obtain ⟨hP, mX, mY, m4_0, m5_0, m6_0, m7_0, mW⟩ := hC
              simp only [calmKnown, List.getElem?_cons_zero, List.getElem?_cons_succ, and_true, Is, Pure, Option.some.injEq, List.getD_cons_zero, List.getD_cons_succ, List.map_cons, List.map_nil] at hk
              obtain ⟨h21, h26⟩ := hk
              simp only [h21, h26] at hK ⊢
              have H21 := Lib.hid h21; clear h21; have H26 := Lib.hid h26; clear h26
              go_simp
              exact hK _ _ _ rfl ⟨hP, mX, mY, m4_0, m5_0, m6_0, m7_0, mW⟩ trivial rfl
            refine calmSteps_cons (fun u wq n hn hn2 hC hk K hK => ?_) ?_
            · obtain ⟨hP, mX, mY, m4_0, m5_0, m6_0, m7_0, mW⟩ := hC
              simp only [calmKnown, List.getElem?_cons_zero, List.getElem?_cons_succ, and_true, Is, Pure, Option.some.injEq, List.getD_cons_zero, List.getD_cons_succ, List.map_cons, List.map_nil] at hk
              have h27 := hk; clear hk
              simp only [h27] at hK ⊢
              have H27 := Lib.hid h27; clear h27
              go_simp
              exact hK _ _ _ rfl ⟨hP, mX, mY, m4_0, m5_0, m6_0, m7_0, mW⟩ trivial rfl
            exact calmSteps_nil
          · intro u w31 hC hF
            obtain ⟨hP, mX, mY, m4_0, m5_0, m6_0, m7_0, mW⟩ := hC
            simp only [calmFacts, Is, and_true] at hF
            obtain ⟨f0, f1, f2, f3, f4, f5, f6, f7, f8, f9, f10, f11, f12, f13, f14, f15, f16, f17, f18, f19, f20, f21, f22, f23, f24, f25, f26, f27, f28⟩ := hF
            simp only [f0, f1, f2, f3, f4, f5, f6, f7, f8, f9, f10, f11, f12, f13, f14, f15, f16, f17, f18, f19, f20, f21, f22, f23, f24, f25, f26, f27, f28]
            clear f0 f1 f2 f3 f4 f5 f6 f7 f8 f9 f10 f11 f12 f13 f14 f15 f16 f17 f18 f19 f20 f21 f22 f23 f24 f25 f26 f27 f28
            have K31 := hP
            have Z31 : w.heap.size ≤ w31.heap.size := K31.size
            clear hP K30
            clear bX cX fX lX eX kX; have bX := mX; clear mX
            obtain ⟨cX, fX, lX, eX, kX⟩ := Blk.facts bX
            clear bY cY fY lY eY kY; have bY := mY; clear mY
            obtain ⟨cY, fY, lY, eY, kY⟩ := Blk.facts bY
            clear b4_0 c4_0 f4_0 l4_0 e4_0 k4_0; have b4_0 := m4_0; clear m4_0
            obtain ⟨c4_0, f4_0, l4_0, e4_0, k4_0⟩ := Blk.facts b4_0
            clear b5_0 c5_0 f5_0 l5_0 e5_0 k5_0; have b5_0 := m5_0; clear m5_0
            obtain ⟨c5_0, f5_0, l5_0, e5_0, k5_0⟩ := Blk.facts b5_0
            clear b6_0 c6_0 f6_0 l6_0 e6_0 k6_0; have b6_0 := m6_0; clear m6_0
            obtain ⟨c6_0, f6_0, l6_0, e6_0, k6_0⟩ := Blk.facts b6_0
            clear b7_0 c7_0 f7_0 l7_0 e7_0 k7_0; have b7_0 := m7_0; clear m7_0
            obtain ⟨c7_0, f7_0, l7_0, e7_0, k7_0⟩ := Blk.facts b7_0
            clear bW cW fW lW eW kW; have bW := mW; clear mW
            obtain ⟨cW, fW, lW, eW, kW⟩ := Blk.facts bW
            go_wp2
            go_ret
            exact ⟨by simp, by (repeat' (first | (with_reducible exact K31) | (with_reducible refine Below.setCell ?_ ?_ _) | (with_reducible refine Below.alloc ?_ ?_ _) | (with_reducible refine Below.drew ?_) | (with_reducible refine below_drewN ?_ _))) <;> (first | omega | (simp <;> omega))⟩
theorem intervalMeaning_walk (a : Int) (_ : IntIn a) (b : Int) (_ : IntIn b) (c : Int) (_ : IntIn c) (d : Int) (_ : IntIn d) (e : Int) (_ : IntIn e) (f : Int) (_ : IntIn f) (w : World) :
    Walked 11 #[.int .i64 a, .int .i64 b, .int .i64 c, .int .i64 d, .int .i64 e, .int .i64 f] w := intervalMeaning_core a b c d e f w
end Go.Proofs.Yteodoehhkhacoaa
