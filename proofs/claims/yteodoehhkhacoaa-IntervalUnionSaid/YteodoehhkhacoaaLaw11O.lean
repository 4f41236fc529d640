/- The walk of the law IntervalOrder. -/
import Derived.Test.YteodoehhkhacoaaKnown11
import Derived.Test.YteodoehhkhacoaaWorld
import Derived.Test.YteodoehhkhacoaaR11
import Derived.Test.YteodoehhkhacoaaFrame
import Derived.Deep.DeepCutAuto
import Derived.Deep.RegionHeld3
namespace Go.Proofs.Yteodoehhkhacoaa
open Go.RowKit

theorem world_span {a b : Int} : vS (a % 2000 - 1000) (a % 2000 - 1000 + b % 500) = true := vS_true.2 (by omega)
theorem wrapI {x : Int} (h1 : -9223372036854775808 ≤ x) (h2 : x ≤ 9223372036854775807) : IntKind.i64.wrap x = x := IntWalk.i64_in _ (by omega)
theorem insB_yes {a b c d : Int} (h1 : vS a b = true) (h2 : vS c d = true) (h3 : c ≤ a) (h4 : b ≤ d) : insB a b c d = true := by simp [insB, h1, h2, h3, h4]
theorem insB_iff {a b c d : Int} (h1 : vS a b = true) (h2 : vS c d = true) : insB a b c d = true ↔ c ≤ a ∧ b ≤ d := by simp [insB, h1, h2]
theorem mtB_iff {a b c d : Int} (h1 : vS a b = true) (h2 : vS c d = true) : mtB a b c d = true ↔ max a c ≤ min b d := by simp [mtB, h1, h2]

set_option maxRecDepth 100000 in
set_option maxHeartbeats 8000000 in
theorem intervalOrder_core (a b c d e : Int) (w : World) :
    Calls Try.prog 9 #[.int .i64 a, .int .i64 b, .int .i64 c, .int .i64 d, .int .i64 e] w (RB w (.bool true)) := by
  have r1 := wspanW a b
  have r2 := wspanW c d
  have hx := world_span (a := a) (b := b)
  have hy := world_span (a := c) (b := d)
  have rw3 := fun w => wwithinW e 300 w (by omega) (by omega)
  have x1 : -1000 ≤ a % 2000 - 1000 := by omega
  have x2 : a % 2000 - 1000 ≤ a % 2000 - 1000 + b % 500 := by omega
  have x3 : a % 2000 - 1000 + b % 500 ≤ 1500 := by omega
  have y1 : -1000 ≤ c % 2000 - 1000 := by omega
  have y2 : c % 2000 - 1000 ≤ c % 2000 - 1000 + d % 500 := by omega
  have y3 : c % 2000 - 1000 + d % 500 ≤ 1500 := by omega
  have z1 : 0 ≤ e % 300 := by omega
  have z2 : e % 300 < 300 := by omega
  generalize a % 2000 - 1000 + b % 500 = xh at *
  generalize a % 2000 - 1000 = xl at *
  generalize c % 2000 - 1000 + d % 500 = yh at *
  generalize c % 2000 - 1000 = yl at *
  generalize e % 300 = n at *
  have q1 := igrow_all xl xh n (2 * n)
  have hg : vS (xl - n) (xh + 2 * n) = true := vS_true.2 (by omega)
  rw [hx, show grB n (2 * n) = true from by simp only [grB]; exact decide_eq_true (by omega), opV_ok, mkS_ok hg] at q1
  have q2 := iinside_all xl xh (xl - n) (xh + 2 * n)
  rw [insB_yes hx hg (by omega) (by omega)] at q2
  have q3 := imiddle_all xl xh
  have q4 := iholds_all xl xh (midN xl xh)
  have hm : xl ≤ midN xl xh ∧ midN xl xh ≤ xh := by unfold midN; rw [if_pos hx]; omega
  rw [show hdB xl xh (midN xl xh) = true from by simp [hdB, hx, hm]] at q4
  have v0 : IntKind.i64.wrap (2 * n) = 2 * n := wrapI (by omega) (by omega)
  obtain ⟨D, hD⟩ : ∃ D, D = xh - xl + 3 * n := ⟨_, rfl⟩
  have v1 : IntKind.i64.wrap (xh + 2 * n - (xl - n)) = D := by rw [wrapI (by omega) (by omega)]; omega
  have v2 : IntKind.i64.wrap (xh - xl) = xh - xl := wrapI (by omega) (by omega)
  have v3 : IntKind.i64.wrap (3 * n) = 3 * n := wrapI (by omega) (by omega)
  have v4 : IntKind.i64.wrap (xh - xl + 3 * n) = D := by rw [hD]; exact wrapI (by omega) (by omega)
  clear hD
  generalize midN xl xh = md at *
  generalize xl - n = gl at *
  generalize xh + 2 * n = gh at *
  have v1' : IntKind.i64.wrap (gh - gl) = D := v1
  clear v1
  have s1 := imeet_all xl xh yl yh
  have s2 := iinside_all xl xh yl yh
  have s3 := iinside_all yl yh xl xh
  have s5 := iinside_all (mtLo xl xh yl yh) (mtHi xl xh yl yh) xl xh
  have s6 := iinside_all (mtLo xl xh yl yh) (mtHi xl xh yl yh) yl yh
  have R1 := Lib.hid r1; clear r1
  have R2 := Lib.hid r2; clear r2
  have R3 := Lib.hid rw3; clear rw3
  have Q1 := Lib.hid q1; clear q1
  have Q2 := Lib.hid q2; clear q2
  have Q3 := Lib.hid q3; clear q3
  have Q4 := Lib.hid q4; clear q4
  by_cases h1 : yl ≤ xl ∧ xh ≤ yh
  · have ix : insB xl xh yl yh = true := (insB_iff hx hy).2 h1
    have im : mtB xl xh yl yh = true := (mtB_iff hx hy).2 (by omega)
    rw [ix] at s2
    have e1 : mtLo xl xh yl yh = xl := by rw [mtLo_yes im]; omega
    have e2 : mtHi xl xh yl yh = xh := by rw [mtHi_yes im]; omega
    rw [e1, e2, im] at s1
    rw [e1, e2, insB_yes hx hx (Int.le_refl _) (Int.le_refl _)] at s5
    rw [e1, e2, ix] at s6
    clear e1 e2 ix im
    by_cases h2 : xl ≤ yl ∧ yh ≤ xh
    · obtain rfl : xl = yl := by omega
      obtain rfl : xh = yh := by omega
      rw [insB_yes hx hx (Int.le_refl _) (Int.le_refl _)] at s3
      clear h1 h2
      have S1 := Lib.hid s1; clear s1
      have S2 := Lib.hid s2; clear s2
      have S3 := Lib.hid s3; clear s3
      have S5 := Lib.hid s5; clear s5
      have S6 := Lib.hid s6; clear s6
      clear hx hy x1 x2 x3 y1 y2 y3 z1 z2 hg hm
      go_enter Try.func9, Try.ntmps9
      go_wp2_with fail
      refine (R1.out _).mono ?_
      rintro e w1 ⟨rfl, hb1⟩
      have K1 : Below w.heap.size w w1 := kept_call hb1 (by (repeat' (first | (with_reducible exact Below.refl _ _) | (with_reducible refine Below.setCell ?_ ?_ _) | (with_reducible refine Below.alloc ?_ ?_ _) | (with_reducible refine Below.drew ?_) | (with_reducible refine below_drewN ?_ _))) <;> (first | omega | (simp <;> omega)))
      have Z1 : w.heap.size ≤ w1.heap.size := K1.size
      clear hb1
      go_wp2_with fail
      refine (R2.out _).mono ?_
      rintro e w2 ⟨rfl, hb2⟩
      have K2 : Below w.heap.size w w2 := kept_call hb2 (by (repeat' (first | (with_reducible exact K1) | (with_reducible refine Below.setCell ?_ ?_ _) | (with_reducible refine Below.alloc ?_ ?_ _) | (with_reducible refine Below.drew ?_) | (with_reducible refine below_drewN ?_ _))) <;> (first | omega | (simp <;> omega)))
      have Z2 : w.heap.size ≤ w2.heap.size := K2.size
      clear hb2 K1
      go_wp2_with fail
      refine (S1.out _).mono ?_
      rintro e w3 ⟨rfl, hb3⟩
      have K3 : Below w.heap.size w w3 := kept_call hb3 (by (repeat' (first | (with_reducible exact K2) | (with_reducible refine Below.setCell ?_ ?_ _) | (with_reducible refine Below.alloc ?_ ?_ _) | (with_reducible refine Below.drew ?_) | (with_reducible refine below_drewN ?_ _))) <;> (first | omega | (simp <;> omega)))
      have Z3 : w.heap.size ≤ w3.heap.size := K3.size
      have b3_0 := Blk.keep (g := w2.heap.size) hb3 (by (repeat' (first | ((with_reducible refine' Blk.newE ?_); first | rfl | (simp; done)) | (with_reducible refine' Blk.alloc ?_ _) | (with_reducible refine' Blk.drew ?_) | (with_reducible refine' Blk.drewN ?_ _) | (with_reducible refine' Blk.put ?_ ?_) | (with_reducible refine' Blk.far ?_ ?_ _) | exact rfl)) <;> (first | omega | (simp <;> omega)))
      (try simp only [List.setIfInBounds_toArray, List.set_cons_zero, List.set_cons_succ] at b3_0)
      have b3_1 := Blk.keep (g := w2.heap.size + 1) hb3 (by (repeat' (first | ((with_reducible refine' Blk.newE ?_); first | rfl | (simp; done)) | (with_reducible refine' Blk.alloc ?_ _) | (with_reducible refine' Blk.drew ?_) | (with_reducible refine' Blk.drewN ?_ _) | (with_reducible refine' Blk.put ?_ ?_) | (with_reducible refine' Blk.far ?_ ?_ _) | exact rfl)) <;> (first | omega | (simp <;> omega)))
      (try simp only [List.setIfInBounds_toArray, List.set_cons_zero, List.set_cons_succ] at b3_1)
      clear hb3 K2
      obtain ⟨c3_0, f3_0, l3_0, e3_0, k3_0⟩ := Blk.facts b3_0
      obtain ⟨c3_1, f3_1, l3_1, e3_1, k3_1⟩ := Blk.facts b3_1
      have o3_0 := l3_0
      have o3_1 := l3_1
      go_wp2_with fail
      refine (R3.out _).mono ?_
      rintro e wq1 ⟨rfl, rfl⟩
      go_wp2_with fail
      refine (Q1.out _).mono ?_
      rintro e w4 ⟨rfl, hb4⟩
      have K4 : Below w.heap.size w w4 := kept_call hb4 (by (repeat' (first | (with_reducible exact K3) | (with_reducible refine Below.setCell ?_ ?_ _) | (with_reducible refine Below.alloc ?_ ?_ _) | (with_reducible refine Below.drew ?_) | (with_reducible refine below_drewN ?_ _))) <;> (first | omega | (simp <;> omega)))
      have Z4 : w.heap.size ≤ w4.heap.size := K4.size
      have b3_0' := Blk.keep (g := w2.heap.size) hb4 (by (repeat' (first | (with_reducible refine' Blk.alloc ?_ _) | (with_reducible refine' Blk.drew ?_) | (with_reducible refine' Blk.drewN ?_ _) | (with_reducible refine' Blk.put ?_ ?_) | (with_reducible refine' Blk.far ?_ ?_ _) | exact b3_0 | exact rfl)) <;> (first | omega | (simp <;> omega)))
      (try simp only [List.setIfInBounds_toArray, List.set_cons_zero, List.set_cons_succ] at b3_0')
      have b3_1' := Blk.keep (g := w2.heap.size + 1) hb4 (by (repeat' (first | (with_reducible refine' Blk.alloc ?_ _) | (with_reducible refine' Blk.drew ?_) | (with_reducible refine' Blk.drewN ?_ _) | (with_reducible refine' Blk.put ?_ ?_) | (with_reducible refine' Blk.far ?_ ?_ _) | exact b3_1 | exact rfl)) <;> (first | omega | (simp <;> omega)))
      (try simp only [List.setIfInBounds_toArray, List.set_cons_zero, List.set_cons_succ] at b3_1')
      have b4_0 := Blk.keep (g := w3.heap.size) hb4 (by (repeat' (first | ((with_reducible refine' Blk.newE ?_); first | rfl | (simp; done)) | (with_reducible refine' Blk.alloc ?_ _) | (with_reducible refine' Blk.drew ?_) | (with_reducible refine' Blk.drewN ?_ _) | (with_reducible refine' Blk.put ?_ ?_) | (with_reducible refine' Blk.far ?_ ?_ _) | exact rfl)) <;> (first | omega | (simp <;> omega)))
      (try simp only [List.setIfInBounds_toArray, List.set_cons_zero, List.set_cons_succ] at b4_0)
      clear hb4 K3
      clear b3_0 c3_0 f3_0 l3_0 e3_0 k3_0; have b3_0 := b3_0'; clear b3_0'
      clear b3_1 c3_1 f3_1 l3_1 e3_1 k3_1; have b3_1 := b3_1'; clear b3_1'
      obtain ⟨c3_0, f3_0, l3_0, e3_0, k3_0⟩ := Blk.facts b3_0
      obtain ⟨c3_1, f3_1, l3_1, e3_1, k3_1⟩ := Blk.facts b3_1
      obtain ⟨c4_0, f4_0, l4_0, e4_0, k4_0⟩ := Blk.facts b4_0
      have o4_0 := l4_0
      have b5_0 := Blk.new w4 23 #[.int .i64 gl, .int .i64 gh]
      go_upto_region 5 with fail
      go_region_held3 (fun w' => (∀ i, w'.cell? ⟨w2.heap.size, i, none⟩ = #[Value.int .i64 xl, .int .i64 xh][i]?) ∧ (∀ i, w'.cell? ⟨w2.heap.size + 1, i, none⟩ = #[Value.int .i64 xl, .int .i64 xh][i]?) ∧ (∀ i, w'.cell? ⟨w3.heap.size, i, none⟩ = #[Value.int .i64 xl, .int .i64 xh][i]?) ∧ (∀ i, w'.cell? ⟨w4.heap.size, i, none⟩ = #[Value.int .i64 gl, .int .i64 gh][i]?) ∧ Blk w' (w2.heap.size) 23 #[.int .i64 xl, .int .i64 xh] ∧ Blk w' (w2.heap.size + 1) 23 #[.int .i64 xl, .int .i64 xh] ∧ Blk w' (w3.heap.size) 23 #[.int .i64 xl, .int .i64 xh] ∧ Blk w' (w4.heap.size) 23 #[.int .i64 gl, .int .i64 gh] ∧ Below w.heap.size w w')
        ((go_split_ands; refine ⟨?_, ?_, ?_, ?_, ?_, ?_, ?_, ?_, ?_⟩; (focus (first | (with_reducible assumption) | (intro i; refine Blk.cell (t := 23) ?_ i; ((repeat' (first | (with_reducible assumption) | (with_reducible refine' Blk.keep hbq ?_) | (with_reducible refine' Blk.alloc ?_ _) | (with_reducible refine' Blk.drew ?_) | (with_reducible refine' Blk.drewN ?_ _) | (with_reducible refine' Blk.put ?_ ?_) | (with_reducible refine' Blk.far ?_ ?_ _) | exact rfl)) <;> (first | omega | (simp <;> omega)))))); (focus (first | (with_reducible assumption) | (intro i; refine Blk.cell (t := 23) ?_ i; ((repeat' (first | (with_reducible assumption) | (with_reducible refine' Blk.keep hbq ?_) | (with_reducible refine' Blk.alloc ?_ _) | (with_reducible refine' Blk.drew ?_) | (with_reducible refine' Blk.drewN ?_ _) | (with_reducible refine' Blk.put ?_ ?_) | (with_reducible refine' Blk.far ?_ ?_ _) | exact rfl)) <;> (first | omega | (simp <;> omega)))))); (focus (first | (with_reducible assumption) | (intro i; refine Blk.cell (t := 23) ?_ i; ((repeat' (first | (with_reducible assumption) | (with_reducible refine' Blk.keep hbq ?_) | (with_reducible refine' Blk.alloc ?_ _) | (with_reducible refine' Blk.drew ?_) | (with_reducible refine' Blk.drewN ?_ _) | (with_reducible refine' Blk.put ?_ ?_) | (with_reducible refine' Blk.far ?_ ?_ _) | exact rfl)) <;> (first | omega | (simp <;> omega)))))); (focus (first | (with_reducible assumption) | (intro i; refine Blk.cell (t := 23) ?_ i; ((repeat' (first | (with_reducible assumption) | (with_reducible refine' Blk.keep hbq ?_) | (with_reducible refine' Blk.alloc ?_ _) | (with_reducible refine' Blk.drew ?_) | (with_reducible refine' Blk.drewN ?_ _) | (with_reducible refine' Blk.put ?_ ?_) | (with_reducible refine' Blk.far ?_ ?_ _) | exact rfl)) <;> (first | omega | (simp <;> omega)))))); (focus (first | (with_reducible assumption) | ((repeat' (first | (with_reducible assumption) | (with_reducible refine' Blk.keep hbq ?_) | (with_reducible refine' Blk.alloc ?_ _) | (with_reducible refine' Blk.drew ?_) | (with_reducible refine' Blk.drewN ?_ _) | (with_reducible refine' Blk.put ?_ ?_) | (with_reducible refine' Blk.far ?_ ?_ _) | exact rfl)) <;> (first | omega | (simp <;> omega))))); (focus (first | (with_reducible assumption) | ((repeat' (first | (with_reducible assumption) | (with_reducible refine' Blk.keep hbq ?_) | (with_reducible refine' Blk.alloc ?_ _) | (with_reducible refine' Blk.drew ?_) | (with_reducible refine' Blk.drewN ?_ _) | (with_reducible refine' Blk.put ?_ ?_) | (with_reducible refine' Blk.far ?_ ?_ _) | exact rfl)) <;> (first | omega | (simp <;> omega))))); (focus (first | (with_reducible assumption) | ((repeat' (first | (with_reducible assumption) | (with_reducible refine' Blk.keep hbq ?_) | (with_reducible refine' Blk.alloc ?_ _) | (with_reducible refine' Blk.drew ?_) | (with_reducible refine' Blk.drewN ?_ _) | (with_reducible refine' Blk.put ?_ ?_) | (with_reducible refine' Blk.far ?_ ?_ _) | exact rfl)) <;> (first | omega | (simp <;> omega))))); (focus (first | (with_reducible assumption) | ((repeat' (first | (with_reducible assumption) | (with_reducible refine' Blk.keep hbq ?_) | (with_reducible refine' Blk.alloc ?_ _) | (with_reducible refine' Blk.drew ?_) | (with_reducible refine' Blk.drewN ?_ _) | (with_reducible refine' Blk.put ?_ ?_) | (with_reducible refine' Blk.far ?_ ?_ _) | exact rfl)) <;> (first | omega | (simp <;> omega))))); (focus (first | (with_reducible assumption) | ((repeat' (first | (with_reducible assumption) | (with_reducible refine kept_call hbq ?_) | (with_reducible refine Below.setCell ?_ ?_ _) | (with_reducible refine Below.alloc ?_ ?_ _) | (with_reducible refine Below.drew ?_))) <;> (first | omega | (simp <;> omega)))))))
        (first | (go_at_call 42; refine (Q2.out _).mono ?_; rintro e wq ⟨rfl, hbq⟩) | (go_at_call 44; refine (Q3.out _).mono ?_; rintro e wq ⟨rfl, hbq⟩) | (go_at_call 43; refine (Q4.out _).mono ?_; rintro e wq ⟨rfl, hbq⟩))
      go_split_ands
      have bX : Blk wq (w2.heap.size) 23 #[.int .i64 xl, .int .i64 xh] := by with_reducible assumption
      have bY : Blk wq (w2.heap.size + 1) 23 #[.int .i64 xl, .int .i64 xh] := by with_reducible assumption
      have bM : Blk wq (w3.heap.size) 23 #[.int .i64 xl, .int .i64 xh] := by with_reducible assumption
      have bG : Blk wq (w4.heap.size) 23 #[.int .i64 gl, .int .i64 gh] := by with_reducible assumption
      have KQ : Below w.heap.size w wq := by with_reducible assumption
      have ZQ := KQ.size
      obtain ⟨cX, fX, lX, eX, kX⟩ := Blk.facts bX
      obtain ⟨cY, fY, lY, eY, kY⟩ := Blk.facts bY
      obtain ⟨cM, fM, lM, eM, kM⟩ := Blk.facts bM
      go_wp2_with fail
      refine (S2.out _).mono ?_
      rintro e w11 ⟨rfl, hb11⟩
      have K11 : Below w.heap.size w w11 := kept_call hb11 (by (repeat' (first | (with_reducible exact KQ) | (with_reducible refine Below.setCell ?_ ?_ _) | (with_reducible refine Below.alloc ?_ ?_ _) | (with_reducible refine Below.drew ?_) | (with_reducible refine below_drewN ?_ _))) <;> (first | omega | (simp <;> omega)))
      have Z11 : w.heap.size ≤ w11.heap.size := K11.size
      have bX' := Blk.keep (g := w2.heap.size) hb11 (by (repeat' (first | (with_reducible refine' Blk.alloc ?_ _) | (with_reducible refine' Blk.drew ?_) | (with_reducible refine' Blk.drewN ?_ _) | (with_reducible refine' Blk.put ?_ ?_) | (with_reducible refine' Blk.far ?_ ?_ _) | exact bX | exact rfl)) <;> (first | omega | (simp <;> omega)))
      (try simp only [List.setIfInBounds_toArray, List.set_cons_zero, List.set_cons_succ] at bX')
      have bY' := Blk.keep (g := w2.heap.size + 1) hb11 (by (repeat' (first | (with_reducible refine' Blk.alloc ?_ _) | (with_reducible refine' Blk.drew ?_) | (with_reducible refine' Blk.drewN ?_ _) | (with_reducible refine' Blk.put ?_ ?_) | (with_reducible refine' Blk.far ?_ ?_ _) | exact bY | exact rfl)) <;> (first | omega | (simp <;> omega)))
      (try simp only [List.setIfInBounds_toArray, List.set_cons_zero, List.set_cons_succ] at bY')
      have bM' := Blk.keep (g := w3.heap.size) hb11 (by (repeat' (first | (with_reducible refine' Blk.alloc ?_ _) | (with_reducible refine' Blk.drew ?_) | (with_reducible refine' Blk.drewN ?_ _) | (with_reducible refine' Blk.put ?_ ?_) | (with_reducible refine' Blk.far ?_ ?_ _) | exact bM | exact rfl)) <;> (first | omega | (simp <;> omega)))
      (try simp only [List.setIfInBounds_toArray, List.set_cons_zero, List.set_cons_succ] at bM')
      clear hb11 KQ
      clear bX cX fX lX eX kX; have bX := bX'; clear bX'
      clear bY cY fY lY eY kY; have bY := bY'; clear bY'
      clear bM cM fM lM eM kM; have bM := bM'; clear bM'
      obtain ⟨cX, fX, lX, eX, kX⟩ := Blk.facts bX
      obtain ⟨cY, fY, lY, eY, kY⟩ := Blk.facts bY
      obtain ⟨cM, fM, lM, eM, kM⟩ := Blk.facts bM
      go_wp2_with fail
      refine (S3.out _).mono ?_
      rintro e w12 ⟨rfl, hb12⟩
      have K12 : Below w.heap.size w w12 := kept_call hb12 (by (repeat' (first | (with_reducible exact K11) | (with_reducible refine Below.setCell ?_ ?_ _) | (with_reducible refine Below.alloc ?_ ?_ _) | (with_reducible refine Below.drew ?_) | (with_reducible refine below_drewN ?_ _))) <;> (first | omega | (simp <;> omega)))
      have Z12 : w.heap.size ≤ w12.heap.size := K12.size
      have bX' := Blk.keep (g := w2.heap.size) hb12 (by (repeat' (first | (with_reducible refine' Blk.alloc ?_ _) | (with_reducible refine' Blk.drew ?_) | (with_reducible refine' Blk.drewN ?_ _) | (with_reducible refine' Blk.put ?_ ?_) | (with_reducible refine' Blk.far ?_ ?_ _) | exact bX | exact rfl)) <;> (first | omega | (simp <;> omega)))
      (try simp only [List.setIfInBounds_toArray, List.set_cons_zero, List.set_cons_succ] at bX')
      have bY' := Blk.keep (g := w2.heap.size + 1) hb12 (by (repeat' (first | (with_reducible refine' Blk.alloc ?_ _) | (with_reducible refine' Blk.drew ?_) | (with_reducible refine' Blk.drewN ?_ _) | (with_reducible refine' Blk.put ?_ ?_) | (with_reducible refine' Blk.far ?_ ?_ _) | exact bY | exact rfl)) <;> (first | omega | (simp <;> omega)))
      (try simp only [List.setIfInBounds_toArray, List.set_cons_zero, List.set_cons_succ] at bY')
      have bM' := Blk.keep (g := w3.heap.size) hb12 (by (repeat' (first | (with_reducible refine' Blk.alloc ?_ _) | (with_reducible refine' Blk.drew ?_) | (with_reducible refine' Blk.drewN ?_ _) | (with_reducible refine' Blk.put ?_ ?_) | (with_reducible refine' Blk.far ?_ ?_ _) | exact bM | exact rfl)) <;> (first | omega | (simp <;> omega)))
      (try simp only [List.setIfInBounds_toArray, List.set_cons_zero, List.set_cons_succ] at bM')
      clear hb12 K11
      clear bX cX fX lX eX kX; have bX := bX'; clear bX'
      clear bY cY fY lY eY kY; have bY := bY'; clear bY'
      clear bM cM fM lM eM kM; have bM := bM'; clear bM'
      obtain ⟨cX, fX, lX, eX, kX⟩ := Blk.facts bX
      obtain ⟨cY, fY, lY, eY, kY⟩ := Blk.facts bY
      obtain ⟨cM, fM, lM, eM, kM⟩ := Blk.facts bM
      go_wp2_with fail
      refine (S5.out _).mono ?_
      rintro e w13 ⟨rfl, hb13⟩
      have K13 : Below w.heap.size w w13 := kept_call hb13 (by (repeat' (first | (with_reducible exact K12) | (with_reducible refine Below.setCell ?_ ?_ _) | (with_reducible refine Below.alloc ?_ ?_ _) | (with_reducible refine Below.drew ?_) | (with_reducible refine below_drewN ?_ _))) <;> (first | omega | (simp <;> omega)))
      have Z13 : w.heap.size ≤ w13.heap.size := K13.size
      have bX' := Blk.keep (g := w2.heap.size) hb13 (by (repeat' (first | (with_reducible refine' Blk.alloc ?_ _) | (with_reducible refine' Blk.drew ?_) | (with_reducible refine' Blk.drewN ?_ _) | (with_reducible refine' Blk.put ?_ ?_) | (with_reducible refine' Blk.far ?_ ?_ _) | exact bX | exact rfl)) <;> (first | omega | (simp <;> omega)))
      (try simp only [List.setIfInBounds_toArray, List.set_cons_zero, List.set_cons_succ] at bX')
      have bY' := Blk.keep (g := w2.heap.size + 1) hb13 (by (repeat' (first | (with_reducible refine' Blk.alloc ?_ _) | (with_reducible refine' Blk.drew ?_) | (with_reducible refine' Blk.drewN ?_ _) | (with_reducible refine' Blk.put ?_ ?_) | (with_reducible refine' Blk.far ?_ ?_ _) | exact bY | exact rfl)) <;> (first | omega | (simp <;> omega)))
      (try simp only [List.setIfInBounds_toArray, List.set_cons_zero, List.set_cons_succ] at bY')
      have bM' := Blk.keep (g := w3.heap.size) hb13 (by (repeat' (first | (with_reducible refine' Blk.alloc ?_ _) | (with_reducible refine' Blk.drew ?_) | (with_reducible refine' Blk.drewN ?_ _) | (with_reducible refine' Blk.put ?_ ?_) | (with_reducible refine' Blk.far ?_ ?_ _) | exact bM | exact rfl)) <;> (first | omega | (simp <;> omega)))
      (try simp only [List.setIfInBounds_toArray, List.set_cons_zero, List.set_cons_succ] at bM')
      clear hb13 K12
      clear bX cX fX lX eX kX; have bX := bX'; clear bX'
      clear bY cY fY lY eY kY; have bY := bY'; clear bY'
      clear bM cM fM lM eM kM; have bM := bM'; clear bM'
      obtain ⟨cX, fX, lX, eX, kX⟩ := Blk.facts bX
      obtain ⟨cY, fY, lY, eY, kY⟩ := Blk.facts bY
      obtain ⟨cM, fM, lM, eM, kM⟩ := Blk.facts bM
      go_wp2_with fail
      refine (S6.out _).mono ?_
      rintro e w14 ⟨rfl, hb14⟩
      have K14 : Below w.heap.size w w14 := kept_call hb14 (by (repeat' (first | (with_reducible exact K13) | (with_reducible refine Below.setCell ?_ ?_ _) | (with_reducible refine Below.alloc ?_ ?_ _) | (with_reducible refine Below.drew ?_) | (with_reducible refine below_drewN ?_ _))) <;> (first | omega | (simp <;> omega)))
      have Z14 : w.heap.size ≤ w14.heap.size := K14.size
      have bX' := Blk.keep (g := w2.heap.size) hb14 (by (repeat' (first | (with_reducible refine' Blk.alloc ?_ _) | (with_reducible refine' Blk.drew ?_) | (with_reducible refine' Blk.drewN ?_ _) | (with_reducible refine' Blk.put ?_ ?_) | (with_reducible refine' Blk.far ?_ ?_ _) | exact bX | exact rfl)) <;> (first | omega | (simp <;> omega)))
      (try simp only [List.setIfInBounds_toArray, List.set_cons_zero, List.set_cons_succ] at bX')
      have bY' := Blk.keep (g := w2.heap.size + 1) hb14 (by (repeat' (first | (with_reducible refine' Blk.alloc ?_ _) | (with_reducible refine' Blk.drew ?_) | (with_reducible refine' Blk.drewN ?_ _) | (with_reducible refine' Blk.put ?_ ?_) | (with_reducible refine' Blk.far ?_ ?_ _) | exact bY | exact rfl)) <;> (first | omega | (simp <;> omega)))
      (try simp only [List.setIfInBounds_toArray, List.set_cons_zero, List.set_cons_succ] at bY')
      have bM' := Blk.keep (g := w3.heap.size) hb14 (by (repeat' (first | (with_reducible refine' Blk.alloc ?_ _) | (with_reducible refine' Blk.drew ?_) | (with_reducible refine' Blk.drewN ?_ _) | (with_reducible refine' Blk.put ?_ ?_) | (with_reducible refine' Blk.far ?_ ?_ _) | exact bM | exact rfl)) <;> (first | omega | (simp <;> omega)))
      (try simp only [List.setIfInBounds_toArray, List.set_cons_zero, List.set_cons_succ] at bM')
      clear hb14 K13
      clear bX cX fX lX eX kX; have bX := bX'; clear bX'
      clear bY cY fY lY eY kY; have bY := bY'; clear bY'
      clear bM cM fM lM eM kM; have bM := bM'; clear bM'
      obtain ⟨cX, fX, lX, eX, kX⟩ := Blk.facts bX
      obtain ⟨cY, fY, lY, eY, kY⟩ := Blk.facts bY
      obtain ⟨cM, fM, lM, eM, kM⟩ := Blk.facts bM
      go_wp2_with fail
      refine (known11_any _).mono ?_
      rintro e w15 ⟨rfl, hb15⟩
      have K15 : Below w.heap.size w w15 := kept_call hb15 (by (repeat' (first | (with_reducible exact K14) | (with_reducible refine Below.setCell ?_ ?_ _) | (with_reducible refine Below.alloc ?_ ?_ _) | (with_reducible refine Below.drew ?_) | (with_reducible refine below_drewN ?_ _))) <;> (first | omega | (simp <;> omega)))
      have Z15 : w.heap.size ≤ w15.heap.size := K15.size
      have bX' := Blk.keep (g := w2.heap.size) hb15 (by (repeat' (first | (with_reducible refine' Blk.alloc ?_ _) | (with_reducible refine' Blk.drew ?_) | (with_reducible refine' Blk.drewN ?_ _) | (with_reducible refine' Blk.put ?_ ?_) | (with_reducible refine' Blk.far ?_ ?_ _) | exact bX | exact rfl)) <;> (first | omega | (simp <;> omega)))
      (try simp only [List.setIfInBounds_toArray, List.set_cons_zero, List.set_cons_succ] at bX')
      have bY' := Blk.keep (g := w2.heap.size + 1) hb15 (by (repeat' (first | (with_reducible refine' Blk.alloc ?_ _) | (with_reducible refine' Blk.drew ?_) | (with_reducible refine' Blk.drewN ?_ _) | (with_reducible refine' Blk.put ?_ ?_) | (with_reducible refine' Blk.far ?_ ?_ _) | exact bY | exact rfl)) <;> (first | omega | (simp <;> omega)))
      (try simp only [List.setIfInBounds_toArray, List.set_cons_zero, List.set_cons_succ] at bY')
      have bM' := Blk.keep (g := w3.heap.size) hb15 (by (repeat' (first | (with_reducible refine' Blk.alloc ?_ _) | (with_reducible refine' Blk.drew ?_) | (with_reducible refine' Blk.drewN ?_ _) | (with_reducible refine' Blk.put ?_ ?_) | (with_reducible refine' Blk.far ?_ ?_ _) | exact bM | exact rfl)) <;> (first | omega | (simp <;> omega)))
      (try simp only [List.setIfInBounds_toArray, List.set_cons_zero, List.set_cons_succ] at bM')
      clear hb15 K14
      clear bX cX fX lX eX kX; have bX := bX'; clear bX'
      clear bY cY fY lY eY kY; have bY := bY'; clear bY'
      clear bM cM fM lM eM kM; have bM := bM'; clear bM'
      obtain ⟨cX, fX, lX, eX, kX⟩ := Blk.facts bX
      obtain ⟨cY, fY, lY, eY, kY⟩ := Blk.facts bY
      obtain ⟨cM, fM, lM, eM, kM⟩ := Blk.facts bM
      go_wp2_with fail
      refine (S2.out _).mono ?_
      rintro e w16 ⟨rfl, hb16⟩
      have K16 : Below w.heap.size w w16 := kept_call hb16 (by (repeat' (first | (with_reducible exact K15) | (with_reducible refine Below.setCell ?_ ?_ _) | (with_reducible refine Below.alloc ?_ ?_ _) | (with_reducible refine Below.drew ?_) | (with_reducible refine below_drewN ?_ _))) <;> (first | omega | (simp <;> omega)))
      have Z16 : w.heap.size ≤ w16.heap.size := K16.size
      have bX' := Blk.keep (g := w2.heap.size) hb16 (by (repeat' (first | (with_reducible refine' Blk.alloc ?_ _) | (with_reducible refine' Blk.drew ?_) | (with_reducible refine' Blk.drewN ?_ _) | (with_reducible refine' Blk.put ?_ ?_) | (with_reducible refine' Blk.far ?_ ?_ _) | exact bX | exact rfl)) <;> (first | omega | (simp <;> omega)))
      (try simp only [List.setIfInBounds_toArray, List.set_cons_zero, List.set_cons_succ] at bX')
      have bY' := Blk.keep (g := w2.heap.size + 1) hb16 (by (repeat' (first | (with_reducible refine' Blk.alloc ?_ _) | (with_reducible refine' Blk.drew ?_) | (with_reducible refine' Blk.drewN ?_ _) | (with_reducible refine' Blk.put ?_ ?_) | (with_reducible refine' Blk.far ?_ ?_ _) | exact bY | exact rfl)) <;> (first | omega | (simp <;> omega)))
      (try simp only [List.setIfInBounds_toArray, List.set_cons_zero, List.set_cons_succ] at bY')
      have bM' := Blk.keep (g := w3.heap.size) hb16 (by (repeat' (first | (with_reducible refine' Blk.alloc ?_ _) | (with_reducible refine' Blk.drew ?_) | (with_reducible refine' Blk.drewN ?_ _) | (with_reducible refine' Blk.put ?_ ?_) | (with_reducible refine' Blk.far ?_ ?_ _) | exact bM | exact rfl)) <;> (first | omega | (simp <;> omega)))
      (try simp only [List.setIfInBounds_toArray, List.set_cons_zero, List.set_cons_succ] at bM')
      clear hb16 K15
      clear bX cX fX lX eX kX; have bX := bX'; clear bX'
      clear bY cY fY lY eY kY; have bY := bY'; clear bY'
      clear bM cM fM lM eM kM; have bM := bM'; clear bM'
      obtain ⟨cX, fX, lX, eX, kX⟩ := Blk.facts bX
      obtain ⟨cY, fY, lY, eY, kY⟩ := Blk.facts bY
      obtain ⟨cM, fM, lM, eM, kM⟩ := Blk.facts bM
      go_wp2
      go_ret
      exact ⟨by simp, by (repeat' (first | (with_reducible exact K16) | (with_reducible refine Below.setCell ?_ ?_ _) | (with_reducible refine Below.alloc ?_ ?_ _) | (with_reducible refine Below.drew ?_) | (with_reducible refine below_drewN ?_ _))) <;> (first | omega | (simp <;> omega))⟩
    · have iy : insB yl yh xl xh = false := by rcases h : insB yl yh xl xh; rfl; exact absurd ((insB_iff hy hx).1 h) (by omega)
      rw [iy] at s3
      clear h1 h2 iy
      have S1 := Lib.hid s1; clear s1
      have S2 := Lib.hid s2; clear s2
      have S3 := Lib.hid s3; clear s3
      have S5 := Lib.hid s5; clear s5
      have S6 := Lib.hid s6; clear s6
      clear hx hy x1 x2 x3 y1 y2 y3 z1 z2 hg hm
      go_enter Try.func9, Try.ntmps9
      go_wp2_with fail
      refine (R1.out _).mono ?_
      rintro e w1 ⟨rfl, hb1⟩
      have K1 : Below w.heap.size w w1 := kept_call hb1 (by (repeat' (first | (with_reducible exact Below.refl _ _) | (with_reducible refine Below.setCell ?_ ?_ _) | (with_reducible refine Below.alloc ?_ ?_ _) | (with_reducible refine Below.drew ?_) | (with_reducible refine below_drewN ?_ _))) <;> (first | omega | (simp <;> omega)))
      have Z1 : w.heap.size ≤ w1.heap.size := K1.size
      clear hb1
      go_wp2_with fail
      refine (R2.out _).mono ?_
      rintro e w2 ⟨rfl, hb2⟩
      have K2 : Below w.heap.size w w2 := kept_call hb2 (by (repeat' (first | (with_reducible exact K1) | (with_reducible refine Below.setCell ?_ ?_ _) | (with_reducible refine Below.alloc ?_ ?_ _) | (with_reducible refine Below.drew ?_) | (with_reducible refine below_drewN ?_ _))) <;> (first | omega | (simp <;> omega)))
      have Z2 : w.heap.size ≤ w2.heap.size := K2.size
      clear hb2 K1
      go_wp2_with fail
      refine (S1.out _).mono ?_
      rintro e w3 ⟨rfl, hb3⟩
      have K3 : Below w.heap.size w w3 := kept_call hb3 (by (repeat' (first | (with_reducible exact K2) | (with_reducible refine Below.setCell ?_ ?_ _) | (with_reducible refine Below.alloc ?_ ?_ _) | (with_reducible refine Below.drew ?_) | (with_reducible refine below_drewN ?_ _))) <;> (first | omega | (simp <;> omega)))
      have Z3 : w.heap.size ≤ w3.heap.size := K3.size
      have b3_0 := Blk.keep (g := w2.heap.size) hb3 (by (repeat' (first | ((with_reducible refine' Blk.newE ?_); first | rfl | (simp; done)) | (with_reducible refine' Blk.alloc ?_ _) | (with_reducible refine' Blk.drew ?_) | (with_reducible refine' Blk.drewN ?_ _) | (with_reducible refine' Blk.put ?_ ?_) | (with_reducible refine' Blk.far ?_ ?_ _) | exact rfl)) <;> (first | omega | (simp <;> omega)))
      (try simp only [List.setIfInBounds_toArray, List.set_cons_zero, List.set_cons_succ] at b3_0)
      have b3_1 := Blk.keep (g := w2.heap.size + 1) hb3 (by (repeat' (first | ((with_reducible refine' Blk.newE ?_); first | rfl | (simp; done)) | (with_reducible refine' Blk.alloc ?_ _) | (with_reducible refine' Blk.drew ?_) | (with_reducible refine' Blk.drewN ?_ _) | (with_reducible refine' Blk.put ?_ ?_) | (with_reducible refine' Blk.far ?_ ?_ _) | exact rfl)) <;> (first | omega | (simp <;> omega)))
      (try simp only [List.setIfInBounds_toArray, List.set_cons_zero, List.set_cons_succ] at b3_1)
      clear hb3 K2
      obtain ⟨c3_0, f3_0, l3_0, e3_0, k3_0⟩ := Blk.facts b3_0
      obtain ⟨c3_1, f3_1, l3_1, e3_1, k3_1⟩ := Blk.facts b3_1
      have o3_0 := l3_0
      have o3_1 := l3_1
      go_wp2_with fail
      refine (R3.out _).mono ?_
      rintro e wq1 ⟨rfl, rfl⟩
      go_wp2_with fail
      refine (Q1.out _).mono ?_
      rintro e w4 ⟨rfl, hb4⟩
      have K4 : Below w.heap.size w w4 := kept_call hb4 (by (repeat' (first | (with_reducible exact K3) | (with_reducible refine Below.setCell ?_ ?_ _) | (with_reducible refine Below.alloc ?_ ?_ _) | (with_reducible refine Below.drew ?_) | (with_reducible refine below_drewN ?_ _))) <;> (first | omega | (simp <;> omega)))
      have Z4 : w.heap.size ≤ w4.heap.size := K4.size
      have b3_0' := Blk.keep (g := w2.heap.size) hb4 (by (repeat' (first | (with_reducible refine' Blk.alloc ?_ _) | (with_reducible refine' Blk.drew ?_) | (with_reducible refine' Blk.drewN ?_ _) | (with_reducible refine' Blk.put ?_ ?_) | (with_reducible refine' Blk.far ?_ ?_ _) | exact b3_0 | exact rfl)) <;> (first | omega | (simp <;> omega)))
      (try simp only [List.setIfInBounds_toArray, List.set_cons_zero, List.set_cons_succ] at b3_0')
      have b3_1' := Blk.keep (g := w2.heap.size + 1) hb4 (by (repeat' (first | (with_reducible refine' Blk.alloc ?_ _) | (with_reducible refine' Blk.drew ?_) | (with_reducible refine' Blk.drewN ?_ _) | (with_reducible refine' Blk.put ?_ ?_) | (with_reducible refine' Blk.far ?_ ?_ _) | exact b3_1 | exact rfl)) <;> (first | omega | (simp <;> omega)))
      (try simp only [List.setIfInBounds_toArray, List.set_cons_zero, List.set_cons_succ] at b3_1')
      have b4_0 := Blk.keep (g := w3.heap.size) hb4 (by (repeat' (first | ((with_reducible refine' Blk.newE ?_); first | rfl | (simp; done)) | (with_reducible refine' Blk.alloc ?_ _) | (with_reducible refine' Blk.drew ?_) | (with_reducible refine' Blk.drewN ?_ _) | (with_reducible refine' Blk.put ?_ ?_) | (with_reducible refine' Blk.far ?_ ?_ _) | exact rfl)) <;> (first | omega | (simp <;> omega)))
      (try simp only [List.setIfInBounds_toArray, List.set_cons_zero, List.set_cons_succ] at b4_0)
      clear hb4 K3
      clear b3_0 c3_0 f3_0 l3_0 e3_0 k3_0; have b3_0 := b3_0'; clear b3_0'
      clear b3_1 c3_1 f3_1 l3_1 e3_1 k3_1; have b3_1 := b3_1'; clear b3_1'
      obtain ⟨c3_0, f3_0, l3_0, e3_0, k3_0⟩ := Blk.facts b3_0
      obtain ⟨c3_1, f3_1, l3_1, e3_1, k3_1⟩ := Blk.facts b3_1
      obtain ⟨c4_0, f4_0, l4_0, e4_0, k4_0⟩ := Blk.facts b4_0
      have o4_0 := l4_0
      have b5_0 := Blk.new w4 23 #[.int .i64 gl, .int .i64 gh]
      go_upto_region 5 with fail
      go_region_held3 (fun w' => (∀ i, w'.cell? ⟨w2.heap.size, i, none⟩ = #[Value.int .i64 xl, .int .i64 xh][i]?) ∧ (∀ i, w'.cell? ⟨w2.heap.size + 1, i, none⟩ = #[Value.int .i64 yl, .int .i64 yh][i]?) ∧ (∀ i, w'.cell? ⟨w3.heap.size, i, none⟩ = #[Value.int .i64 xl, .int .i64 xh][i]?) ∧ (∀ i, w'.cell? ⟨w4.heap.size, i, none⟩ = #[Value.int .i64 gl, .int .i64 gh][i]?) ∧ Blk w' (w2.heap.size) 23 #[.int .i64 xl, .int .i64 xh] ∧ Blk w' (w2.heap.size + 1) 23 #[.int .i64 yl, .int .i64 yh] ∧ Blk w' (w3.heap.size) 23 #[.int .i64 xl, .int .i64 xh] ∧ Blk w' (w4.heap.size) 23 #[.int .i64 gl, .int .i64 gh] ∧ Below w.heap.size w w')
        ((go_split_ands; refine ⟨?_, ?_, ?_, ?_, ?_, ?_, ?_, ?_, ?_⟩; (focus (first | (with_reducible assumption) | (intro i; refine Blk.cell (t := 23) ?_ i; ((repeat' (first | (with_reducible assumption) | (with_reducible refine' Blk.keep hbq ?_) | (with_reducible refine' Blk.alloc ?_ _) | (with_reducible refine' Blk.drew ?_) | (with_reducible refine' Blk.drewN ?_ _) | (with_reducible refine' Blk.put ?_ ?_) | (with_reducible refine' Blk.far ?_ ?_ _) | exact rfl)) <;> (first | omega | (simp <;> omega)))))); (focus (first | (with_reducible assumption) | (intro i; refine Blk.cell (t := 23) ?_ i; ((repeat' (first | (with_reducible assumption) | (with_reducible refine' Blk.keep hbq ?_) | (with_reducible refine' Blk.alloc ?_ _) | (with_reducible refine' Blk.drew ?_) | (with_reducible refine' Blk.drewN ?_ _) | (with_reducible refine' Blk.put ?_ ?_) | (with_reducible refine' Blk.far ?_ ?_ _) | exact rfl)) <;> (first | omega | (simp <;> omega)))))); (focus (first | (with_reducible assumption) | (intro i; refine Blk.cell (t := 23) ?_ i; ((repeat' (first | (with_reducible assumption) | (with_reducible refine' Blk.keep hbq ?_) | (with_reducible refine' Blk.alloc ?_ _) | (with_reducible refine' Blk.drew ?_) | (with_reducible refine' Blk.drewN ?_ _) | (with_reducible refine' Blk.put ?_ ?_) | (with_reducible refine' Blk.far ?_ ?_ _) | exact rfl)) <;> (first | omega | (simp <;> omega)))))); (focus (first | (with_reducible assumption) | (intro i; refine Blk.cell (t := 23) ?_ i; ((repeat' (first | (with_reducible assumption) | (with_reducible refine' Blk.keep hbq ?_) | (with_reducible refine' Blk.alloc ?_ _) | (with_reducible refine' Blk.drew ?_) | (with_reducible refine' Blk.drewN ?_ _) | (with_reducible refine' Blk.put ?_ ?_) | (with_reducible refine' Blk.far ?_ ?_ _) | exact rfl)) <;> (first | omega | (simp <;> omega)))))); (focus (first | (with_reducible assumption) | ((repeat' (first | (with_reducible assumption) | (with_reducible refine' Blk.keep hbq ?_) | (with_reducible refine' Blk.alloc ?_ _) | (with_reducible refine' Blk.drew ?_) | (with_reducible refine' Blk.drewN ?_ _) | (with_reducible refine' Blk.put ?_ ?_) | (with_reducible refine' Blk.far ?_ ?_ _) | exact rfl)) <;> (first | omega | (simp <;> omega))))); (focus (first | (with_reducible assumption) | ((repeat' (first | (with_reducible assumption) | (with_reducible refine' Blk.keep hbq ?_) | (with_reducible refine' Blk.alloc ?_ _) | (with_reducible refine' Blk.drew ?_) | (with_reducible refine' Blk.drewN ?_ _) | (with_reducible refine' Blk.put ?_ ?_) | (with_reducible refine' Blk.far ?_ ?_ _) | exact rfl)) <;> (first | omega | (simp <;> omega))))); (focus (first | (with_reducible assumption) | ((repeat' (first | (with_reducible assumption) | (with_reducible refine' Blk.keep hbq ?_) | (with_reducible refine' Blk.alloc ?_ _) | (with_reducible refine' Blk.drew ?_) | (with_reducible refine' Blk.drewN ?_ _) | (with_reducible refine' Blk.put ?_ ?_) | (with_reducible refine' Blk.far ?_ ?_ _) | exact rfl)) <;> (first | omega | (simp <;> omega))))); (focus (first | (with_reducible assumption) | ((repeat' (first | (with_reducible assumption) | (with_reducible refine' Blk.keep hbq ?_) | (with_reducible refine' Blk.alloc ?_ _) | (with_reducible refine' Blk.drew ?_) | (with_reducible refine' Blk.drewN ?_ _) | (with_reducible refine' Blk.put ?_ ?_) | (with_reducible refine' Blk.far ?_ ?_ _) | exact rfl)) <;> (first | omega | (simp <;> omega))))); (focus (first | (with_reducible assumption) | ((repeat' (first | (with_reducible assumption) | (with_reducible refine kept_call hbq ?_) | (with_reducible refine Below.setCell ?_ ?_ _) | (with_reducible refine Below.alloc ?_ ?_ _) | (with_reducible refine Below.drew ?_))) <;> (first | omega | (simp <;> omega)))))))
        (first | (go_at_call 42; refine (Q2.out _).mono ?_; rintro e wq ⟨rfl, hbq⟩) | (go_at_call 44; refine (Q3.out _).mono ?_; rintro e wq ⟨rfl, hbq⟩) | (go_at_call 43; refine (Q4.out _).mono ?_; rintro e wq ⟨rfl, hbq⟩))
      go_split_ands
      have bX : Blk wq (w2.heap.size) 23 #[.int .i64 xl, .int .i64 xh] := by with_reducible assumption
      have bY : Blk wq (w2.heap.size + 1) 23 #[.int .i64 yl, .int .i64 yh] := by with_reducible assumption
      have bM : Blk wq (w3.heap.size) 23 #[.int .i64 xl, .int .i64 xh] := by with_reducible assumption
      have bG : Blk wq (w4.heap.size) 23 #[.int .i64 gl, .int .i64 gh] := by with_reducible assumption
      have KQ : Below w.heap.size w wq := by with_reducible assumption
      have ZQ := KQ.size
      obtain ⟨cX, fX, lX, eX, kX⟩ := Blk.facts bX
      obtain ⟨cY, fY, lY, eY, kY⟩ := Blk.facts bY
      obtain ⟨cM, fM, lM, eM, kM⟩ := Blk.facts bM
      go_wp2_with fail
      refine (S2.out _).mono ?_
      rintro e w11 ⟨rfl, hb11⟩
      have K11 : Below w.heap.size w w11 := kept_call hb11 (by (repeat' (first | (with_reducible exact KQ) | (with_reducible refine Below.setCell ?_ ?_ _) | (with_reducible refine Below.alloc ?_ ?_ _) | (with_reducible refine Below.drew ?_) | (with_reducible refine below_drewN ?_ _))) <;> (first | omega | (simp <;> omega)))
      have Z11 : w.heap.size ≤ w11.heap.size := K11.size
      have bX' := Blk.keep (g := w2.heap.size) hb11 (by (repeat' (first | (with_reducible refine' Blk.alloc ?_ _) | (with_reducible refine' Blk.drew ?_) | (with_reducible refine' Blk.drewN ?_ _) | (with_reducible refine' Blk.put ?_ ?_) | (with_reducible refine' Blk.far ?_ ?_ _) | exact bX | exact rfl)) <;> (first | omega | (simp <;> omega)))
      (try simp only [List.setIfInBounds_toArray, List.set_cons_zero, List.set_cons_succ] at bX')
      have bY' := Blk.keep (g := w2.heap.size + 1) hb11 (by (repeat' (first | (with_reducible refine' Blk.alloc ?_ _) | (with_reducible refine' Blk.drew ?_) | (with_reducible refine' Blk.drewN ?_ _) | (with_reducible refine' Blk.put ?_ ?_) | (with_reducible refine' Blk.far ?_ ?_ _) | exact bY | exact rfl)) <;> (first | omega | (simp <;> omega)))
      (try simp only [List.setIfInBounds_toArray, List.set_cons_zero, List.set_cons_succ] at bY')
      have bM' := Blk.keep (g := w3.heap.size) hb11 (by (repeat' (first | (with_reducible refine' Blk.alloc ?_ _) | (with_reducible refine' Blk.drew ?_) | (with_reducible refine' Blk.drewN ?_ _) | (with_reducible refine' Blk.put ?_ ?_) | (with_reducible refine' Blk.far ?_ ?_ _) | exact bM | exact rfl)) <;> (first | omega | (simp <;> omega)))
      (try simp only [List.setIfInBounds_toArray, List.set_cons_zero, List.set_cons_succ] at bM')
      clear hb11 KQ
      clear bX cX fX lX eX kX; have bX := bX'; clear bX'
      clear bY cY fY lY eY kY; have bY := bY'; clear bY'
      clear bM cM fM lM eM kM; have bM := bM'; clear bM'
      obtain ⟨cX, fX, lX, eX, kX⟩ := Blk.facts bX
      obtain ⟨cY, fY, lY, eY, kY⟩ := Blk.facts bY
      obtain ⟨cM, fM, lM, eM, kM⟩ := Blk.facts bM
      go_wp2_with fail
      refine (S3.out _).mono ?_
      rintro e w12 ⟨rfl, hb12⟩
      have K12 : Below w.heap.size w w12 := kept_call hb12 (by (repeat' (first | (with_reducible exact K11) | (with_reducible refine Below.setCell ?_ ?_ _) | (with_reducible refine Below.alloc ?_ ?_ _) | (with_reducible refine Below.drew ?_) | (with_reducible refine below_drewN ?_ _))) <;> (first | omega | (simp <;> omega)))
      have Z12 : w.heap.size ≤ w12.heap.size := K12.size
      have bX' := Blk.keep (g := w2.heap.size) hb12 (by (repeat' (first | (with_reducible refine' Blk.alloc ?_ _) | (with_reducible refine' Blk.drew ?_) | (with_reducible refine' Blk.drewN ?_ _) | (with_reducible refine' Blk.put ?_ ?_) | (with_reducible refine' Blk.far ?_ ?_ _) | exact bX | exact rfl)) <;> (first | omega | (simp <;> omega)))
      (try simp only [List.setIfInBounds_toArray, List.set_cons_zero, List.set_cons_succ] at bX')
      have bY' := Blk.keep (g := w2.heap.size + 1) hb12 (by (repeat' (first | (with_reducible refine' Blk.alloc ?_ _) | (with_reducible refine' Blk.drew ?_) | (with_reducible refine' Blk.drewN ?_ _) | (with_reducible refine' Blk.put ?_ ?_) | (with_reducible refine' Blk.far ?_ ?_ _) | exact bY | exact rfl)) <;> (first | omega | (simp <;> omega)))
      (try simp only [List.setIfInBounds_toArray, List.set_cons_zero, List.set_cons_succ] at bY')
      have bM' := Blk.keep (g := w3.heap.size) hb12 (by (repeat' (first | (with_reducible refine' Blk.alloc ?_ _) | (with_reducible refine' Blk.drew ?_) | (with_reducible refine' Blk.drewN ?_ _) | (with_reducible refine' Blk.put ?_ ?_) | (with_reducible refine' Blk.far ?_ ?_ _) | exact bM | exact rfl)) <;> (first | omega | (simp <;> omega)))
      (try simp only [List.setIfInBounds_toArray, List.set_cons_zero, List.set_cons_succ] at bM')
      clear hb12 K11
      clear bX cX fX lX eX kX; have bX := bX'; clear bX'
      clear bY cY fY lY eY kY; have bY := bY'; clear bY'
      clear bM cM fM lM eM kM; have bM := bM'; clear bM'
      obtain ⟨cX, fX, lX, eX, kX⟩ := Blk.facts bX
      obtain ⟨cY, fY, lY, eY, kY⟩ := Blk.facts bY
      obtain ⟨cM, fM, lM, eM, kM⟩ := Blk.facts bM
      go_wp2_with fail
      refine (S5.out _).mono ?_
      rintro e w13 ⟨rfl, hb13⟩
      have K13 : Below w.heap.size w w13 := kept_call hb13 (by (repeat' (first | (with_reducible exact K12) | (with_reducible refine Below.setCell ?_ ?_ _) | (with_reducible refine Below.alloc ?_ ?_ _) | (with_reducible refine Below.drew ?_) | (with_reducible refine below_drewN ?_ _))) <;> (first | omega | (simp <;> omega)))
      have Z13 : w.heap.size ≤ w13.heap.size := K13.size
      have bX' := Blk.keep (g := w2.heap.size) hb13 (by (repeat' (first | (with_reducible refine' Blk.alloc ?_ _) | (with_reducible refine' Blk.drew ?_) | (with_reducible refine' Blk.drewN ?_ _) | (with_reducible refine' Blk.put ?_ ?_) | (with_reducible refine' Blk.far ?_ ?_ _) | exact bX | exact rfl)) <;> (first | omega | (simp <;> omega)))
      (try simp only [List.setIfInBounds_toArray, List.set_cons_zero, List.set_cons_succ] at bX')
      have bY' := Blk.keep (g := w2.heap.size + 1) hb13 (by (repeat' (first | (with_reducible refine' Blk.alloc ?_ _) | (with_reducible refine' Blk.drew ?_) | (with_reducible refine' Blk.drewN ?_ _) | (with_reducible refine' Blk.put ?_ ?_) | (with_reducible refine' Blk.far ?_ ?_ _) | exact bY | exact rfl)) <;> (first | omega | (simp <;> omega)))
      (try simp only [List.setIfInBounds_toArray, List.set_cons_zero, List.set_cons_succ] at bY')
      have bM' := Blk.keep (g := w3.heap.size) hb13 (by (repeat' (first | (with_reducible refine' Blk.alloc ?_ _) | (with_reducible refine' Blk.drew ?_) | (with_reducible refine' Blk.drewN ?_ _) | (with_reducible refine' Blk.put ?_ ?_) | (with_reducible refine' Blk.far ?_ ?_ _) | exact bM | exact rfl)) <;> (first | omega | (simp <;> omega)))
      (try simp only [List.setIfInBounds_toArray, List.set_cons_zero, List.set_cons_succ] at bM')
      clear hb13 K12
      clear bX cX fX lX eX kX; have bX := bX'; clear bX'
      clear bY cY fY lY eY kY; have bY := bY'; clear bY'
      clear bM cM fM lM eM kM; have bM := bM'; clear bM'
      obtain ⟨cX, fX, lX, eX, kX⟩ := Blk.facts bX
      obtain ⟨cY, fY, lY, eY, kY⟩ := Blk.facts bY
      obtain ⟨cM, fM, lM, eM, kM⟩ := Blk.facts bM
      go_wp2_with fail
      refine (S6.out _).mono ?_
      rintro e w14 ⟨rfl, hb14⟩
      have K14 : Below w.heap.size w w14 := kept_call hb14 (by (repeat' (first | (with_reducible exact K13) | (with_reducible refine Below.setCell ?_ ?_ _) | (with_reducible refine Below.alloc ?_ ?_ _) | (with_reducible refine Below.drew ?_) | (with_reducible refine below_drewN ?_ _))) <;> (first | omega | (simp <;> omega)))
      have Z14 : w.heap.size ≤ w14.heap.size := K14.size
      have bX' := Blk.keep (g := w2.heap.size) hb14 (by (repeat' (first | (with_reducible refine' Blk.alloc ?_ _) | (with_reducible refine' Blk.drew ?_) | (with_reducible refine' Blk.drewN ?_ _) | (with_reducible refine' Blk.put ?_ ?_) | (with_reducible refine' Blk.far ?_ ?_ _) | exact bX | exact rfl)) <;> (first | omega | (simp <;> omega)))
      (try simp only [List.setIfInBounds_toArray, List.set_cons_zero, List.set_cons_succ] at bX')
      have bY' := Blk.keep (g := w2.heap.size + 1) hb14 (by (repeat' (first | (with_reducible refine' Blk.alloc ?_ _) | (with_reducible refine' Blk.drew ?_) | (with_reducible refine' Blk.drewN ?_ _) | (with_reducible refine' Blk.put ?_ ?_) | (with_reducible refine' Blk.far ?_ ?_ _) | exact bY | exact rfl)) <;> (first | omega | (simp <;> omega)))
      (try simp only [List.setIfInBounds_toArray, List.set_cons_zero, List.set_cons_succ] at bY')
      have bM' := Blk.keep (g := w3.heap.size) hb14 (by (repeat' (first | (with_reducible refine' Blk.alloc ?_ _) | (with_reducible refine' Blk.drew ?_) | (with_reducible refine' Blk.drewN ?_ _) | (with_reducible refine' Blk.put ?_ ?_) | (with_reducible refine' Blk.far ?_ ?_ _) | exact bM | exact rfl)) <;> (first | omega | (simp <;> omega)))
      (try simp only [List.setIfInBounds_toArray, List.set_cons_zero, List.set_cons_succ] at bM')
      clear hb14 K13
      clear bX cX fX lX eX kX; have bX := bX'; clear bX'
      clear bY cY fY lY eY kY; have bY := bY'; clear bY'
      clear bM cM fM lM eM kM; have bM := bM'; clear bM'
      obtain ⟨cX, fX, lX, eX, kX⟩ := Blk.facts bX
      obtain ⟨cY, fY, lY, eY, kY⟩ := Blk.facts bY
      obtain ⟨cM, fM, lM, eM, kM⟩ := Blk.facts bM
      go_wp2_with fail
      refine (known11_any _).mono ?_
      rintro e w15 ⟨rfl, hb15⟩
      have K15 : Below w.heap.size w w15 := kept_call hb15 (by (repeat' (first | (with_reducible exact K14) | (with_reducible refine Below.setCell ?_ ?_ _) | (with_reducible refine Below.alloc ?_ ?_ _) | (with_reducible refine Below.drew ?_) | (with_reducible refine below_drewN ?_ _))) <;> (first | omega | (simp <;> omega)))
      have Z15 : w.heap.size ≤ w15.heap.size := K15.size
      have bX' := Blk.keep (g := w2.heap.size) hb15 (by (repeat' (first | (with_reducible refine' Blk.alloc ?_ _) | (with_reducible refine' Blk.drew ?_) | (with_reducible refine' Blk.drewN ?_ _) | (with_reducible refine' Blk.put ?_ ?_) | (with_reducible refine' Blk.far ?_ ?_ _) | exact bX | exact rfl)) <;> (first | omega | (simp <;> omega)))
      (try simp only [List.setIfInBounds_toArray, List.set_cons_zero, List.set_cons_succ] at bX')
      have bY' := Blk.keep (g := w2.heap.size + 1) hb15 (by (repeat' (first | (with_reducible refine' Blk.alloc ?_ _) | (with_reducible refine' Blk.drew ?_) | (with_reducible refine' Blk.drewN ?_ _) | (with_reducible refine' Blk.put ?_ ?_) | (with_reducible refine' Blk.far ?_ ?_ _) | exact bY | exact rfl)) <;> (first | omega | (simp <;> omega)))
      (try simp only [List.setIfInBounds_toArray, List.set_cons_zero, List.set_cons_succ] at bY')
      have bM' := Blk.keep (g := w3.heap.size) hb15 (by (repeat' (first | (with_reducible refine' Blk.alloc ?_ _) | (with_reducible refine' Blk.drew ?_) | (with_reducible refine' Blk.drewN ?_ _) | (with_reducible refine' Blk.put ?_ ?_) | (with_reducible refine' Blk.far ?_ ?_ _) | exact bM | exact rfl)) <;> (first | omega | (simp <;> omega)))
      (try simp only [List.setIfInBounds_toArray, List.set_cons_zero, List.set_cons_succ] at bM')
      clear hb15 K14
      clear bX cX fX lX eX kX; have bX := bX'; clear bX'
      clear bY cY fY lY eY kY; have bY := bY'; clear bY'
      clear bM cM fM lM eM kM; have bM := bM'; clear bM'
      obtain ⟨cX, fX, lX, eX, kX⟩ := Blk.facts bX
      obtain ⟨cY, fY, lY, eY, kY⟩ := Blk.facts bY
      obtain ⟨cM, fM, lM, eM, kM⟩ := Blk.facts bM
      go_wp2_with fail
      refine (S2.out _).mono ?_
      rintro e w16 ⟨rfl, hb16⟩
      have K16 : Below w.heap.size w w16 := kept_call hb16 (by (repeat' (first | (with_reducible exact K15) | (with_reducible refine Below.setCell ?_ ?_ _) | (with_reducible refine Below.alloc ?_ ?_ _) | (with_reducible refine Below.drew ?_) | (with_reducible refine below_drewN ?_ _))) <;> (first | omega | (simp <;> omega)))
      have Z16 : w.heap.size ≤ w16.heap.size := K16.size
      have bX' := Blk.keep (g := w2.heap.size) hb16 (by (repeat' (first | (with_reducible refine' Blk.alloc ?_ _) | (with_reducible refine' Blk.drew ?_) | (with_reducible refine' Blk.drewN ?_ _) | (with_reducible refine' Blk.put ?_ ?_) | (with_reducible refine' Blk.far ?_ ?_ _) | exact bX | exact rfl)) <;> (first | omega | (simp <;> omega)))
      (try simp only [List.setIfInBounds_toArray, List.set_cons_zero, List.set_cons_succ] at bX')
      have bY' := Blk.keep (g := w2.heap.size + 1) hb16 (by (repeat' (first | (with_reducible refine' Blk.alloc ?_ _) | (with_reducible refine' Blk.drew ?_) | (with_reducible refine' Blk.drewN ?_ _) | (with_reducible refine' Blk.put ?_ ?_) | (with_reducible refine' Blk.far ?_ ?_ _) | exact bY | exact rfl)) <;> (first | omega | (simp <;> omega)))
      (try simp only [List.setIfInBounds_toArray, List.set_cons_zero, List.set_cons_succ] at bY')
      have bM' := Blk.keep (g := w3.heap.size) hb16 (by (repeat' (first | (with_reducible refine' Blk.alloc ?_ _) | (with_reducible refine' Blk.drew ?_) | (with_reducible refine' Blk.drewN ?_ _) | (with_reducible refine' Blk.put ?_ ?_) | (with_reducible refine' Blk.far ?_ ?_ _) | exact bM | exact rfl)) <;> (first | omega | (simp <;> omega)))
      (try simp only [List.setIfInBounds_toArray, List.set_cons_zero, List.set_cons_succ] at bM')
      clear hb16 K15
      clear bX cX fX lX eX kX; have bX := bX'; clear bX'
      clear bY cY fY lY eY kY; have bY := bY'; clear bY'
      clear bM cM fM lM eM kM; have bM := bM'; clear bM'
      obtain ⟨cX, fX, lX, eX, kX⟩ := Blk.facts bX
      obtain ⟨cY, fY, lY, eY, kY⟩ := Blk.facts bY
      obtain ⟨cM, fM, lM, eM, kM⟩ := Blk.facts bM
      go_wp2
      go_ret
      exact ⟨by simp, by (repeat' (first | (with_reducible exact K16) | (with_reducible refine Below.setCell ?_ ?_ _) | (with_reducible refine Below.alloc ?_ ?_ _) | (with_reducible refine Below.drew ?_) | (with_reducible refine below_drewN ?_ _))) <;> (first | omega | (simp <;> omega))⟩
  · have ix : insB xl xh yl yh = false := by rcases h : insB xl xh yl yh; rfl; exact absurd ((insB_iff hx hy).1 h) (by omega)
    rw [ix] at s2
    clear s3; have s3 := s2
    rcases im : mtB xl xh yl yh
    · rw [im] at s1
      generalize mtLo xl xh yl yh = ml at *
      generalize mtHi xl xh yl yh = mh at *
      clear h1 ix im
      have S1 := Lib.hid s1; clear s1
      have S2 := Lib.hid s2; clear s2
      have S3 := Lib.hid s3; clear s3
      have S5 := Lib.hid s5; clear s5
      have S6 := Lib.hid s6; clear s6
      clear hx hy x1 x2 x3 y1 y2 y3 z1 z2 hg hm
      go_enter Try.func9, Try.ntmps9
      go_wp2_with fail
      refine (R1.out _).mono ?_
      rintro e w1 ⟨rfl, hb1⟩
      have K1 : Below w.heap.size w w1 := kept_call hb1 (by (repeat' (first | (with_reducible exact Below.refl _ _) | (with_reducible refine Below.setCell ?_ ?_ _) | (with_reducible refine Below.alloc ?_ ?_ _) | (with_reducible refine Below.drew ?_) | (with_reducible refine below_drewN ?_ _))) <;> (first | omega | (simp <;> omega)))
      have Z1 : w.heap.size ≤ w1.heap.size := K1.size
      clear hb1
      go_wp2_with fail
      refine (R2.out _).mono ?_
      rintro e w2 ⟨rfl, hb2⟩
      have K2 : Below w.heap.size w w2 := kept_call hb2 (by (repeat' (first | (with_reducible exact K1) | (with_reducible refine Below.setCell ?_ ?_ _) | (with_reducible refine Below.alloc ?_ ?_ _) | (with_reducible refine Below.drew ?_) | (with_reducible refine below_drewN ?_ _))) <;> (first | omega | (simp <;> omega)))
      have Z2 : w.heap.size ≤ w2.heap.size := K2.size
      clear hb2 K1
      go_wp2_with fail
      refine (S1.out _).mono ?_
      rintro e w3 ⟨rfl, hb3⟩
      have K3 : Below w.heap.size w w3 := kept_call hb3 (by (repeat' (first | (with_reducible exact K2) | (with_reducible refine Below.setCell ?_ ?_ _) | (with_reducible refine Below.alloc ?_ ?_ _) | (with_reducible refine Below.drew ?_) | (with_reducible refine below_drewN ?_ _))) <;> (first | omega | (simp <;> omega)))
      have Z3 : w.heap.size ≤ w3.heap.size := K3.size
      have b3_0 := Blk.keep (g := w2.heap.size) hb3 (by (repeat' (first | ((with_reducible refine' Blk.newE ?_); first | rfl | (simp; done)) | (with_reducible refine' Blk.alloc ?_ _) | (with_reducible refine' Blk.drew ?_) | (with_reducible refine' Blk.drewN ?_ _) | (with_reducible refine' Blk.put ?_ ?_) | (with_reducible refine' Blk.far ?_ ?_ _) | exact rfl)) <;> (first | omega | (simp <;> omega)))
      (try simp only [List.setIfInBounds_toArray, List.set_cons_zero, List.set_cons_succ] at b3_0)
      have b3_1 := Blk.keep (g := w2.heap.size + 1) hb3 (by (repeat' (first | ((with_reducible refine' Blk.newE ?_); first | rfl | (simp; done)) | (with_reducible refine' Blk.alloc ?_ _) | (with_reducible refine' Blk.drew ?_) | (with_reducible refine' Blk.drewN ?_ _) | (with_reducible refine' Blk.put ?_ ?_) | (with_reducible refine' Blk.far ?_ ?_ _) | exact rfl)) <;> (first | omega | (simp <;> omega)))
      (try simp only [List.setIfInBounds_toArray, List.set_cons_zero, List.set_cons_succ] at b3_1)
      clear hb3 K2
      obtain ⟨c3_0, f3_0, l3_0, e3_0, k3_0⟩ := Blk.facts b3_0
      obtain ⟨c3_1, f3_1, l3_1, e3_1, k3_1⟩ := Blk.facts b3_1
      have o3_0 := l3_0
      have o3_1 := l3_1
      go_wp2_with fail
      refine (R3.out _).mono ?_
      rintro e wq1 ⟨rfl, rfl⟩
      go_wp2_with fail
      refine (Q1.out _).mono ?_
      rintro e w4 ⟨rfl, hb4⟩
      have K4 : Below w.heap.size w w4 := kept_call hb4 (by (repeat' (first | (with_reducible exact K3) | (with_reducible refine Below.setCell ?_ ?_ _) | (with_reducible refine Below.alloc ?_ ?_ _) | (with_reducible refine Below.drew ?_) | (with_reducible refine below_drewN ?_ _))) <;> (first | omega | (simp <;> omega)))
      have Z4 : w.heap.size ≤ w4.heap.size := K4.size
      have b3_0' := Blk.keep (g := w2.heap.size) hb4 (by (repeat' (first | (with_reducible refine' Blk.alloc ?_ _) | (with_reducible refine' Blk.drew ?_) | (with_reducible refine' Blk.drewN ?_ _) | (with_reducible refine' Blk.put ?_ ?_) | (with_reducible refine' Blk.far ?_ ?_ _) | exact b3_0 | exact rfl)) <;> (first | omega | (simp <;> omega)))
      (try simp only [List.setIfInBounds_toArray, List.set_cons_zero, List.set_cons_succ] at b3_0')
      have b3_1' := Blk.keep (g := w2.heap.size + 1) hb4 (by (repeat' (first | (with_reducible refine' Blk.alloc ?_ _) | (with_reducible refine' Blk.drew ?_) | (with_reducible refine' Blk.drewN ?_ _) | (with_reducible refine' Blk.put ?_ ?_) | (with_reducible refine' Blk.far ?_ ?_ _) | exact b3_1 | exact rfl)) <;> (first | omega | (simp <;> omega)))
      (try simp only [List.setIfInBounds_toArray, List.set_cons_zero, List.set_cons_succ] at b3_1')
      have b4_0 := Blk.keep (g := w3.heap.size) hb4 (by (repeat' (first | ((with_reducible refine' Blk.newE ?_); first | rfl | (simp; done)) | (with_reducible refine' Blk.alloc ?_ _) | (with_reducible refine' Blk.drew ?_) | (with_reducible refine' Blk.drewN ?_ _) | (with_reducible refine' Blk.put ?_ ?_) | (with_reducible refine' Blk.far ?_ ?_ _) | exact rfl)) <;> (first | omega | (simp <;> omega)))
      (try simp only [List.setIfInBounds_toArray, List.set_cons_zero, List.set_cons_succ] at b4_0)
      clear hb4 K3
      clear b3_0 c3_0 f3_0 l3_0 e3_0 k3_0; have b3_0 := b3_0'; clear b3_0'
      clear b3_1 c3_1 f3_1 l3_1 e3_1 k3_1; have b3_1 := b3_1'; clear b3_1'
      obtain ⟨c3_0, f3_0, l3_0, e3_0, k3_0⟩ := Blk.facts b3_0
      obtain ⟨c3_1, f3_1, l3_1, e3_1, k3_1⟩ := Blk.facts b3_1
      obtain ⟨c4_0, f4_0, l4_0, e4_0, k4_0⟩ := Blk.facts b4_0
      have o4_0 := l4_0
      have b5_0 := Blk.new w4 23 #[.int .i64 gl, .int .i64 gh]
      go_upto_region 5 with fail
      go_region_held3 (fun w' => (∀ i, w'.cell? ⟨w2.heap.size, i, none⟩ = #[Value.int .i64 xl, .int .i64 xh][i]?) ∧ (∀ i, w'.cell? ⟨w2.heap.size + 1, i, none⟩ = #[Value.int .i64 yl, .int .i64 yh][i]?) ∧ (∀ i, w'.cell? ⟨w3.heap.size, i, none⟩ = #[Value.int .i64 ml, .int .i64 mh][i]?) ∧ (∀ i, w'.cell? ⟨w4.heap.size, i, none⟩ = #[Value.int .i64 gl, .int .i64 gh][i]?) ∧ Blk w' (w2.heap.size) 23 #[.int .i64 xl, .int .i64 xh] ∧ Blk w' (w2.heap.size + 1) 23 #[.int .i64 yl, .int .i64 yh] ∧ Blk w' (w3.heap.size) 23 #[.int .i64 ml, .int .i64 mh] ∧ Blk w' (w4.heap.size) 23 #[.int .i64 gl, .int .i64 gh] ∧ Below w.heap.size w w')
        ((go_split_ands; refine ⟨?_, ?_, ?_, ?_, ?_, ?_, ?_, ?_, ?_⟩; (focus (first | (with_reducible assumption) | (intro i; refine Blk.cell (t := 23) ?_ i; ((repeat' (first | (with_reducible assumption) | (with_reducible refine' Blk.keep hbq ?_) | (with_reducible refine' Blk.alloc ?_ _) | (with_reducible refine' Blk.drew ?_) | (with_reducible refine' Blk.drewN ?_ _) | (with_reducible refine' Blk.put ?_ ?_) | (with_reducible refine' Blk.far ?_ ?_ _) | exact rfl)) <;> (first | omega | (simp <;> omega)))))); (focus (first | (with_reducible assumption) | (intro i; refine Blk.cell (t := 23) ?_ i; ((repeat' (first | (with_reducible assumption) | (with_reducible refine' Blk.keep hbq ?_) | (with_reducible refine' Blk.alloc ?_ _) | (with_reducible refine' Blk.drew ?_) | (with_reducible refine' Blk.drewN ?_ _) | (with_reducible refine' Blk.put ?_ ?_) | (with_reducible refine' Blk.far ?_ ?_ _) | exact rfl)) <;> (first | omega | (simp <;> omega)))))); (focus (first | (with_reducible assumption) | (intro i; refine Blk.cell (t := 23) ?_ i; ((repeat' (first | (with_reducible assumption) | (with_reducible refine' Blk.keep hbq ?_) | (with_reducible refine' Blk.alloc ?_ _) | (with_reducible refine' Blk.drew ?_) | (with_reducible refine' Blk.drewN ?_ _) | (with_reducible refine' Blk.put ?_ ?_) | (with_reducible refine' Blk.far ?_ ?_ _) | exact rfl)) <;> (first | omega | (simp <;> omega)))))); (focus (first | (with_reducible assumption) | (intro i; refine Blk.cell (t := 23) ?_ i; ((repeat' (first | (with_reducible assumption) | (with_reducible refine' Blk.keep hbq ?_) | (with_reducible refine' Blk.alloc ?_ _) | (with_reducible refine' Blk.drew ?_) | (with_reducible refine' Blk.drewN ?_ _) | (with_reducible refine' Blk.put ?_ ?_) | (with_reducible refine' Blk.far ?_ ?_ _) | exact rfl)) <;> (first | omega | (simp <;> omega)))))); (focus (first | (with_reducible assumption) | ((repeat' (first | (with_reducible assumption) | (with_reducible refine' Blk.keep hbq ?_) | (with_reducible refine' Blk.alloc ?_ _) | (with_reducible refine' Blk.drew ?_) | (with_reducible refine' Blk.drewN ?_ _) | (with_reducible refine' Blk.put ?_ ?_) | (with_reducible refine' Blk.far ?_ ?_ _) | exact rfl)) <;> (first | omega | (simp <;> omega))))); (focus (first | (with_reducible assumption) | ((repeat' (first | (with_reducible assumption) | (with_reducible refine' Blk.keep hbq ?_) | (with_reducible refine' Blk.alloc ?_ _) | (with_reducible refine' Blk.drew ?_) | (with_reducible refine' Blk.drewN ?_ _) | (with_reducible refine' Blk.put ?_ ?_) | (with_reducible refine' Blk.far ?_ ?_ _) | exact rfl)) <;> (first | omega | (simp <;> omega))))); (focus (first | (with_reducible assumption) | ((repeat' (first | (with_reducible assumption) | (with_reducible refine' Blk.keep hbq ?_) | (with_reducible refine' Blk.alloc ?_ _) | (with_reducible refine' Blk.drew ?_) | (with_reducible refine' Blk.drewN ?_ _) | (with_reducible refine' Blk.put ?_ ?_) | (with_reducible refine' Blk.far ?_ ?_ _) | exact rfl)) <;> (first | omega | (simp <;> omega))))); (focus (first | (with_reducible assumption) | ((repeat' (first | (with_reducible assumption) | (with_reducible refine' Blk.keep hbq ?_) | (with_reducible refine' Blk.alloc ?_ _) | (with_reducible refine' Blk.drew ?_) | (with_reducible refine' Blk.drewN ?_ _) | (with_reducible refine' Blk.put ?_ ?_) | (with_reducible refine' Blk.far ?_ ?_ _) | exact rfl)) <;> (first | omega | (simp <;> omega))))); (focus (first | (with_reducible assumption) | ((repeat' (first | (with_reducible assumption) | (with_reducible refine kept_call hbq ?_) | (with_reducible refine Below.setCell ?_ ?_ _) | (with_reducible refine Below.alloc ?_ ?_ _) | (with_reducible refine Below.drew ?_))) <;> (first | omega | (simp <;> omega)))))))
        (first | (go_at_call 42; refine (Q2.out _).mono ?_; rintro e wq ⟨rfl, hbq⟩) | (go_at_call 44; refine (Q3.out _).mono ?_; rintro e wq ⟨rfl, hbq⟩) | (go_at_call 43; refine (Q4.out _).mono ?_; rintro e wq ⟨rfl, hbq⟩))
      go_split_ands
      have bX : Blk wq (w2.heap.size) 23 #[.int .i64 xl, .int .i64 xh] := by with_reducible assumption
      have bY : Blk wq (w2.heap.size + 1) 23 #[.int .i64 yl, .int .i64 yh] := by with_reducible assumption
      have bM : Blk wq (w3.heap.size) 23 #[.int .i64 ml, .int .i64 mh] := by with_reducible assumption
      have bG : Blk wq (w4.heap.size) 23 #[.int .i64 gl, .int .i64 gh] := by with_reducible assumption
      have KQ : Below w.heap.size w wq := by with_reducible assumption
      have ZQ := KQ.size
      obtain ⟨cX, fX, lX, eX, kX⟩ := Blk.facts bX
      obtain ⟨cY, fY, lY, eY, kY⟩ := Blk.facts bY
      obtain ⟨cM, fM, lM, eM, kM⟩ := Blk.facts bM
      go_wp2_with fail
      refine (S2.out _).mono ?_
      rintro e w11 ⟨rfl, hb11⟩
      have K11 : Below w.heap.size w w11 := kept_call hb11 (by (repeat' (first | (with_reducible exact KQ) | (with_reducible refine Below.setCell ?_ ?_ _) | (with_reducible refine Below.alloc ?_ ?_ _) | (with_reducible refine Below.drew ?_) | (with_reducible refine below_drewN ?_ _))) <;> (first | omega | (simp <;> omega)))
      have Z11 : w.heap.size ≤ w11.heap.size := K11.size
      have bX' := Blk.keep (g := w2.heap.size) hb11 (by (repeat' (first | (with_reducible refine' Blk.alloc ?_ _) | (with_reducible refine' Blk.drew ?_) | (with_reducible refine' Blk.drewN ?_ _) | (with_reducible refine' Blk.put ?_ ?_) | (with_reducible refine' Blk.far ?_ ?_ _) | exact bX | exact rfl)) <;> (first | omega | (simp <;> omega)))
      (try simp only [List.setIfInBounds_toArray, List.set_cons_zero, List.set_cons_succ] at bX')
      have bY' := Blk.keep (g := w2.heap.size + 1) hb11 (by (repeat' (first | (with_reducible refine' Blk.alloc ?_ _) | (with_reducible refine' Blk.drew ?_) | (with_reducible refine' Blk.drewN ?_ _) | (with_reducible refine' Blk.put ?_ ?_) | (with_reducible refine' Blk.far ?_ ?_ _) | exact bY | exact rfl)) <;> (first | omega | (simp <;> omega)))
      (try simp only [List.setIfInBounds_toArray, List.set_cons_zero, List.set_cons_succ] at bY')
      have bM' := Blk.keep (g := w3.heap.size) hb11 (by (repeat' (first | (with_reducible refine' Blk.alloc ?_ _) | (with_reducible refine' Blk.drew ?_) | (with_reducible refine' Blk.drewN ?_ _) | (with_reducible refine' Blk.put ?_ ?_) | (with_reducible refine' Blk.far ?_ ?_ _) | exact bM | exact rfl)) <;> (first | omega | (simp <;> omega)))
      (try simp only [List.setIfInBounds_toArray, List.set_cons_zero, List.set_cons_succ] at bM')
      clear hb11 KQ
      clear bX cX fX lX eX kX; have bX := bX'; clear bX'
      clear bY cY fY lY eY kY; have bY := bY'; clear bY'
      clear bM cM fM lM eM kM; have bM := bM'; clear bM'
      obtain ⟨cX, fX, lX, eX, kX⟩ := Blk.facts bX
      obtain ⟨cY, fY, lY, eY, kY⟩ := Blk.facts bY
      obtain ⟨cM, fM, lM, eM, kM⟩ := Blk.facts bM
      go_wp2_with fail
      refine (known11_any _).mono ?_
      rintro e w12 ⟨rfl, hb12⟩
      have K12 : Below w.heap.size w w12 := kept_call hb12 (by (repeat' (first | (with_reducible exact K11) | (with_reducible refine Below.setCell ?_ ?_ _) | (with_reducible refine Below.alloc ?_ ?_ _) | (with_reducible refine Below.drew ?_) | (with_reducible refine below_drewN ?_ _))) <;> (first | omega | (simp <;> omega)))
      have Z12 : w.heap.size ≤ w12.heap.size := K12.size
      have bX' := Blk.keep (g := w2.heap.size) hb12 (by (repeat' (first | (with_reducible refine' Blk.alloc ?_ _) | (with_reducible refine' Blk.drew ?_) | (with_reducible refine' Blk.drewN ?_ _) | (with_reducible refine' Blk.put ?_ ?_) | (with_reducible refine' Blk.far ?_ ?_ _) | exact bX | exact rfl)) <;> (first | omega | (simp <;> omega)))
      (try simp only [List.setIfInBounds_toArray, List.set_cons_zero, List.set_cons_succ] at bX')
      have bY' := Blk.keep (g := w2.heap.size + 1) hb12 (by (repeat' (first | (with_reducible refine' Blk.alloc ?_ _) | (with_reducible refine' Blk.drew ?_) | (with_reducible refine' Blk.drewN ?_ _) | (with_reducible refine' Blk.put ?_ ?_) | (with_reducible refine' Blk.far ?_ ?_ _) | exact bY | exact rfl)) <;> (first | omega | (simp <;> omega)))
      (try simp only [List.setIfInBounds_toArray, List.set_cons_zero, List.set_cons_succ] at bY')
      have bM' := Blk.keep (g := w3.heap.size) hb12 (by (repeat' (first | (with_reducible refine' Blk.alloc ?_ _) | (with_reducible refine' Blk.drew ?_) | (with_reducible refine' Blk.drewN ?_ _) | (with_reducible refine' Blk.put ?_ ?_) | (with_reducible refine' Blk.far ?_ ?_ _) | exact bM | exact rfl)) <;> (first | omega | (simp <;> omega)))
      (try simp only [List.setIfInBounds_toArray, List.set_cons_zero, List.set_cons_succ] at bM')
      clear hb12 K11
      clear bX cX fX lX eX kX; have bX := bX'; clear bX'
      clear bY cY fY lY eY kY; have bY := bY'; clear bY'
      clear bM cM fM lM eM kM; have bM := bM'; clear bM'
      obtain ⟨cX, fX, lX, eX, kX⟩ := Blk.facts bX
      obtain ⟨cY, fY, lY, eY, kY⟩ := Blk.facts bY
      obtain ⟨cM, fM, lM, eM, kM⟩ := Blk.facts bM
      go_wp2_with fail
      refine (S2.out _).mono ?_
      rintro e w13 ⟨rfl, hb13⟩
      have K13 : Below w.heap.size w w13 := kept_call hb13 (by (repeat' (first | (with_reducible exact K12) | (with_reducible refine Below.setCell ?_ ?_ _) | (with_reducible refine Below.alloc ?_ ?_ _) | (with_reducible refine Below.drew ?_) | (with_reducible refine below_drewN ?_ _))) <;> (first | omega | (simp <;> omega)))
      have Z13 : w.heap.size ≤ w13.heap.size := K13.size
      have bX' := Blk.keep (g := w2.heap.size) hb13 (by (repeat' (first | (with_reducible refine' Blk.alloc ?_ _) | (with_reducible refine' Blk.drew ?_) | (with_reducible refine' Blk.drewN ?_ _) | (with_reducible refine' Blk.put ?_ ?_) | (with_reducible refine' Blk.far ?_ ?_ _) | exact bX | exact rfl)) <;> (first | omega | (simp <;> omega)))
      (try simp only [List.setIfInBounds_toArray, List.set_cons_zero, List.set_cons_succ] at bX')
      have bY' := Blk.keep (g := w2.heap.size + 1) hb13 (by (repeat' (first | (with_reducible refine' Blk.alloc ?_ _) | (with_reducible refine' Blk.drew ?_) | (with_reducible refine' Blk.drewN ?_ _) | (with_reducible refine' Blk.put ?_ ?_) | (with_reducible refine' Blk.far ?_ ?_ _) | exact bY | exact rfl)) <;> (first | omega | (simp <;> omega)))
      (try simp only [List.setIfInBounds_toArray, List.set_cons_zero, List.set_cons_succ] at bY')
      have bM' := Blk.keep (g := w3.heap.size) hb13 (by (repeat' (first | (with_reducible refine' Blk.alloc ?_ _) | (with_reducible refine' Blk.drew ?_) | (with_reducible refine' Blk.drewN ?_ _) | (with_reducible refine' Blk.put ?_ ?_) | (with_reducible refine' Blk.far ?_ ?_ _) | exact bM | exact rfl)) <;> (first | omega | (simp <;> omega)))
      (try simp only [List.setIfInBounds_toArray, List.set_cons_zero, List.set_cons_succ] at bM')
      clear hb13 K12
      clear bX cX fX lX eX kX; have bX := bX'; clear bX'
      clear bY cY fY lY eY kY; have bY := bY'; clear bY'
      clear bM cM fM lM eM kM; have bM := bM'; clear bM'
      obtain ⟨cX, fX, lX, eX, kX⟩ := Blk.facts bX
      obtain ⟨cY, fY, lY, eY, kY⟩ := Blk.facts bY
      obtain ⟨cM, fM, lM, eM, kM⟩ := Blk.facts bM
      go_wp2
      go_ret
      exact ⟨by simp, by (repeat' (first | (with_reducible exact K13) | (with_reducible refine Below.setCell ?_ ?_ _) | (with_reducible refine Below.alloc ?_ ?_ _) | (with_reducible refine Below.drew ?_) | (with_reducible refine below_drewN ?_ _))) <;> (first | omega | (simp <;> omega))⟩
    · rw [im] at s1
      have h3 := (mtB_iff hx hy).1 im
      have hl := mtLo_yes im
      have hh := mtHi_yes im
      generalize mtLo xl xh yl yh = ml at *
      generalize mtHi xl xh yl yh = mh at *
      have hm' : vS ml mh = true := vS_true.2 (by omega)
      rw [insB_yes hm' hx (by omega) (by omega)] at s5
      rw [insB_yes hm' hy (by omega) (by omega)] at s6
      clear h1 ix im h3 hl hh hm'
      have S1 := Lib.hid s1; clear s1
      have S2 := Lib.hid s2; clear s2
      have S3 := Lib.hid s3; clear s3
      have S5 := Lib.hid s5; clear s5
      have S6 := Lib.hid s6; clear s6
      clear hx hy x1 x2 x3 y1 y2 y3 z1 z2 hg hm
      go_enter Try.func9, Try.ntmps9
      go_wp2_with fail
      refine (R1.out _).mono ?_
      rintro e w1 ⟨rfl, hb1⟩
      have K1 : Below w.heap.size w w1 := kept_call hb1 (by (repeat' (first | (with_reducible exact Below.refl _ _) | (with_reducible refine Below.setCell ?_ ?_ _) | (with_reducible refine Below.alloc ?_ ?_ _) | (with_reducible refine Below.drew ?_) | (with_reducible refine below_drewN ?_ _))) <;> (first | omega | (simp <;> omega)))
      have Z1 : w.heap.size ≤ w1.heap.size := K1.size
      clear hb1
      go_wp2_with fail
      refine (R2.out _).mono ?_
      rintro e w2 ⟨rfl, hb2⟩
      have K2 : Below w.heap.size w w2 := kept_call hb2 (by (repeat' (first | (with_reducible exact K1) | (with_reducible refine Below.setCell ?_ ?_ _) | (with_reducible refine Below.alloc ?_ ?_ _) | (with_reducible refine Below.drew ?_) | (with_reducible refine below_drewN ?_ _))) <;> (first | omega | (simp <;> omega)))
      have Z2 : w.heap.size ≤ w2.heap.size := K2.size
      clear hb2 K1
      go_wp2_with fail
      refine (S1.out _).mono ?_
      rintro e w3 ⟨rfl, hb3⟩
      have K3 : Below w.heap.size w w3 := kept_call hb3 (by (repeat' (first | (with_reducible exact K2) | (with_reducible refine Below.setCell ?_ ?_ _) | (with_reducible refine Below.alloc ?_ ?_ _) | (with_reducible refine Below.drew ?_) | (with_reducible refine below_drewN ?_ _))) <;> (first | omega | (simp <;> omega)))
      have Z3 : w.heap.size ≤ w3.heap.size := K3.size
      have b3_0 := Blk.keep (g := w2.heap.size) hb3 (by (repeat' (first | ((with_reducible refine' Blk.newE ?_); first | rfl | (simp; done)) | (with_reducible refine' Blk.alloc ?_ _) | (with_reducible refine' Blk.drew ?_) | (with_reducible refine' Blk.drewN ?_ _) | (with_reducible refine' Blk.put ?_ ?_) | (with_reducible refine' Blk.far ?_ ?_ _) | exact rfl)) <;> (first | omega | (simp <;> omega)))
      (try simp only [List.setIfInBounds_toArray, List.set_cons_zero, List.set_cons_succ] at b3_0)
      have b3_1 := Blk.keep (g := w2.heap.size + 1) hb3 (by (repeat' (first | ((with_reducible refine' Blk.newE ?_); first | rfl | (simp; done)) | (with_reducible refine' Blk.alloc ?_ _) | (with_reducible refine' Blk.drew ?_) | (with_reducible refine' Blk.drewN ?_ _) | (with_reducible refine' Blk.put ?_ ?_) | (with_reducible refine' Blk.far ?_ ?_ _) | exact rfl)) <;> (first | omega | (simp <;> omega)))
      (try simp only [List.setIfInBounds_toArray, List.set_cons_zero, List.set_cons_succ] at b3_1)
      clear hb3 K2
      obtain ⟨c3_0, f3_0, l3_0, e3_0, k3_0⟩ := Blk.facts b3_0
      obtain ⟨c3_1, f3_1, l3_1, e3_1, k3_1⟩ := Blk.facts b3_1
      have o3_0 := l3_0
      have o3_1 := l3_1
      go_wp2_with fail
      refine (R3.out _).mono ?_
      rintro e wq1 ⟨rfl, rfl⟩
      go_wp2_with fail
      refine (Q1.out _).mono ?_
      rintro e w4 ⟨rfl, hb4⟩
      have K4 : Below w.heap.size w w4 := kept_call hb4 (by (repeat' (first | (with_reducible exact K3) | (with_reducible refine Below.setCell ?_ ?_ _) | (with_reducible refine Below.alloc ?_ ?_ _) | (with_reducible refine Below.drew ?_) | (with_reducible refine below_drewN ?_ _))) <;> (first | omega | (simp <;> omega)))
      have Z4 : w.heap.size ≤ w4.heap.size := K4.size
      have b3_0' := Blk.keep (g := w2.heap.size) hb4 (by (repeat' (first | (with_reducible refine' Blk.alloc ?_ _) | (with_reducible refine' Blk.drew ?_) | (with_reducible refine' Blk.drewN ?_ _) | (with_reducible refine' Blk.put ?_ ?_) | (with_reducible refine' Blk.far ?_ ?_ _) | exact b3_0 | exact rfl)) <;> (first | omega | (simp <;> omega)))
      (try simp only [List.setIfInBounds_toArray, List.set_cons_zero, List.set_cons_succ] at b3_0')
      have b3_1' := Blk.keep (g := w2.heap.size + 1) hb4 (by (repeat' (first | (with_reducible refine' Blk.alloc ?_ _) | (with_reducible refine' Blk.drew ?_) | (with_reducible refine' Blk.drewN ?_ _) | (with_reducible refine' Blk.put ?_ ?_) | (with_reducible refine' Blk.far ?_ ?_ _) | exact b3_1 | exact rfl)) <;> (first | omega | (simp <;> omega)))
      (try simp only [List.setIfInBounds_toArray, List.set_cons_zero, List.set_cons_succ] at b3_1')
      have b4_0 := Blk.keep (g := w3.heap.size) hb4 (by (repeat' (first | ((with_reducible refine' Blk.newE ?_); first | rfl | (simp; done)) | (with_reducible refine' Blk.alloc ?_ _) | (with_reducible refine' Blk.drew ?_) | (with_reducible refine' Blk.drewN ?_ _) | (with_reducible refine' Blk.put ?_ ?_) | (with_reducible refine' Blk.far ?_ ?_ _) | exact rfl)) <;> (first | omega | (simp <;> omega)))
      (try simp only [List.setIfInBounds_toArray, List.set_cons_zero, List.set_cons_succ] at b4_0)
      clear hb4 K3
      clear b3_0 c3_0 f3_0 l3_0 e3_0 k3_0; have b3_0 := b3_0'; clear b3_0'
      clear b3_1 c3_1 f3_1 l3_1 e3_1 k3_1; have b3_1 := b3_1'; clear b3_1'
      obtain ⟨c3_0, f3_0, l3_0, e3_0, k3_0⟩ := Blk.facts b3_0
      obtain ⟨c3_1, f3_1, l3_1, e3_1, k3_1⟩ := Blk.facts b3_1
      obtain ⟨c4_0, f4_0, l4_0, e4_0, k4_0⟩ := Blk.facts b4_0
      have o4_0 := l4_0
      have b5_0 := Blk.new w4 23 #[.int .i64 gl, .int .i64 gh]
      go_upto_region 5 with fail
      go_region_held3 (fun w' => (∀ i, w'.cell? ⟨w2.heap.size, i, none⟩ = #[Value.int .i64 xl, .int .i64 xh][i]?) ∧ (∀ i, w'.cell? ⟨w2.heap.size + 1, i, none⟩ = #[Value.int .i64 yl, .int .i64 yh][i]?) ∧ (∀ i, w'.cell? ⟨w3.heap.size, i, none⟩ = #[Value.int .i64 ml, .int .i64 mh][i]?) ∧ (∀ i, w'.cell? ⟨w4.heap.size, i, none⟩ = #[Value.int .i64 gl, .int .i64 gh][i]?) ∧ Blk w' (w2.heap.size) 23 #[.int .i64 xl, .int .i64 xh] ∧ Blk w' (w2.heap.size + 1) 23 #[.int .i64 yl, .int .i64 yh] ∧ Blk w' (w3.heap.size) 23 #[.int .i64 ml, .int .i64 mh] ∧ Blk w' (w4.heap.size) 23 #[.int .i64 gl, .int .i64 gh] ∧ Below w.heap.size w w')
        ((go_split_ands; refine ⟨?_, ?_, ?_, ?_, ?_, ?_, ?_, ?_, ?_⟩; (focus (first | (with_reducible assumption) | (intro i; refine Blk.cell (t := 23) ?_ i; ((repeat' (first | (with_reducible assumption) | (with_reducible refine' Blk.keep hbq ?_) | (with_reducible refine' Blk.alloc ?_ _) | (with_reducible refine' Blk.drew ?_) | (with_reducible refine' Blk.drewN ?_ _) | (with_reducible refine' Blk.put ?_ ?_) | (with_reducible refine' Blk.far ?_ ?_ _) | exact rfl)) <;> (first | omega | (simp <;> omega)))))); (focus (first | (with_reducible assumption) | (intro i; refine Blk.cell (t := 23) ?_ i; ((repeat' (first | (with_reducible assumption) | (with_reducible refine' Blk.keep hbq ?_) | (with_reducible refine' Blk.alloc ?_ _) | (with_reducible refine' Blk.drew ?_) | (with_reducible refine' Blk.drewN ?_ _) | (with_reducible refine' Blk.put ?_ ?_) | (with_reducible refine' Blk.far ?_ ?_ _) | exact rfl)) <;> (first | omega | (simp <;> omega)))))); (focus (first | (with_reducible assumption) | (intro i; refine Blk.cell (t := 23) ?_ i; ((repeat' (first | (with_reducible assumption) | (with_reducible refine' Blk.keep hbq ?_) | (with_reducible refine' Blk.alloc ?_ _) | (with_reducible refine' Blk.drew ?_) | (with_reducible refine' Blk.drewN ?_ _) | (with_reducible refine' Blk.put ?_ ?_) | (with_reducible refine' Blk.far ?_ ?_ _) | exact rfl)) <;> (first | omega | (simp <;> omega)))))); (focus (first | (with_reducible assumption) | (intro i; refine Blk.cell (t := 23) ?_ i; ((repeat' (first | (with_reducible assumption) | (with_reducible refine' Blk.keep hbq ?_) | (with_reducible refine' Blk.alloc ?_ _) | (with_reducible refine' Blk.drew ?_) | (with_reducible refine' Blk.drewN ?_ _) | (with_reducible refine' Blk.put ?_ ?_) | (with_reducible refine' Blk.far ?_ ?_ _) | exact rfl)) <;> (first | omega | (simp <;> omega)))))); (focus (first | (with_reducible assumption) | ((repeat' (first | (with_reducible assumption) | (with_reducible refine' Blk.keep hbq ?_) | (with_reducible refine' Blk.alloc ?_ _) | (with_reducible refine' Blk.drew ?_) | (with_reducible refine' Blk.drewN ?_ _) | (with_reducible refine' Blk.put ?_ ?_) | (with_reducible refine' Blk.far ?_ ?_ _) | exact rfl)) <;> (first | omega | (simp <;> omega))))); (focus (first | (with_reducible assumption) | ((repeat' (first | (with_reducible assumption) | (with_reducible refine' Blk.keep hbq ?_) | (with_reducible refine' Blk.alloc ?_ _) | (with_reducible refine' Blk.drew ?_) | (with_reducible refine' Blk.drewN ?_ _) | (with_reducible refine' Blk.put ?_ ?_) | (with_reducible refine' Blk.far ?_ ?_ _) | exact rfl)) <;> (first | omega | (simp <;> omega))))); (focus (first | (with_reducible assumption) | ((repeat' (first | (with_reducible assumption) | (with_reducible refine' Blk.keep hbq ?_) | (with_reducible refine' Blk.alloc ?_ _) | (with_reducible refine' Blk.drew ?_) | (with_reducible refine' Blk.drewN ?_ _) | (with_reducible refine' Blk.put ?_ ?_) | (with_reducible refine' Blk.far ?_ ?_ _) | exact rfl)) <;> (first | omega | (simp <;> omega))))); (focus (first | (with_reducible assumption) | ((repeat' (first | (with_reducible assumption) | (with_reducible refine' Blk.keep hbq ?_) | (with_reducible refine' Blk.alloc ?_ _) | (with_reducible refine' Blk.drew ?_) | (with_reducible refine' Blk.drewN ?_ _) | (with_reducible refine' Blk.put ?_ ?_) | (with_reducible refine' Blk.far ?_ ?_ _) | exact rfl)) <;> (first | omega | (simp <;> omega))))); (focus (first | (with_reducible assumption) | ((repeat' (first | (with_reducible assumption) | (with_reducible refine kept_call hbq ?_) | (with_reducible refine Below.setCell ?_ ?_ _) | (with_reducible refine Below.alloc ?_ ?_ _) | (with_reducible refine Below.drew ?_))) <;> (first | omega | (simp <;> omega)))))))
        (first | (go_at_call 42; refine (Q2.out _).mono ?_; rintro e wq ⟨rfl, hbq⟩) | (go_at_call 44; refine (Q3.out _).mono ?_; rintro e wq ⟨rfl, hbq⟩) | (go_at_call 43; refine (Q4.out _).mono ?_; rintro e wq ⟨rfl, hbq⟩))
      go_split_ands
      have bX : Blk wq (w2.heap.size) 23 #[.int .i64 xl, .int .i64 xh] := by with_reducible assumption
      have bY : Blk wq (w2.heap.size + 1) 23 #[.int .i64 yl, .int .i64 yh] := by with_reducible assumption
      have bM : Blk wq (w3.heap.size) 23 #[.int .i64 ml, .int .i64 mh] := by with_reducible assumption
      have bG : Blk wq (w4.heap.size) 23 #[.int .i64 gl, .int .i64 gh] := by with_reducible assumption
      have KQ : Below w.heap.size w wq := by with_reducible assumption
      have ZQ := KQ.size
      obtain ⟨cX, fX, lX, eX, kX⟩ := Blk.facts bX
      obtain ⟨cY, fY, lY, eY, kY⟩ := Blk.facts bY
      obtain ⟨cM, fM, lM, eM, kM⟩ := Blk.facts bM
      go_wp2_with fail
      refine (S2.out _).mono ?_
      rintro e w11 ⟨rfl, hb11⟩
      have K11 : Below w.heap.size w w11 := kept_call hb11 (by (repeat' (first | (with_reducible exact KQ) | (with_reducible refine Below.setCell ?_ ?_ _) | (with_reducible refine Below.alloc ?_ ?_ _) | (with_reducible refine Below.drew ?_) | (with_reducible refine below_drewN ?_ _))) <;> (first | omega | (simp <;> omega)))
      have Z11 : w.heap.size ≤ w11.heap.size := K11.size
      have bX' := Blk.keep (g := w2.heap.size) hb11 (by (repeat' (first | (with_reducible refine' Blk.alloc ?_ _) | (with_reducible refine' Blk.drew ?_) | (with_reducible refine' Blk.drewN ?_ _) | (with_reducible refine' Blk.put ?_ ?_) | (with_reducible refine' Blk.far ?_ ?_ _) | exact bX | exact rfl)) <;> (first | omega | (simp <;> omega)))
      (try simp only [List.setIfInBounds_toArray, List.set_cons_zero, List.set_cons_succ] at bX')
      have bY' := Blk.keep (g := w2.heap.size + 1) hb11 (by (repeat' (first | (with_reducible refine' Blk.alloc ?_ _) | (with_reducible refine' Blk.drew ?_) | (with_reducible refine' Blk.drewN ?_ _) | (with_reducible refine' Blk.put ?_ ?_) | (with_reducible refine' Blk.far ?_ ?_ _) | exact bY | exact rfl)) <;> (first | omega | (simp <;> omega)))
      (try simp only [List.setIfInBounds_toArray, List.set_cons_zero, List.set_cons_succ] at bY')
      have bM' := Blk.keep (g := w3.heap.size) hb11 (by (repeat' (first | (with_reducible refine' Blk.alloc ?_ _) | (with_reducible refine' Blk.drew ?_) | (with_reducible refine' Blk.drewN ?_ _) | (with_reducible refine' Blk.put ?_ ?_) | (with_reducible refine' Blk.far ?_ ?_ _) | exact bM | exact rfl)) <;> (first | omega | (simp <;> omega)))
      (try simp only [List.setIfInBounds_toArray, List.set_cons_zero, List.set_cons_succ] at bM')
      clear hb11 KQ
      clear bX cX fX lX eX kX; have bX := bX'; clear bX'
      clear bY cY fY lY eY kY; have bY := bY'; clear bY'
      clear bM cM fM lM eM kM; have bM := bM'; clear bM'
      obtain ⟨cX, fX, lX, eX, kX⟩ := Blk.facts bX
      obtain ⟨cY, fY, lY, eY, kY⟩ := Blk.facts bY
      obtain ⟨cM, fM, lM, eM, kM⟩ := Blk.facts bM
      go_wp2_with fail
      refine (S5.out _).mono ?_
      rintro e w12 ⟨rfl, hb12⟩
      have K12 : Below w.heap.size w w12 := kept_call hb12 (by (repeat' (first | (with_reducible exact K11) | (with_reducible refine Below.setCell ?_ ?_ _) | (with_reducible refine Below.alloc ?_ ?_ _) | (with_reducible refine Below.drew ?_) | (with_reducible refine below_drewN ?_ _))) <;> (first | omega | (simp <;> omega)))
      have Z12 : w.heap.size ≤ w12.heap.size := K12.size
      have bX' := Blk.keep (g := w2.heap.size) hb12 (by (repeat' (first | (with_reducible refine' Blk.alloc ?_ _) | (with_reducible refine' Blk.drew ?_) | (with_reducible refine' Blk.drewN ?_ _) | (with_reducible refine' Blk.put ?_ ?_) | (with_reducible refine' Blk.far ?_ ?_ _) | exact bX | exact rfl)) <;> (first | omega | (simp <;> omega)))
      (try simp only [List.setIfInBounds_toArray, List.set_cons_zero, List.set_cons_succ] at bX')
      have bY' := Blk.keep (g := w2.heap.size + 1) hb12 (by (repeat' (first | (with_reducible refine' Blk.alloc ?_ _) | (with_reducible refine' Blk.drew ?_) | (with_reducible refine' Blk.drewN ?_ _) | (with_reducible refine' Blk.put ?_ ?_) | (with_reducible refine' Blk.far ?_ ?_ _) | exact bY | exact rfl)) <;> (first | omega | (simp <;> omega)))
      (try simp only [List.setIfInBounds_toArray, List.set_cons_zero, List.set_cons_succ] at bY')
      have bM' := Blk.keep (g := w3.heap.size) hb12 (by (repeat' (first | (with_reducible refine' Blk.alloc ?_ _) | (with_reducible refine' Blk.drew ?_) | (with_reducible refine' Blk.drewN ?_ _) | (with_reducible refine' Blk.put ?_ ?_) | (with_reducible refine' Blk.far ?_ ?_ _) | exact bM | exact rfl)) <;> (first | omega | (simp <;> omega)))
      (try simp only [List.setIfInBounds_toArray, List.set_cons_zero, List.set_cons_succ] at bM')
      clear hb12 K11
      clear bX cX fX lX eX kX; have bX := bX'; clear bX'
      clear bY cY fY lY eY kY; have bY := bY'; clear bY'
      clear bM cM fM lM eM kM; have bM := bM'; clear bM'
      obtain ⟨cX, fX, lX, eX, kX⟩ := Blk.facts bX
      obtain ⟨cY, fY, lY, eY, kY⟩ := Blk.facts bY
      obtain ⟨cM, fM, lM, eM, kM⟩ := Blk.facts bM
      go_wp2_with fail
      refine (S6.out _).mono ?_
      rintro e w13 ⟨rfl, hb13⟩
      have K13 : Below w.heap.size w w13 := kept_call hb13 (by (repeat' (first | (with_reducible exact K12) | (with_reducible refine Below.setCell ?_ ?_ _) | (with_reducible refine Below.alloc ?_ ?_ _) | (with_reducible refine Below.drew ?_) | (with_reducible refine below_drewN ?_ _))) <;> (first | omega | (simp <;> omega)))
      have Z13 : w.heap.size ≤ w13.heap.size := K13.size
      have bX' := Blk.keep (g := w2.heap.size) hb13 (by (repeat' (first | (with_reducible refine' Blk.alloc ?_ _) | (with_reducible refine' Blk.drew ?_) | (with_reducible refine' Blk.drewN ?_ _) | (with_reducible refine' Blk.put ?_ ?_) | (with_reducible refine' Blk.far ?_ ?_ _) | exact bX | exact rfl)) <;> (first | omega | (simp <;> omega)))
      (try simp only [List.setIfInBounds_toArray, List.set_cons_zero, List.set_cons_succ] at bX')
      have bY' := Blk.keep (g := w2.heap.size + 1) hb13 (by (repeat' (first | (with_reducible refine' Blk.alloc ?_ _) | (with_reducible refine' Blk.drew ?_) | (with_reducible refine' Blk.drewN ?_ _) | (with_reducible refine' Blk.put ?_ ?_) | (with_reducible refine' Blk.far ?_ ?_ _) | exact bY | exact rfl)) <;> (first | omega | (simp <;> omega)))
      (try simp only [List.setIfInBounds_toArray, List.set_cons_zero, List.set_cons_succ] at bY')
      have bM' := Blk.keep (g := w3.heap.size) hb13 (by (repeat' (first | (with_reducible refine' Blk.alloc ?_ _) | (with_reducible refine' Blk.drew ?_) | (with_reducible refine' Blk.drewN ?_ _) | (with_reducible refine' Blk.put ?_ ?_) | (with_reducible refine' Blk.far ?_ ?_ _) | exact bM | exact rfl)) <;> (first | omega | (simp <;> omega)))
      (try simp only [List.setIfInBounds_toArray, List.set_cons_zero, List.set_cons_succ] at bM')
      clear hb13 K12
      clear bX cX fX lX eX kX; have bX := bX'; clear bX'
      clear bY cY fY lY eY kY; have bY := bY'; clear bY'
      clear bM cM fM lM eM kM; have bM := bM'; clear bM'
      obtain ⟨cX, fX, lX, eX, kX⟩ := Blk.facts bX
      obtain ⟨cY, fY, lY, eY, kY⟩ := Blk.facts bY
      obtain ⟨cM, fM, lM, eM, kM⟩ := Blk.facts bM
      go_wp2_with fail
      refine (known11_any _).mono ?_
      rintro e w14 ⟨rfl, hb14⟩
      have K14 : Below w.heap.size w w14 := kept_call hb14 (by (repeat' (first | (with_reducible exact K13) | (with_reducible refine Below.setCell ?_ ?_ _) | (with_reducible refine Below.alloc ?_ ?_ _) | (with_reducible refine Below.drew ?_) | (with_reducible refine below_drewN ?_ _))) <;> (first | omega | (simp <;> omega)))
      have Z14 : w.heap.size ≤ w14.heap.size := K14.size
      have bX' := Blk.keep (g := w2.heap.size) hb14 (by (repeat' (first | (with_reducible refine' Blk.alloc ?_ _) | (with_reducible refine' Blk.drew ?_) | (with_reducible refine' Blk.drewN ?_ _) | (with_reducible refine' Blk.put ?_ ?_) | (with_reducible refine' Blk.far ?_ ?_ _) | exact bX | exact rfl)) <;> (first | omega | (simp <;> omega)))
      (try simp only [List.setIfInBounds_toArray, List.set_cons_zero, List.set_cons_succ] at bX')
      have bY' := Blk.keep (g := w2.heap.size + 1) hb14 (by (repeat' (first | (with_reducible refine' Blk.alloc ?_ _) | (with_reducible refine' Blk.drew ?_) | (with_reducible refine' Blk.drewN ?_ _) | (with_reducible refine' Blk.put ?_ ?_) | (with_reducible refine' Blk.far ?_ ?_ _) | exact bY | exact rfl)) <;> (first | omega | (simp <;> omega)))
      (try simp only [List.setIfInBounds_toArray, List.set_cons_zero, List.set_cons_succ] at bY')
      have bM' := Blk.keep (g := w3.heap.size) hb14 (by (repeat' (first | (with_reducible refine' Blk.alloc ?_ _) | (with_reducible refine' Blk.drew ?_) | (with_reducible refine' Blk.drewN ?_ _) | (with_reducible refine' Blk.put ?_ ?_) | (with_reducible refine' Blk.far ?_ ?_ _) | exact bM | exact rfl)) <;> (first | omega | (simp <;> omega)))
      (try simp only [List.setIfInBounds_toArray, List.set_cons_zero, List.set_cons_succ] at bM')
      clear hb14 K13
      clear bX cX fX lX eX kX; have bX := bX'; clear bX'
      clear bY cY fY lY eY kY; have bY := bY'; clear bY'
      clear bM cM fM lM eM kM; have bM := bM'; clear bM'
      obtain ⟨cX, fX, lX, eX, kX⟩ := Blk.facts bX
      obtain ⟨cY, fY, lY, eY, kY⟩ := Blk.facts bY
      obtain ⟨cM, fM, lM, eM, kM⟩ := Blk.facts bM
      go_wp2_with fail
      refine (S2.out _).mono ?_
      rintro e w15 ⟨rfl, hb15⟩
      have K15 : Below w.heap.size w w15 := kept_call hb15 (by (repeat' (first | (with_reducible exact K14) | (with_reducible refine Below.setCell ?_ ?_ _) | (with_reducible refine Below.alloc ?_ ?_ _) | (with_reducible refine Below.drew ?_) | (with_reducible refine below_drewN ?_ _))) <;> (first | omega | (simp <;> omega)))
      have Z15 : w.heap.size ≤ w15.heap.size := K15.size
      have bX' := Blk.keep (g := w2.heap.size) hb15 (by (repeat' (first | (with_reducible refine' Blk.alloc ?_ _) | (with_reducible refine' Blk.drew ?_) | (with_reducible refine' Blk.drewN ?_ _) | (with_reducible refine' Blk.put ?_ ?_) | (with_reducible refine' Blk.far ?_ ?_ _) | exact bX | exact rfl)) <;> (first | omega | (simp <;> omega)))
      (try simp only [List.setIfInBounds_toArray, List.set_cons_zero, List.set_cons_succ] at bX')
      have bY' := Blk.keep (g := w2.heap.size + 1) hb15 (by (repeat' (first | (with_reducible refine' Blk.alloc ?_ _) | (with_reducible refine' Blk.drew ?_) | (with_reducible refine' Blk.drewN ?_ _) | (with_reducible refine' Blk.put ?_ ?_) | (with_reducible refine' Blk.far ?_ ?_ _) | exact bY | exact rfl)) <;> (first | omega | (simp <;> omega)))
      (try simp only [List.setIfInBounds_toArray, List.set_cons_zero, List.set_cons_succ] at bY')
      have bM' := Blk.keep (g := w3.heap.size) hb15 (by (repeat' (first | (with_reducible refine' Blk.alloc ?_ _) | (with_reducible refine' Blk.drew ?_) | (with_reducible refine' Blk.drewN ?_ _) | (with_reducible refine' Blk.put ?_ ?_) | (with_reducible refine' Blk.far ?_ ?_ _) | exact bM | exact rfl)) <;> (first | omega | (simp <;> omega)))
      (try simp only [List.setIfInBounds_toArray, List.set_cons_zero, List.set_cons_succ] at bM')
      clear hb15 K14
      clear bX cX fX lX eX kX; have bX := bX'; clear bX'
      clear bY cY fY lY eY kY; have bY := bY'; clear bY'
      clear bM cM fM lM eM kM; have bM := bM'; clear bM'
      obtain ⟨cX, fX, lX, eX, kX⟩ := Blk.facts bX
      obtain ⟨cY, fY, lY, eY, kY⟩ := Blk.facts bY
      obtain ⟨cM, fM, lM, eM, kM⟩ := Blk.facts bM
      go_wp2
      go_ret
      exact ⟨by simp, by (repeat' (first | (with_reducible exact K15) | (with_reducible refine Below.setCell ?_ ?_ _) | (with_reducible refine Below.alloc ?_ ?_ _) | (with_reducible refine Below.drew ?_) | (with_reducible refine below_drewN ?_ _))) <;> (first | omega | (simp <;> omega))⟩
theorem intervalOrder_walk (a : Int) (_ : IntIn a) (b : Int) (_ : IntIn b) (c : Int) (_ : IntIn c) (d : Int) (_ : IntIn d) (e : Int) (_ : IntIn e) (w : World) :
    Walked 9 #[.int .i64 a, .int .i64 b, .int .i64 c, .int .i64 d, .int .i64 e] w := intervalOrder_core a b c d e w
end Go.Proofs.Yteodoehhkhacoaa
