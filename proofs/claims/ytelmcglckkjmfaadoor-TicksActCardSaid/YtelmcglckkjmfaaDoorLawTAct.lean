/- The walk of the law TicksAct. -/
import Derived.Test.YtelmcglckkjmfaaDoorRParseP
import Derived.Test.YtelmcglckkjmfaaDoorWorld
namespace Go.Proofs.YtelmcglckkjmfaaDoor
open Go.RowKit
set_option linter.unusedSimpArgs false
set_option linter.unusedVariables false

theorem divV_form (a b : Int) (up : Bool) : ∃ x e, divV a b up = .tuple #[.int .i64 x, .int .i64 e] := by 
  unfold divV
  split
  · exact ⟨_, _, rfl⟩
  · split <;> exact ⟨_, _, rfl⟩
theorem sclV_form (a b : Int) (up : Bool) : ∃ x e, sclV a b up = .tuple #[.int .i64 x, .int .i64 e] := by unfold sclV; split <;> exact ⟨_, _, rfl⟩
theorem uniV_form (a : Int) (up : Bool) : ∃ x e, uniV a up = .tuple #[.int .u32 x, .int .i64 e] := by unfold uniV; split <;> exact ⟨_, _, rfl⟩
theorem parV_form (o : Option Int) : ∃ x e, parV o = .tuple #[.int .i64 x, .bool e] := by cases o <;> exact ⟨_, _, rfl⟩
theorem wire_both (a : Int) : ∃ y e, (∀ w, Calls Tryd.prog 13 #[.int .i64 a] w fun x w' => x = .returned (.tuple #[.int .u64 y, .int .i64 e]) ∧ w = w') ∧ (∀ w, Calls Tryd.prog 26 #[.int .i64 a] w fun x w' => x = .returned (.tuple #[.int .u64 y, .int .i64 e]) ∧ w = w') := by
  rcases h : vT a
  · exact ⟨_, _, wire_no a h, rwire_no a h⟩
  · exact ⟨_, _, wire_any a h, rwire_any a h⟩

set_option maxRecDepth 100000 in
set_option maxHeartbeats 8000000 in
theorem ticksAct_core (a b : Int) (ha : IntIn a) (hb : IntIn b) (up : Bool) (x : Int) (x0 : 0 ≤ x) (x1 : x < 18446744073709551616) (y : Int) (y0 : 0 ≤ y) (y1 : y < 4294967296) (s : ByteArray) (w : World) (hw : Pow10 w) (hm : MaxLenAt w) :
    Calls Tryd.prog 9 #[.int .i64 a, .int .i64 b, .bool up, .int .u64 x, .int .u32 y, .string s] w (RB w (.bool true)) := by
  have HW := Lib.hid hw; have HM := Lib.hid hm; clear hw hm
  by_cases hs : 60 < s.size
  · skip
    go_enter Tryd.func9, Tryd.ntmps9
    go_wp2_with fail
    refine (known10_any _ HW.out).mono ?_
    rintro e wk ⟨rfl, hbk⟩
    go_wp2
    go_ret
    exact ⟨rfl, hbk⟩
  · have hs' : decide ((s.size : Int) > 60) = false := decide_eq_false (by omega)
    have hsl : s.size ≤ 1000 := by omega
    clear hs
    obtain ⟨ha0, ha1⟩ := ha
    obtain ⟨hb0, hb1⟩ := hb
    have d1 := divide_any a b up hb1
    have d2 := rdivide_any a b up hb1
    obtain ⟨v1, e1, q⟩ := divV_form a b up
    rw [q] at d1 d2
    clear q
    have s1 := scale_any a b up
    have s2 := rscale_any a b up
    obtain ⟨v2, e2, q⟩ := sclV_form a b up
    rw [q] at s1 s2
    clear q
    have u1 := units_any a up ha1
    have u2 := runits_any a up ha0 ha1
    obtain ⟨v3, e3, q⟩ := uniV_form a up
    rw [q] at u1 u2
    clear q
    obtain ⟨v4, e4, w1, w2⟩ := wire_both a
    have p1 := parse_any s hsl
    have p2 := rparse_any s hsl
    rw [par_same] at p2
    obtain ⟨v5, e5, q⟩ := parV_form (parT s.data.toList)
    rw [q] at p1 p2
    clear q
    have t1 := tvalid_any a
    have t2 := rvalid_any a
    have g1 := second_any a ha0 ha1
    have g2 := rsecond_any a ha0 ha1
    have h1 := part_any a
    have h2 := rpart_any a ha0 ha1
    have i1 := down_any x x0 x1
    have i2 := rdown_any x x0 x1
    have j1 := up_any x x0 x1
    have j2 := rup_any x x0 x1
    have k1 := delay_any y y0 y1
    have k2 := rdelay_any y y0 y1
    generalize a / 1048576 = m1 at *
    generalize a % 1048576 = m2 at *
    generalize x / 4096 = m3 at *
    generalize upN x = m4 at *
    generalize y * 16 = m5 at *
    have f1 := formatF a ha0 ha1
    have f2 := rformat_any a
    generalize fmtS a = fa at *
    have D1_ := Lib.hid d1; clear d1
    have D2_ := Lib.hid d2; clear d2
    have S1_ := Lib.hid s1; clear s1
    have S2_ := Lib.hid s2; clear s2
    have U1_ := Lib.hid u1; clear u1
    have U2_ := Lib.hid u2; clear u2
    have W1_ := Lib.hid w1; clear w1
    have W2_ := Lib.hid w2; clear w2
    have P1_ := Lib.hid p1; clear p1
    have P2_ := Lib.hid p2; clear p2
    have G1_ := Lib.hid g1; clear g1
    have G2_ := Lib.hid g2; clear g2
    have H1_ := Lib.hid h1; clear h1
    have H2_ := Lib.hid h2; clear h2
    have I1_ := Lib.hid i1; clear i1
    have I2_ := Lib.hid i2; clear i2
    have J1_ := Lib.hid j1; clear j1
    have J2_ := Lib.hid j2; clear j2
    have K1_ := Lib.hid k1; clear k1
    have K2_ := Lib.hid k2; clear k2
    rcases hv : vT a
    · rw [hv] at t1 t2
      have T1_ := Lib.hid t1; have T2_ := Lib.hid t2; clear t1 t2 f1 f2 hv
      go_enter Tryd.func9, Tryd.ntmps9
      go_wp2_with fail
      refine (D1_.out _).mono ?_
      rintro e wq1 ⟨rfl, nq1, rfl⟩
      go_wp2_with fail
      refine (D2_.out _).mono ?_
      rintro e wq2 ⟨rfl, rfl⟩
      go_wp2_with fail
      refine (S1_.out _).mono ?_
      rintro e wq3 ⟨rfl, nq3, rfl⟩
      go_wp2_with fail
      refine (S2_.out _).mono ?_
      rintro e wq4 ⟨rfl, rfl⟩
      go_wp2_with fail
      refine (W1_.out _).mono ?_
      rintro e wq5 ⟨rfl, rfl⟩
      go_wp2_with fail
      refine (W2_.out _).mono ?_
      rintro e wq6 ⟨rfl, rfl⟩
      go_wp2_with fail
      refine (U1_.out _).mono ?_
      rintro e wq7 ⟨rfl, nq7, rfl⟩
      go_wp2_with fail
      refine (U2_.out _).mono ?_
      rintro e wq8 ⟨rfl, rfl⟩
      go_wp2_with fail
      refine (P1_.out _ (HW.out.below (by (repeat' (first | (with_reducible exact Below.refl _ _) | (with_reducible refine below_drewN ?_ _))))) (HM.out.below (by (repeat' (first | (with_reducible exact Below.refl _ _) | (with_reducible refine below_drewN ?_ _)))))).mono ?_
      rintro e w1 ⟨rfl, hb1⟩
      have K1 : Below w.heap.size w w1 := kept_call hb1 (by (repeat' (first | (with_reducible exact Below.refl _ _) | (with_reducible refine below_drewN ?_ _))))
      go_wp2_with fail
      refine (P2_.out _).mono ?_
      rintro e w2 ⟨rfl, hb2⟩
      have K2 : Below w.heap.size w w2 := kept_call hb2 K1
      go_wp2_with fail
      refine (known10_any _ (HW.out.below K2)).mono ?_
      rintro e w3 ⟨rfl, hb3⟩
      have K3 : Below w.heap.size w w3 := kept_call hb3 K2
      clear hb1 hb2 hb3 K1 K2
      go_wp2_with fail
      refine (T1_.out _).mono ?_
      rintro e wq9 ⟨rfl, rfl⟩
      go_wp2_with fail
      refine (T2_.out _).mono ?_
      rintro e wq10 ⟨rfl, rfl⟩
      go_wp2_with fail
      refine (G1_.out _).mono ?_
      rintro e wq11 ⟨rfl, rfl⟩
      go_wp2_with fail
      refine (G2_.out _).mono ?_
      rintro e wq12 ⟨rfl, rfl⟩
      go_wp2_with fail
      refine (H1_.out _).mono ?_
      rintro e wq13 ⟨rfl, rfl⟩
      go_wp2_with fail
      refine (H2_.out _).mono ?_
      rintro e wq14 ⟨rfl, rfl⟩
      go_wp2_with fail
      refine (I1_.out _).mono ?_
      rintro e wq15 ⟨rfl, rfl⟩
      go_wp2_with fail
      refine (I2_.out _).mono ?_
      rintro e wq16 ⟨rfl, rfl⟩
      go_wp2_with fail
      refine (J1_.out _).mono ?_
      rintro e wq17 ⟨rfl, rfl⟩
      go_wp2_with fail
      refine (J2_.out _).mono ?_
      rintro e wq18 ⟨rfl, rfl⟩
      go_wp2_with fail
      refine (K1_.out _).mono ?_
      rintro e wq19 ⟨rfl, rfl⟩
      go_wp2_with fail
      refine (K2_.out _).mono ?_
      rintro e wq20 ⟨rfl, rfl⟩
      go_wp2_with fail
      refine (T2_.out _).mono ?_
      rintro e wq21 ⟨rfl, rfl⟩
      go_wp2
      go_ret
      exact ⟨by simp, K3⟩
    · have f3 := f2 hv
      rw [hv] at t1 t2
      have T1_ := Lib.hid t1; have T2_ := Lib.hid t2; have F1_ := Lib.hid f1; have F2_ := Lib.hid f3; clear t1 t2 f1 f2 f3 hv
      go_enter Tryd.func9, Tryd.ntmps9
      go_wp2_with fail
      refine (D1_.out _).mono ?_
      rintro e wq1 ⟨rfl, nq1, rfl⟩
      go_wp2_with fail
      refine (D2_.out _).mono ?_
      rintro e wq2 ⟨rfl, rfl⟩
      go_wp2_with fail
      refine (S1_.out _).mono ?_
      rintro e wq3 ⟨rfl, nq3, rfl⟩
      go_wp2_with fail
      refine (S2_.out _).mono ?_
      rintro e wq4 ⟨rfl, rfl⟩
      go_wp2_with fail
      refine (W1_.out _).mono ?_
      rintro e wq5 ⟨rfl, rfl⟩
      go_wp2_with fail
      refine (W2_.out _).mono ?_
      rintro e wq6 ⟨rfl, rfl⟩
      go_wp2_with fail
      refine (U1_.out _).mono ?_
      rintro e wq7 ⟨rfl, nq7, rfl⟩
      go_wp2_with fail
      refine (U2_.out _).mono ?_
      rintro e wq8 ⟨rfl, rfl⟩
      go_wp2_with fail
      refine (P1_.out _ (HW.out.below (by (repeat' (first | (with_reducible exact Below.refl _ _) | (with_reducible refine below_drewN ?_ _))))) (HM.out.below (by (repeat' (first | (with_reducible exact Below.refl _ _) | (with_reducible refine below_drewN ?_ _)))))).mono ?_
      rintro e w1 ⟨rfl, hb1⟩
      have K1 : Below w.heap.size w w1 := kept_call hb1 (by (repeat' (first | (with_reducible exact Below.refl _ _) | (with_reducible refine below_drewN ?_ _))))
      go_wp2_with fail
      refine (P2_.out _).mono ?_
      rintro e w2 ⟨rfl, hb2⟩
      have K2 : Below w.heap.size w w2 := kept_call hb2 K1
      go_wp2_with fail
      refine (known10_any _ (HW.out.below K2)).mono ?_
      rintro e w3 ⟨rfl, hb3⟩
      have K3 : Below w.heap.size w w3 := kept_call hb3 K2
      clear hb1 hb2 hb3 K1 K2
      go_wp2_with fail
      refine (T1_.out _).mono ?_
      rintro e wq9 ⟨rfl, rfl⟩
      go_wp2_with fail
      refine (T2_.out _).mono ?_
      rintro e wq10 ⟨rfl, rfl⟩
      go_wp2_with fail
      refine (G1_.out _).mono ?_
      rintro e wq11 ⟨rfl, rfl⟩
      go_wp2_with fail
      refine (G2_.out _).mono ?_
      rintro e wq12 ⟨rfl, rfl⟩
      go_wp2_with fail
      refine (H1_.out _).mono ?_
      rintro e wq13 ⟨rfl, rfl⟩
      go_wp2_with fail
      refine (H2_.out _).mono ?_
      rintro e wq14 ⟨rfl, rfl⟩
      go_wp2_with fail
      refine (I1_.out _).mono ?_
      rintro e wq15 ⟨rfl, rfl⟩
      go_wp2_with fail
      refine (I2_.out _).mono ?_
      rintro e wq16 ⟨rfl, rfl⟩
      go_wp2_with fail
      refine (J1_.out _).mono ?_
      rintro e wq17 ⟨rfl, rfl⟩
      go_wp2_with fail
      refine (J2_.out _).mono ?_
      rintro e wq18 ⟨rfl, rfl⟩
      go_wp2_with fail
      refine (K1_.out _).mono ?_
      rintro e wq19 ⟨rfl, rfl⟩
      go_wp2_with fail
      refine (K2_.out _).mono ?_
      rintro e wq20 ⟨rfl, rfl⟩
      go_wp2_with fail
      refine (T2_.out _).mono ?_
      rintro e wq21 ⟨rfl, rfl⟩
      go_wp2_with fail
      refine (F1_.out _ (HW.out.below K3)).mono ?_
      rintro e w4 ⟨rfl, hb4⟩
      have K4 : Below w.heap.size w w4 := kept_call hb4 K3
      go_wp2_with fail
      refine (F2_.out _).mono ?_
      rintro e w5 ⟨rfl, hb5⟩
      have K5 : Below w.heap.size w w5 := kept_call hb5 K4
      go_wp2
      go_ret
      exact ⟨by simp, K5⟩
theorem ticksAct_walk (a : Int) (ha : IntIn a) (b : Int) (hb : IntIn b) (up : Bool) (x : Int) (x0 : 0 ≤ x) (x1 : x < 18446744073709551616) (y : Int) (y0 : 0 ≤ y) (y1 : y < 4294967296) (s : ByteArray) (w : World) (hw : Pow10 w) (hm : MaxLenAt w) :
    Walked 9 #[.int .i64 a, .int .i64 b, .bool up, .int .u64 x, .int .u32 y, .string s] w := ticksAct_core a b ha hb up x x0 x1 y y0 y1 s w hw hm
end Go.Proofs.YtelmcglckkjmfaaDoor
