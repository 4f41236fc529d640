/- The reference's block. -/
import Derived.BigQuiet
import Derived.Deep.QuietTactic
import Derived.Test.YtiinmhfolfgobaaGreatDoorJ9
import Derived.Test.YtiinmhfolfgobaaGreatDoorJ4
import Derived.Test.YtiinmhfolfgobaaGreatDoorJ35
set_option linter.unusedVariables false
set_option linter.unusedSimpArgs false
namespace Go.Proofs.YtiinmhfolfgobaaGreatDoor
open Go.RowKit
set_option maxHeartbeats 160000000
set_option maxRecDepth 100000
def RdRel (w : World) (g : Nat) (ks W : List Int) (hs : St8) (G : Nat) (a b c d e f gg h i : Value) (wr : World) : Prop := ∃ (q : Nat) (s : St8), q ≤ 64 ∧ G = 64 - q ∧ i = .int .i64 q ∧ s = rndS ks W hs q ∧ a = .int .u32 s.a ∧ b = .int .u32 s.b ∧ c = .int .u32 s.c ∧ d = .int .u32 s.d ∧ e = .int .u32 s.e ∧ f = .int .u32 s.f ∧ gg = .int .u32 s.g ∧ h = .int .u32 s.h ∧ WdAt 249 wr g W ∧ Below w.heap.size w wr
theorem rblock_any (gh oh gk ok_ gb ob ch ck cb : Nat) (hs : St8) (ks bs : List Int) (kl : ks.length = 64) (bl : bs.length = 64) (hi : hs.ok) (ki : InW ks) (bi : ∀ x ∈ bs, 0 ≤ x ∧ x < 256) (w : World) (h : Wd8 w gh oh hs) (k : WdSl w gk ok_ ks) (b : BySl w gb ob bs) :
  Calls Tryz.prog 218 #[.slice (some ⟨gh, oh, none⟩) 8 ch, .slice (some ⟨gk, ok_, none⟩) 64 ck, .slice (some ⟨gb, ob, none⟩) 64 cb] w (fun e w' => ∃ g, e = .returned (.slice (some ⟨g, 0, none⟩) 8 8) ∧ w.heap.size ≤ g ∧ Blk w' g 211 (blkS ks bs hs).cells ∧ Below w.heap.size w w') := by
 have HK := Yh (show Kp w w from Below.refl _ _)
 have HH := Yh (h)
 have HKS := Yh (k)
 have HB := Yh (b)
 have HH0 := HH; have HK0 := HKS; have HB0 := HB
 have hgh := h.1; have hgk := k.1; have hgb := b.1
 clear h k b
 go_enter Tryz.func218, Tryz.ntmps218
 go_upto_region 1 with fail
 go_cut [7] (fun v wx => v = .pointer (some ⟨w.heap.size, 0, none⟩) ∧ WdAt 249 wx w.heap.size (List.replicate 64 0) ∧ Below w.heap.size w wx)
 case first =>
  go_wp2_with fail
  go_meet
  exact ⟨rfl, WdAt.new w 64, bl0⟩
 case rest =>
  obtain ⟨rfl, hw, KC⟩ := hcut
  have ZC := KC.size
  have HW := Yh hw; clear hw
  go_wp2
  go_loopg [8] 16 (fun G i wr => RbRel w w.heap.size bs G i wr)
  case atStart => exact ⟨0, Yo, Yo, rfl, HW.out, KC⟩
  case round =>
   obtain ⟨q, hq, rfl, rfl, hw, KR⟩ := hrel
   have ZR := KR.size
   clear HW HK HH HKS HB KC ZC
   have HK := Yh (show Kp w wr from KR); have HH := Yh (HH0.out.below KR); have HKS := Yh (HK0.out.below KR); have HB := Yh (HB0.out.below KR); have HW := Yh hw
   have hl7 := (hw.cells 0 (by rw [(mS_ok bs q).1]; omega)).1
   have hml := (mS_ok bs q).1
   clear hw KR
   by_cases hlt : q < 16
   ·as_aux_lemma =>
    have gq : decide ((q : Int) < 16) = true := Y2
    have gqn : decide (q < 16) = true := decide_eq_true hlt
    have wq : IntKind.i64.wrap ((q : Int) + 1) = ((q + 1 : Nat) : Int) := Y4
    obtain ⟨r0, hr0⟩ : ∃ r, 4 * q = r := ⟨_, rfl⟩
    obtain ⟨r1, hr1⟩ : ∃ r, 4 * q + 1 = r := ⟨_, rfl⟩
    obtain ⟨r2, hr2⟩ : ∃ r, 4 * q + 2 = r := ⟨_, rfl⟩
    obtain ⟨r3, hr3⟩ : ∃ r, 4 * q + 3 = r := ⟨_, rfl⟩
    have w4 : IntKind.i64.wrap (4 * (q : Int)) = (r0 : Int) := Y4
    have w41 : IntKind.i64.wrap ((r0 : Int) + 1) = (r1 : Int) := Y4
    have w42 : IntKind.i64.wrap ((r0 : Int) + 2) = (r2 : Int) := Y4
    have w43 : IntKind.i64.wrap ((r0 : Int) + 3) = (r3 : Int) := Y4
    have pi0 : (r0 : Int) < 64 := by omega
    have pi1 : (r1 : Int) < 64 := by omega
    have pi2 : (r2 : Int) < 64 := by omega
    have pi3 : (r3 : Int) < 64 := by omega
    have pq : (q : Int) < 64 := by omega
    have pqn : q < 64 := by omega
    have p0 : r0 < 64 := by omega
    have p1 : r1 < 64 := by omega
    have p2 : r2 < 64 := by omega
    have p3 : r3 < 64 := by omega
    have e0 := HB.out.2 r0 Yo
    have e1 := HB.out.2 r1 Yo
    have e2 := HB.out.2 r2 Yo
    have e3 := HB.out.2 r3 Yo
    have hst : mS bs (q + 1) = (mS bs q).set q (bits .or .u32 (bits .or .u32 (bits .or .u32 (IntKind.u32.wrap (IntKind.u32.wrap (bs.getD r0 0) * 16777216)) (IntKind.u32.wrap (IntKind.u32.wrap (bs.getD r1 0) * 65536))) (IntKind.u32.wrap (IntKind.u32.wrap (bs.getD r2 0) * 256))) (IntKind.u32.wrap (bs.getD r3 0))) := by rw [← hr0, ← hr1, ← hr2, ← hr3]; rfl
    have hx (j : Nat) (hj : j < 64) : 0 ≤ bs.getD j 0 ∧ bs.getD j 0 < 256 := bi _ (by rw [Y8, Y9 Yo]; exact List.getElem_mem _)
    have hx0 := hx r0 p0
    have hx1 := hx r1 p1
    have hx2 := hx r2 p2
    have hx3 := hx r3 p3
    generalize bs.getD r0 0 = x0 at *
    generalize bs.getD r1 0 = x1 at *
    generalize bs.getD r2 0 = x2 at *
    generalize bs.getD r3 0 = x3 at *
    have HST := Yh hst; clear hst hx hr0 hr1 hr2 hr3
    have E := Yh (fun (W : World) (hW : Below wr.heap.size wr W) => Ya (show gb < wr.heap.size by omega) (Ya ((hW.cell (p := ⟨gb, ob + r0, none⟩) (by simp only; omega)).trans e0) (Ya ((hW.cell (p := ⟨gb, ob + r1, none⟩) (by simp only; omega)).trans e1) (Ya ((hW.cell (p := ⟨gb, ob + r2, none⟩) (by simp only; omega)).trans e2) ((hW.cell (p := ⟨gb, ob + r3, none⟩) (by simp only; omega)).trans e3)))))
    clear e0 e1 e2 e3
    generalize mS bs q = ws at *
    go_wp2_with fail
    (try dsimp only [List.append])
    refine' wp_region_calm Yr (fun n _ w' => Below w.heap.size w w' ∧ (n = 0 → Below wr.heap.size wr w' ∧ WdAt 249 w' (w.heap.size) (ws)) ∧ (n = 1 → WdAt 249 w' (w.heap.size) ((ws).set q (bits .or .u32 (bits .or .u32 (bits .or .u32 (IntKind.u32.wrap (IntKind.u32.wrap x0 * 16777216)) (IntKind.u32.wrap (IntKind.u32.wrap x1 * 65536))) (IntKind.u32.wrap (IntKind.u32.wrap x2 * 256))) (IntKind.u32.wrap x3))))) (fun _ _ => True) ((Is _) :: (Is _) :: (Is _) :: (Is _) :: (Is _) :: (Is _) :: (Is _) :: (Is _) :: (Is _) :: (Is _) :: (Is _) :: (Is _) :: (Is _) :: (Is _) :: (Is _) :: (Is _) :: (Is _) :: (Is _) :: (Is _) :: (Is _) :: (Is _) :: (Is _) :: (Is _) :: (Is _) :: (Is _) :: (Is _) :: (Is _) :: (Is _) :: (Is _) :: (Is _) :: (Is _) :: (Is _) :: (Is _) :: (Is _) :: (Is _) :: (fun _ _ _ => True) :: []) ([] :: [] :: [] :: [2] :: [1, 3] :: [4] :: [5] :: [6] :: [] :: [] :: [9] :: [10] :: [8, 11] :: [12] :: [13] :: [14] :: [7, 15] :: [] :: [] :: [18] :: [19] :: [17, 20] :: [21] :: [22] :: [23] :: [16, 24] :: [] :: [] :: [27] :: [28] :: [26, 29] :: [30] :: [31] :: [25, 32] :: [0] :: [34, 33] :: []) [35] [] rfl Yr Yp ?_ (Y1 (Y1 (Y1 (Y1 (Y1 (Y1 (Y1 (Y1 (Y1 (Y1 (Y1 (Y1 (Y1 (Y1 (Y1 (Y1 (Y1 (Y1 (Y1 (Y1 (Y1 (Y1 (Y1 (Y1 (Y1 (Y1 (Y1 (Y1 (Y1 (Y1 (Y1 (Y1 (Y1 (Y1 (Y1 (Y0 Yn)))))))))))))))))))))))))))))))))))) ?_ ?_
    ·intro _
     exact ⟨(have z9 := HK.out.b; bl1), (fun _ => ⟨bl0, HW.out.below bl0⟩), Ye⟩
    rotate_left 35
    ·skip
     iterate 5 refine zq0 ?_
     refine zq1 (fun _ _ n _ hn2 ⟨_, hR0, _⟩ => have hn0 : n = 0 := Nat.le_zero.1 (hn2 0 35 rfl Yr); have hQ := (hR0 hn0).1; Ya hn0 (Ya hQ (Ya ((hR0 hn0).2) (E.out _ hQ)))) ?_
     iterate 7 refine zq0 ?_
     refine zq1 (fun _ _ n _ hn2 ⟨_, hR0, _⟩ => have hn0 : n = 0 := Nat.le_zero.1 (hn2 0 35 rfl Yr); have hQ := (hR0 hn0).1; Ya hn0 (Ya hQ (Ya ((hR0 hn0).2) (E.out _ hQ)))) ?_
     iterate 8 refine zq0 ?_
     refine zq1 (fun _ _ n _ hn2 ⟨_, hR0, _⟩ => have hn0 : n = 0 := Nat.le_zero.1 (hn2 0 35 rfl Yr); have hQ := (hR0 hn0).1; Ya hn0 (Ya hQ (Ya ((hR0 hn0).2) (E.out _ hQ)))) ?_
     iterate 8 refine zq0 ?_
     refine zq1 (fun _ _ n _ hn2 ⟨_, hR0, _⟩ => have hn0 : n = 0 := Nat.le_zero.1 (hn2 0 35 rfl Yr); have hQ := (hR0 hn0).1; Ya hn0 (Ya hQ (Ya ((hR0 hn0).2) (E.out _ hQ)))) ?_
     iterate 3 refine zq0 ?_
     refine Yz (fun u wq n hn hn2 hC hk K hK => ?_) ?_
     ·obtain ⟨hP, hR0, hR1⟩ := hC
      simp only [calmKnown, lg0, lg1, and_true, Is] at hk
      obtain ⟨h34, h33⟩ := hk
      simp only [h34, h33] at hK ⊢
      have H34 := Yh h34; clear h34; have H33 := Yh h33; clear h33
      obtain rfl := hn 0 rfl
      have hq := (hR0 rfl).2
      clear hR0 hR1
      obtain ⟨y9, y0, yf⟩ := hq.cells q (by (try simp only [List.length_set]); omega)
      have hq2 := hq.set q (bits .or .u32 (bits .or .u32 (bits .or .u32 (IntKind.u32.wrap (IntKind.u32.wrap x0 * 16777216)) (IntKind.u32.wrap (IntKind.u32.wrap x1 * 65536))) (IntKind.u32.wrap (IntKind.u32.wrap x2 * 256))) (IntKind.u32.wrap x3)) (by (try simp only [List.length_set]); omega)
      go_simp
      exact hK _ undef _ rfl ⟨bl1, Ye, (fun _ => hq2)⟩ trivial trivial
     exact Yw
    ·intro u w1 hC hF
     obtain ⟨hP, hR0, hR1⟩ := hC
     have hR := hR1 rfl
     clear hF hR0 hR1
     have Z1 := hP.size
     have HWN := Yh (Ya hR hP); clear hR hP
     go_wp2
     go_roundg (16 - (q + 1))
     case measure => omega
     case rel => exact ⟨q + 1, Yo, Yo, by go_num, by rw [HST.out]; exact HWN.out.1, HWN.out.2⟩
   ·obtain rfl : q = 16 := by omega
    have gq : decide (((16 : Nat) : Int) < 16) = false := by decide
    have gq2 : decide ((16 : Int) < 16) = false := by decide
    rw [show mS bs 16 = schS bs 0 from rfl] at HW
    clear hml hl7
    go_wp2
    obtain ⟨w5, rfl⟩ : ∃ x : World, x = wr := ⟨_, rfl⟩
    go_loopg [9] 48 (fun G i wr => RcRel w w.heap.size bs G i wr)
    case atStart => exact ⟨0, Yo, Yo, rfl, HW.out, HK.out.b⟩
    case round =>
     obtain ⟨q, hq, rfl, rfl, hw, KR⟩ := hrel
     have ZR := KR.size
     clear HW HK HH HKS HB
     have HK := Yh (show Kp w wr from KR); have HH := Yh (HH0.out.below KR); have HKS := Yh (HK0.out.below KR); have HB := Yh (HB0.out.below KR); have HW := Yh hw
     have hml := (schS_ok bs q).1
     have hmi := (schS_ok bs q).2
     have hl7 := (hw.cells 0 (by rw [hml]; omega)).1
     have HMI := Yh hmi
     clear hw KR hmi
     by_cases hlt : q < 48
     ·as_aux_lemma =>
      obtain ⟨tt, htt⟩ : ∃ r, 16 + q = r := ⟨_, rfl⟩
      rw [htt]
      obtain ⟨a15, ha15⟩ : ∃ r, 1 + q = r := ⟨_, rfl⟩
      obtain ⟨a2, ha2⟩ : ∃ r, 14 + q = r := ⟨_, rfl⟩
      obtain ⟨a7, ha7⟩ : ∃ r, 9 + q = r := ⟨_, rfl⟩
      obtain ⟨a16, ha16⟩ : ∃ r, q = r := ⟨_, rfl⟩
      have gq : decide ((tt : Int) < 64) = true := Y2
      have gqn : decide (tt < 64) = true := Y2
      have wq : IntKind.i64.wrap ((tt : Int) + 1) = ((16 + (q + 1) : Nat) : Int) := Y4
      obtain ⟨tn, htn⟩ : ∃ r, 16 + (q + 1) = r := ⟨_, rfl⟩
      rw [htn] at wq
      have wa15 : IntKind.i64.wrap ((tt : Int) - 15) = (a15 : Int) := Y4
      have wa2 : IntKind.i64.wrap ((tt : Int) - 2) = (a2 : Int) := Y4
      have wa7 : IntKind.i64.wrap ((tt : Int) - 7) = (a7 : Int) := Y4
      have wa16 : IntKind.i64.wrap ((tt : Int) - 16) = (a16 : Int) := Y4
      have ptt : tt < 64 := by omega
      have pa15 : a15 < 64 := by omega
      have pa2 : a2 < 64 := by omega
      have pa7 : a7 < 64 := by omega
      have pa16 : a16 < 64 := by omega
      have pitt : (tt : Int) < 64 := by omega
      have pia15 : (a15 : Int) < 64 := by omega
      have pia2 : (a2 : Int) < 64 := by omega
      have pia7 : (a7 : Int) < 64 := by omega
      have pia16 : (a16 : Int) < 64 := by omega
      have ea15 := (HW.out.cells a15 Yo).2.1
      have ea2 := (HW.out.cells a2 Yo).2.1
      have ea7 := (HW.out.cells a7 Yo).2.1
      have ea16 := (HW.out.cells a16 Yo).2.1
      have hst : schS bs (q + 1) = (schS bs q).set tt (wV4 ((schS bs q).getD a2 0) ((schS bs q).getD a7 0) ((schS bs q).getD a15 0) ((schS bs q).getD a16 0)) := by rw [← htt, ← ha2, ← ha7, ← ha15, ← ha16]; show (schS bs q).set (16 + q) (wV (schS bs q) (16 + q)) = _; unfold wV; rw [show 16 + q - 2 = 14 + q by omega, show 16 + q - 7 = 9 + q by omega, show 16 + q - 15 = 1 + q by omega, show 16 + q - 16 = q by omega]
      have hx := HMI.out.get a15
      have hy := HMI.out.get a2
      generalize (schS bs q).getD a15 0 = x at *
      generalize (schS bs q).getD a2 0 = y at *
      generalize (schS bs q).getD a7 0 = z at *
      generalize (schS bs q).getD a16 0 = z2 at *
      have HST := Yh hst; have HTN := Yh htn; clear hst htt ha15 ha2 ha7 ha16 htn
      generalize schS bs q = ws at *
      have E := Yh (fun (W : World) (hW : Below wr.heap.size wr W) => Ya (Nat.lt_of_lt_of_le hl7 hW.size) (Ya ((hW.cell (p := ⟨w.heap.size, a15, none⟩) hl7).trans ea15) (Ya ((hW.cell (p := ⟨w.heap.size, a2, none⟩) hl7).trans ea2) (Ya ((hW.cell (p := ⟨w.heap.size, a7, none⟩) hl7).trans ea7) ((hW.cell (p := ⟨w.heap.size, a16, none⟩) hl7).trans ea16)))))
      clear ea15 ea2 ea7 ea16
      go_wp2_with fail
      refine' wp_region_calm Yr (fun _ _ w' => Below wr.heap.size wr w' ∧ True) (fun _ _ => True) [Is _, Is _, Is _, Is _, Is _, Is _, Is _, Is _, Is _, Is _] [[], [0], [1], [2], [], [4], [5], [6], [3], [7]] [] [] rfl Yr Yp ?_ (Y1 (Y1 (Y1 (Y1 (Y1 (Y1 (Y1 (Y1 (Y1 (Y1 Yn)))))))))) ?_ ?_
      ·intro _
       exact ⟨bl0, trivial⟩
      rotate_left 10
      ·skip
       iterate 3 refine zq0 ?_
       iterate 5 refine zq1 (fun _ _ _ _ _ ⟨hP, _⟩ => (E.out _ hP)) ?_
       iterate 2 refine zq0 ?_
       exact Yw
      ·intro u w1 hC hF
       obtain ⟨hP, hTr⟩ := hC
       simp only [calmFacts, Is, and_true] at hF
       obtain ⟨f0, f1, f2, f3, f4, f5, f6, f7, f8, f9⟩ := hF
       simp only [f0, f1, f2, f3, f4, f5, f6, f7, f8, f9]
       clear f0 f1 f2 f3 f4 f5 f6 f7 f8 f9
       have K1 := hP
       have WX := Yh (E.out _ K1).2
       have Z1 := K1.size
       clear hP
       replace HK := Yh (HK.out.below K1)
       replace HH := Yh (HH.out.below K1)
       replace HKS := Yh (HKS.out.below K1)
       replace HB := Yh (HB.out.below K1)
       replace HW := Yh (HW.out.below K1)
       clear K1
       have hl7 : w.heap.size < w1.heap.size := by omega
       have E2 := Yh (fun (W : World) (hW : Below w1.heap.size w1 W) => Ya (Nat.lt_of_lt_of_le hl7 hW.size) (Ya ((hW.cell (p := ⟨w.heap.size, a15, none⟩) hl7).trans (WX.out).1) (Ya ((hW.cell (p := ⟨w.heap.size, a2, none⟩) hl7).trans (WX.out).2.1) (Ya ((hW.cell (p := ⟨w.heap.size, a7, none⟩) hl7).trans (WX.out).2.2.1) ((hW.cell (p := ⟨w.heap.size, a16, none⟩) hl7).trans (WX.out).2.2.2)))))
       clear E
       go_wp2_with fail
       refine' wp_region_calm Yr (fun n _ w' => Below w.heap.size w w' ∧ (n = 0 → Below w1.heap.size w1 w' ∧ WdAt 249 w' (w.heap.size) (ws)) ∧ (n = 1 → WdAt 249 w' (w.heap.size) ((ws).set tt (wV4 y z x z2)))) (fun _ _ => True) [Is _, Is _, Is _, Is _, Is _, Is _, Is _, Is _, Is _, Is _, Is _, Is _, Is _, Is _, Is _, Is _, Is _, Is _, Is _, Is _, Is _, Is _, Is _, Is _, Is _, Is _, Is _, Is _, Is _, (fun _ _ _ => True)] [[], [], [1], [], [3], [2, 4], [], [6], [5, 7], [], [9], [10], [11], [8, 12], [], [14], [], [16], [15, 17], [], [19], [18, 20], [13, 21], [], [23], [24], [25], [22, 26], [0], [28, 27]] [29] [] rfl Yr Yp ?_ (Y1 (Y1 (Y1 (Y1 (Y1 (Y1 (Y1 (Y1 (Y1 (Y1 (Y1 (Y1 (Y1 (Y1 (Y1 (Y1 (Y1 (Y1 (Y1 (Y1 (Y1 (Y1 (Y1 (Y1 (Y1 (Y1 (Y1 (Y1 (Y1 (Y0 Yn)))))))))))))))))))))))))))))) ?_ ?_
       ·intro _
        exact ⟨(have z9 := HK.out.b; bl1), (fun _ => ⟨bl0, HW.out.below bl0⟩), Ye⟩
       rotate_left 29
       ·skip
        iterate 2 refine zq0 ?_
        refine Yz (fun u wq n hn hn2 hC hk K hK => ?_) ?_
        ·obtain ⟨hP, hR0, hR1⟩ := hC
         simp only [calmKnown, lg0, lg1, and_true, Is] at hk
         have h1 := hk; clear hk
         simp only [h1] at hK ⊢
         have H1 := Yh h1; clear h1
         go_wp2_with fail
         first | (with_reducible refine (turn_any x 7 hx.1 hx.2 Yd Yd _).mono ?_) | (with_reducible refine (turn_any x 18 hx.1 hx.2 Yd Yd _).mono ?_) | (with_reducible refine (turn_any y 17 hy.1 hy.2 Yd Yd _).mono ?_) | (with_reducible refine (turn_any y 19 hy.1 hy.2 Yd Yd _).mono ?_)
         rintro e w2 ⟨rfl, rfl⟩
         exact hK _ _ _ rfl ⟨hP, hR0, hR1⟩ trivial rfl
        refine zq0 ?_
        refine Yz (fun u wq n hn hn2 hC hk K hK => ?_) ?_
        ·obtain ⟨hP, hR0, hR1⟩ := hC
         simp only [calmKnown, lg0, lg1, and_true, Is] at hk
         have h3 := hk; clear hk
         simp only [h3] at hK ⊢
         have H3 := Yh h3; clear h3
         go_wp2_with fail
         first | (with_reducible refine (turn_any x 7 hx.1 hx.2 Yd Yd _).mono ?_) | (with_reducible refine (turn_any x 18 hx.1 hx.2 Yd Yd _).mono ?_) | (with_reducible refine (turn_any y 17 hy.1 hy.2 Yd Yd _).mono ?_) | (with_reducible refine (turn_any y 19 hy.1 hy.2 Yd Yd _).mono ?_)
         rintro e w2 ⟨rfl, rfl⟩
         exact hK _ _ _ rfl ⟨hP, hR0, hR1⟩ trivial rfl
        iterate 7 refine zq0 ?_
        refine zq1 (fun _ _ n _ hn2 ⟨_, hR0, _⟩ => have hn0 : n = 0 := Nat.le_zero.1 (hn2 0 29 rfl Yr); have hQ := (hR0 hn0).1; Ya hn0 (Ya hQ (Ya ((hR0 hn0).2) (E2.out _ hQ)))) ?_
        iterate 2 refine zq0 ?_
        refine Yz (fun u wq n hn hn2 hC hk K hK => ?_) ?_
        ·obtain ⟨hP, hR0, hR1⟩ := hC
         simp only [calmKnown, lg0, lg1, and_true, Is] at hk
         have h14 := hk; clear hk
         simp only [h14] at hK ⊢
         have H14 := Yh h14; clear h14
         go_wp2_with fail
         first | (with_reducible refine (turn_any x 7 hx.1 hx.2 Yd Yd _).mono ?_) | (with_reducible refine (turn_any x 18 hx.1 hx.2 Yd Yd _).mono ?_) | (with_reducible refine (turn_any y 17 hy.1 hy.2 Yd Yd _).mono ?_) | (with_reducible refine (turn_any y 19 hy.1 hy.2 Yd Yd _).mono ?_)
         rintro e w2 ⟨rfl, rfl⟩
         exact hK _ _ _ rfl ⟨hP, hR0, hR1⟩ trivial rfl
        refine zq0 ?_
        refine Yz (fun u wq n hn hn2 hC hk K hK => ?_) ?_
        ·obtain ⟨hP, hR0, hR1⟩ := hC
         simp only [calmKnown, lg0, lg1, and_true, Is] at hk
         have h16 := hk; clear hk
         simp only [h16] at hK ⊢
         have H16 := Yh h16; clear h16
         go_wp2_with fail
         first | (with_reducible refine (turn_any x 7 hx.1 hx.2 Yd Yd _).mono ?_) | (with_reducible refine (turn_any x 18 hx.1 hx.2 Yd Yd _).mono ?_) | (with_reducible refine (turn_any y 17 hy.1 hy.2 Yd Yd _).mono ?_) | (with_reducible refine (turn_any y 19 hy.1 hy.2 Yd Yd _).mono ?_)
         rintro e w2 ⟨rfl, rfl⟩
         exact hK _ _ _ rfl ⟨hP, hR0, hR1⟩ trivial rfl
        iterate 8 refine zq0 ?_
        refine zq1 (fun _ _ n _ hn2 ⟨_, hR0, _⟩ => have hn0 : n = 0 := Nat.le_zero.1 (hn2 0 29 rfl Yr); have hQ := (hR0 hn0).1; Ya hn0 (Ya hQ (Ya ((hR0 hn0).2) (E2.out _ hQ)))) ?_
        iterate 2 refine zq0 ?_
        refine Yz (fun u wq n hn hn2 hC hk K hK => ?_) ?_
        ·obtain ⟨hP, hR0, hR1⟩ := hC
         simp only [calmKnown, lg0, lg1, and_true, Is] at hk
         obtain ⟨h28, h27⟩ := hk
         simp only [h28, h27] at hK ⊢
         have H28 := Yh h28; clear h28; have H27 := Yh h27; clear h27
         obtain rfl := hn 0 rfl
         have hq := (hR0 rfl).2
         clear hR0 hR1
         obtain ⟨y9, y0, yf⟩ := hq.cells tt (by (try simp only [List.length_set]); omega)
         have hq2 := hq.set tt (wV4 y z x z2) (by (try simp only [List.length_set]); omega)
         go_simp
         exact hK _ undef _ rfl ⟨bl1, Ye, (fun _ => (by first | exact hq2 | (unfold wV4 sg0 sg1 at hq2; exact hq2)))⟩ trivial trivial
        exact Yw
       ·intro u w2 hC hF
        obtain ⟨hP, hR0, hR1⟩ := hC
        have hR := hR1 rfl
        clear hF hR0 hR1
        have Z2 := hP.size
        have HWN := Yh (Ya hR hP); clear hR hP
        go_wp2
        go_roundg (48 - (q + 1))
        case measure => omega
        case rel => exact ⟨q + 1, Yo, Yo, by rw [HTN.out], by rw [HST.out]; exact HWN.out.1, HWN.out.2⟩
     ·obtain rfl : q = 48 := by omega
      have gq : decide (((16 + 48 : Nat) : Int) < 64) = false := by decide
      have gq2 : decide ((64 : Int) < 64) = false := by decide
      have gq3 : decide ((16 : Int) + 48 < 64) = false := by decide
      obtain ⟨W, hW⟩ : ∃ W, schS bs 48 = W := ⟨_, rfl⟩
      rw [hW] at HW HMI
      have hWl : W.length = 64 := by rw [← hW]; exact (schS_ok bs 48).1
      have HWE := Yh (show ∃ n, n = 48 ∧ schS bs n = W from ⟨48, rfl, hW⟩); clear hW hml
      have hsk := hi
      have HSK := Yh hsk; clear hsk hi
      obtain ⟨S0, hS0⟩ : ∃ S : St8, S = hs := ⟨_, rfl⟩
      have HS0 := Yh hS0; clear hS0
      obtain ⟨c0, c1, c2, c3, c4, c5, c6, c7⟩ := hs
      go_wp2_with fail
      refine' wp_region_calm Yr (fun _ _ w' => Below wr.heap.size wr w' ∧ True) (fun _ _ => True) ((Is _) :: (Is _) :: (Is _) :: (Is _) :: (Is _) :: (Is _) :: (Is _) :: (Is _) :: (Is _) :: (Is _) :: (Is _) :: (Is _) :: (Is _) :: (Is _) :: (Is _) :: (Is _) :: (Is _) :: (Is _) :: (Is _) :: (Is _) :: (Is _) :: (Is _) :: (Is _) :: (Is _) :: (Is _) :: (Is _) :: (Is _) :: (Is _) :: (Is _) :: (Is _) :: (Is _) :: (Is _) :: []) ([] :: [0] :: [1] :: [] :: [3] :: [4] :: [] :: [6] :: [7] :: [] :: [9] :: [10] :: [] :: [12] :: [13] :: [] :: [15] :: [16] :: [] :: [18] :: [19] :: [] :: [21] :: [22] :: [2] :: [5] :: [8] :: [11] :: [14] :: [17] :: [20] :: [23] :: []) [] [] rfl Yr Yp ?_ (Y1 (Y1 (Y1 (Y1 (Y1 (Y1 (Y1 (Y1 (Y1 (Y1 (Y1 (Y1 (Y1 (Y1 (Y1 (Y1 (Y1 (Y1 (Y1 (Y1 (Y1 (Y1 (Y1 (Y1 (Y1 (Y1 (Y1 (Y1 (Y1 (Y1 (Y1 (Y1 Yn)))))))))))))))))))))))))))))))) ?_ ?_
      ·intro _
       exact ⟨bl0, trivial⟩
      rotate_left 32
      ·skip
       iterate 2 refine zq0 ?_
       refine Yz (fun u wq n hn hn2 hC hk K hK => ?_) ?_
       ·obtain ⟨hP, hTr⟩ := hC
        simp only [calmKnown, lg0, lg1, and_true, Is] at hk
        have h1 := hk; clear hk
        simp only [h1] at hK ⊢
        have H1 := Yh h1; clear h1
        obtain ⟨z9, z0, z1, z2, z3, z4, z5, z6, z7⟩ := HH.out.below hP
        dsimp only at z0 z1 z2 z3 z4 z5 z6 z7
        go_simp
        exact hK _ _ _ rfl ⟨hP, trivial⟩ trivial rfl
       iterate 2 refine zq0 ?_
       refine Yz (fun u wq n hn hn2 hC hk K hK => ?_) ?_
       ·obtain ⟨hP, hTr⟩ := hC
        simp only [calmKnown, lg0, lg1, and_true, Is] at hk
        have h4 := hk; clear hk
        simp only [h4] at hK ⊢
        have H4 := Yh h4; clear h4
        obtain ⟨z9, z0, z1, z2, z3, z4, z5, z6, z7⟩ := HH.out.below hP
        dsimp only at z0 z1 z2 z3 z4 z5 z6 z7
        go_simp
        exact hK _ _ _ rfl ⟨hP, trivial⟩ trivial rfl
       iterate 2 refine zq0 ?_
       refine Yz (fun u wq n hn hn2 hC hk K hK => ?_) ?_
       ·obtain ⟨hP, hTr⟩ := hC
        simp only [calmKnown, lg0, lg1, and_true, Is] at hk
        have h7 := hk; clear hk
        simp only [h7] at hK ⊢
        have H7 := Yh h7; clear h7
        obtain ⟨z9, z0, z1, z2, z3, z4, z5, z6, z7⟩ := HH.out.below hP
        dsimp only at z0 z1 z2 z3 z4 z5 z6 z7
        go_simp
        exact hK _ _ _ rfl ⟨hP, trivial⟩ trivial rfl
       iterate 2 refine zq0 ?_
       refine Yz (fun u wq n hn hn2 hC hk K hK => ?_) ?_
       ·obtain ⟨hP, hTr⟩ := hC
        simp only [calmKnown, lg0, lg1, and_true, Is] at hk
        have h10 := hk; clear hk
        simp only [h10] at hK ⊢
        have H10 := Yh h10; clear h10
        obtain ⟨z9, z0, z1, z2, z3, z4, z5, z6, z7⟩ := HH.out.below hP
        dsimp only at z0 z1 z2 z3 z4 z5 z6 z7
        go_simp
        exact hK _ _ _ rfl ⟨hP, trivial⟩ trivial rfl
       iterate 2 refine zq0 ?_
       refine Yz (fun u wq n hn hn2 hC hk K hK => ?_) ?_
       ·obtain ⟨hP, hTr⟩ := hC
        simp only [calmKnown, lg0, lg1, and_true, Is] at hk
        have h13 := hk; clear hk
        simp only [h13] at hK ⊢
        have H13 := Yh h13; clear h13
        obtain ⟨z9, z0, z1, z2, z3, z4, z5, z6, z7⟩ := HH.out.below hP
        dsimp only at z0 z1 z2 z3 z4 z5 z6 z7
        go_simp
        exact hK _ _ _ rfl ⟨hP, trivial⟩ trivial rfl
       iterate 2 refine zq0 ?_
       refine Yz (fun u wq n hn hn2 hC hk K hK => ?_) ?_
       ·obtain ⟨hP, hTr⟩ := hC
        simp only [calmKnown, lg0, lg1, and_true, Is] at hk
        have h16 := hk; clear hk
        simp only [h16] at hK ⊢
        have H16 := Yh h16; clear h16
        obtain ⟨z9, z0, z1, z2, z3, z4, z5, z6, z7⟩ := HH.out.below hP
        dsimp only at z0 z1 z2 z3 z4 z5 z6 z7
        go_simp
        exact hK _ _ _ rfl ⟨hP, trivial⟩ trivial rfl
       iterate 2 refine zq0 ?_
       refine Yz (fun u wq n hn hn2 hC hk K hK => ?_) ?_
       ·obtain ⟨hP, hTr⟩ := hC
        simp only [calmKnown, lg0, lg1, and_true, Is] at hk
        have h19 := hk; clear hk
        simp only [h19] at hK ⊢
        have H19 := Yh h19; clear h19
        obtain ⟨z9, z0, z1, z2, z3, z4, z5, z6, z7⟩ := HH.out.below hP
        dsimp only at z0 z1 z2 z3 z4 z5 z6 z7
        go_simp
        exact hK _ _ _ rfl ⟨hP, trivial⟩ trivial rfl
       iterate 2 refine zq0 ?_
       refine Yz (fun u wq n hn hn2 hC hk K hK => ?_) ?_
       ·obtain ⟨hP, hTr⟩ := hC
        simp only [calmKnown, lg0, lg1, and_true, Is] at hk
        have h22 := hk; clear hk
        simp only [h22] at hK ⊢
        have H22 := Yh h22; clear h22
        obtain ⟨z9, z0, z1, z2, z3, z4, z5, z6, z7⟩ := HH.out.below hP
        dsimp only at z0 z1 z2 z3 z4 z5 z6 z7
        go_simp
        exact hK _ _ _ rfl ⟨hP, trivial⟩ trivial rfl
       iterate 8 refine zq0 ?_
       exact Yw
      ·intro u w1 hC hF
       obtain ⟨hP, hTr⟩ := hC
       simp only [calmFacts, Is, and_true] at hF
       obtain ⟨f0, f1, f2, f3, f4, f5, f6, f7, f8, f9, f10, f11, f12, f13, f14, f15, f16, f17, f18, f19, f20, f21, f22, f23, f24, f25, f26, f27, f28, f29, f30, f31⟩ := hF
       simp only [f0, f1, f2, f3, f4, f5, f6, f7, f8, f9, f10, f11, f12, f13, f14, f15, f16, f17, f18, f19, f20, f21, f22, f23, f24, f25, f26, f27, f28, f29, f30, f31]
       clear f0 f1 f2 f3 f4 f5 f6 f7 f8 f9 f10 f11 f12 f13 f14 f15 f16 f17 f18 f19 f20 f21 f22 f23 f24 f25 f26 f27 f28 f29 f30 f31
       have K1 := hP
       have Z1 := K1.size
       clear hP
       replace HK := Yh (HK.out.below K1)
       replace HH := Yh (HH.out.below K1)
       replace HKS := Yh (HKS.out.below K1)
       replace HB := Yh (HB.out.below K1)
       replace HW := Yh (HW.out.below K1)
       clear K1
       go_wp2
       obtain ⟨w6, rfl⟩ : ∃ x : World, x = w1 := ⟨_, rfl⟩
       go_loopg [12, 13, 14, 15, 16, 17, 18, 19, 20] 64 (fun G a b c d e f gg h i wr => RdRel w w.heap.size ks W ⟨c0, c1, c2, c3, c4, c5, c6, c7⟩ G a b c d e f gg h i wr)
       case atStart => exact ⟨0, ⟨c0, c1, c2, c3, c4, c5, c6, c7⟩, Yo, Yo, rfl, rfl, rfl, rfl, rfl, rfl, rfl, rfl, rfl, rfl, HW.out, HK.out.b⟩
       case round =>
        obtain ⟨q, s, hq, rfl, rfl, hs9, rfl, rfl, rfl, rfl, rfl, rfl, rfl, rfl, hw, KR⟩ := hrel
        have ZR := KR.size
        clear HW HK HH HKS HB
        have HK := Yh (show Kp w wr from KR); have HH := Yh (HH0.out.below KR); have HKS := Yh (HK0.out.below KR); have HW := Yh hw
        have hsok : s.ok := by rw [hs9]; exact rndS_ok HSK.out q
        have hl7 := (hw.cells 0 Yo).1
        have HS9 := Yh hs9
        clear hw KR hs9
        by_cases hlt : q < 64
        ·as_aux_lemma =>
         have gq : decide ((q : Int) < 64) = true := Y2
         have gqn : decide (q < 64) = true := decide_eq_true hlt
         have pq : (q : Int) < 64 := by omega
         have wq : IntKind.i64.wrap ((q : Int) + 1) = ((q + 1 : Nat) : Int) := Y4
         have ek := HKS.out.2 q Yo
         have ew := (HW.out.cells q Yo).2.1
         have hst : rndS ks W ⟨c0, c1, c2, c3, c4, c5, c6, c7⟩ (q + 1) = stepW (ks.getD q 0) (W.getD q 0) s := by rw [HS9.out]; rfl
         generalize ks.getD q 0 = kq at *
         generalize W.getD q 0 = wv at *
         obtain ⟨a, b, c, d, e, f, g, h⟩ := s
         unfold St8.ok at hsok
         simp only [InW.cons] at hsok
         obtain ⟨ha, -, -, -, he, -⟩ := hsok
         dsimp only at hst ⊢
         have HST := Yh hst; clear hst
         have E := Yh (show ∀ W9 : World, Below wr.heap.size wr W9 → gk < W9.heap.size ∧ w.heap.size < W9.heap.size ∧ W9.cell? ⟨gk, ok_ + q, none⟩ = some (.int .u32 kq) ∧ W9.cell? ⟨w.heap.size, q, none⟩ = some (.int .u32 wv) from fun W9 hW => ⟨Nat.lt_of_lt_of_le HKS.out.1 hW.size, Nat.lt_of_lt_of_le hl7 hW.size, (hW.cell (p := ⟨gk, ok_ + q, none⟩) HKS.out.1).trans ek, (hW.cell (p := ⟨w.heap.size, q, none⟩) hl7).trans ew⟩)
         clear ek ew
         go_wp2_with fail
         refine' wp_region_calm Yr (fun _ _ w' => Below wr.heap.size wr w' ∧ True) (fun _ _ => True) [Is _, Is _, Is _, Is _, Is _, Is _, Is _, Is _, Is _, Is _, Is _, Is _, Is _, Is _, Is _, Is _, Is _, Is _, Is _, Is _, Is _, Is _, Is _, Is _, Is _, Is _, Is _, Is _, Is _] [[], [], [1], [], [3], [2, 4], [], [6], [5, 7], [0, 8], [], [], [10, 11], [], [13], [], [14, 15], [12, 16], [9, 17], [], [], [19, 20], [21], [18, 22], [], [24], [25], [23, 26], [27]] [] [] rfl Yr Yp ?_ (Y1 (Y1 (Y1 (Y1 (Y1 (Y1 (Y1 (Y1 (Y1 (Y1 (Y1 (Y1 (Y1 (Y1 (Y1 (Y1 (Y1 (Y1 (Y1 (Y1 (Y1 (Y1 (Y1 (Y1 (Y1 (Y1 (Y1 (Y1 (Y1 Yn))))))))))))))))))))))))))))) ?_ ?_
         ·intro _
          exact ⟨bl0, trivial⟩
         rotate_left 29
         ·skip
          iterate 2 refine zq0 ?_
          refine Yz (fun u wq n hn hn2 hC hk K hK => ?_) ?_
          ·obtain ⟨hP, hTr⟩ := hC
           simp only [calmKnown, lg0, lg1, and_true, Is] at hk
           have h1 := hk; clear hk
           simp only [h1] at hK ⊢
           have H1 := Yh h1; clear h1
           go_wp2_with fail
           first | (with_reducible refine (turn_rb e 6 he Yd _).mono ?_) | (with_reducible refine (turn_rb e 11 he Yd _).mono ?_) | (with_reducible refine (turn_rb e 25 he Yd _).mono ?_)
           rintro e w2 ⟨rfl, hbl⟩
           exact hK _ _ _ rfl ⟨Yc hbl hP, trivial⟩ trivial rfl
          refine zq0 ?_
          refine Yz (fun u wq n hn hn2 hC hk K hK => ?_) ?_
          ·obtain ⟨hP, hTr⟩ := hC
           simp only [calmKnown, lg0, lg1, and_true, Is] at hk
           have h3 := hk; clear hk
           simp only [h3] at hK ⊢
           have H3 := Yh h3; clear h3
           go_wp2_with fail
           first | (with_reducible refine (turn_rb e 6 he Yd _).mono ?_) | (with_reducible refine (turn_rb e 11 he Yd _).mono ?_) | (with_reducible refine (turn_rb e 25 he Yd _).mono ?_)
           rintro e w2 ⟨rfl, hbl⟩
           exact hK _ _ _ rfl ⟨Yc hbl hP, trivial⟩ trivial rfl
          iterate 2 refine zq0 ?_
          refine Yz (fun u wq n hn hn2 hC hk K hK => ?_) ?_
          ·obtain ⟨hP, hTr⟩ := hC
           simp only [calmKnown, lg0, lg1, and_true, Is] at hk
           have h6 := hk; clear hk
           simp only [h6] at hK ⊢
           have H6 := Yh h6; clear h6
           go_wp2_with fail
           first | (with_reducible refine (turn_rb e 6 he Yd _).mono ?_) | (with_reducible refine (turn_rb e 11 he Yd _).mono ?_) | (with_reducible refine (turn_rb e 25 he Yd _).mono ?_)
           rintro e w2 ⟨rfl, hbl⟩
           exact hK _ _ _ rfl ⟨Yc hbl hP, trivial⟩ trivial rfl
          iterate 14 refine zq0 ?_
          iterate 5 refine zq1 (fun _ _ _ _ _ ⟨hP, _⟩ => (E.out _ hP)) ?_
          iterate 2 refine zq0 ?_
          exact Yw
         ·intro u w2 hC hF
          obtain ⟨hP, hTr⟩ := hC
          simp only [calmFacts, Is, and_true] at hF
          obtain ⟨f0, f1, f2, f3, f4, f5, f6, f7, f8, f9, f10, f11, f12, f13, f14, f15, f16, f17, f18, f19, f20, f21, f22, f23, f24, f25, f26, f27, f28⟩ := hF
          simp only [f0, f1, f2, f3, f4, f5, f6, f7, f8, f9, f10, f11, f12, f13, f14, f15, f16, f17, f18, f19, f20, f21, f22, f23, f24, f25, f26, f27, f28]
          clear f0 f1 f2 f3 f4 f5 f6 f7 f8 f9 f10 f11 f12 f13 f14 f15 f16 f17 f18 f19 f20 f21 f22 f23 f24 f25 f26 f27 f28
          have K2 := hP
          have Z2 := K2.size
          clear hP
          replace HK := Yh (HK.out.below K2)
          replace HH := Yh (HH.out.below K2)
          replace HKS := Yh (HKS.out.below K2)
          replace HW := Yh (HW.out.below K2)
          clear K2
          go_wp2_with fail
          refine (turn_any a 2 ha.1 ha.2 Yd Yd _).mono ?_
          rintro e9 w9 ⟨rfl, rfl⟩
          go_wp2_with fail
          refine (turn_any a 13 ha.1 ha.2 Yd Yd _).mono ?_
          rintro e9 w9 ⟨rfl, rfl⟩
          go_wp2_with fail
          refine (turn_any a 22 ha.1 ha.2 Yd Yd _).mono ?_
          rintro e9 w9 ⟨rfl, rfl⟩
          go_wp2
          go_roundg (64 - (q + 1))
          case measure => omega
          case rel => exact ⟨q + 1, _, Yo, Yo, by go_num, HST.out.symm, by simp only [stepW, t1S, t2S, IntKind.wrap_u32], rfl, rfl, rfl, by simp only [stepW, t1S, t2S, IntKind.wrap_u32], rfl, rfl, rfl, HW.out, HK.out.below bl0⟩
        ·obtain rfl : q = 64 := by omega
         have gq : decide (((64 : Nat) : Int) < 64) = false := by decide
         have gq2 : decide ((64 : Int) < 64) = false := by decide
         have hfin : blkS ks bs ⟨c0, c1, c2, c3, c4, c5, c6, c7⟩ = addS ⟨c0, c1, c2, c3, c4, c5, c6, c7⟩ s := by obtain ⟨n9, e9, h9⟩ := HWE.out; subst e9; rw [HS9.out, ← h9]; rfl
         have HFIN := Yh hfin; clear hfin hsok
         obtain ⟨a, b, c, d, e, f, g, h⟩ := s
         dsimp only [addS] at HFIN ⊢
         go_wp2_with fail
         (try dsimp only [List.append])
         refine' wp_region_calm Yr (fun n us w' => Below w.heap.size w w' ∧ Below wr.heap.size wr w' ∧ (n = 1 → ∃ gN, us[0]? = some (.slice (some ⟨gN, 0, none⟩) 8 8) ∧ w.heap.size ≤ gN ∧ Blk w' gN 211 #[.int .u32 (IntKind.u32.wrap (c0 + a)), .int .u32 (IntKind.u32.wrap (c1 + b)), .int .u32 (IntKind.u32.wrap (c2 + c)), .int .u32 (IntKind.u32.wrap (c3 + d)), .int .u32 (IntKind.u32.wrap (c4 + e)), .int .u32 (IntKind.u32.wrap (c5 + f)), .int .u32 (IntKind.u32.wrap (c6 + g)), .int .u32 (IntKind.u32.wrap (c7 + h))])) (fun _ _ => True) ((Is _) :: (Is _) :: (Is _) :: (Is _) :: (Is _) :: (Is _) :: (Is _) :: (Is _) :: (Is _) :: (Is _) :: (Is _) :: (Is _) :: (Is _) :: (Is _) :: (Is _) :: (Is _) :: (Is _) :: (Is _) :: (Is _) :: (Is _) :: (Is _) :: (Is _) :: (Is _) :: (Is _) :: (Is _) :: (Is _) :: (Is _) :: (Is _) :: (Is _) :: (Is _) :: (Is _) :: (Is _) :: (Is _) :: (Is _) :: (Is _) :: (Is _) :: (Is _) :: (Is _) :: (Is _) :: (Is _) :: (fun _ v _ => ∃ g, v = .slice (some ⟨g, 0, none⟩) 8 8) :: (fun ds v _ => ds = [v]) :: []) ([] :: [0] :: [1] :: [] :: [2, 3] :: [] :: [5] :: [6] :: [] :: [7, 8] :: [] :: [10] :: [11] :: [] :: [12, 13] :: [] :: [15] :: [16] :: [] :: [17, 18] :: [] :: [20] :: [21] :: [] :: [22, 23] :: [] :: [25] :: [26] :: [] :: [27, 28] :: [] :: [30] :: [31] :: [] :: [32, 33] :: [] :: [35] :: [36] :: [] :: [37, 38] :: [4, 9, 14, 19, 24, 29, 34, 39] :: [40] :: []) [40] [40] rfl Yr Yp ?_ (Y1 (Y1 (Y1 (Y1 (Y1 (Y1 (Y1 (Y1 (Y1 (Y1 (Y1 (Y1 (Y1 (Y1 (Y1 (Y1 (Y1 (Y1 (Y1 (Y1 (Y1 (Y1 (Y1 (Y1 (Y1 (Y1 (Y1 (Y1 (Y1 (Y1 (Y1 (Y1 (Y1 (Y1 (Y1 (Y1 (Y1 (Y1 (Y1 (Y1 (kcc (fun _ _ _ _ _ h => h) (kcc (fun _ _ _ _ _ h => h) Yn)))))))))))))))))))))))))))))))))))))))))) ?_ ?_
         ·intro _
          exact ⟨(have z9 := HK.out.b; bl1), bl0, fun h => absurd h Yd⟩
         rotate_left 40
         ·skip
          iterate 2 refine zq0 ?_
          refine Yz (fun u wq n hn hn2 hC hk K hK => ?_) ?_
          ·obtain ⟨hR, hP, hN⟩ := hC
           simp only [calmKnown, lg0, lg1, and_true, Is] at hk
           have h1 := hk; clear hk
           simp only [h1] at hK ⊢
           have H1 := Yh h1; clear h1
           obtain ⟨z9, z0, z1, z2, z3, z4, z5, z6, z7⟩ := HH.out.below hP
           dsimp only at z0 z1 z2 z3 z4 z5 z6 z7
           go_simp
           exact hK _ _ _ rfl ⟨hR, hP, hN⟩ trivial rfl
          iterate 4 refine zq0 ?_
          refine Yz (fun u wq n hn hn2 hC hk K hK => ?_) ?_
          ·obtain ⟨hR, hP, hN⟩ := hC
           simp only [calmKnown, lg0, lg1, and_true, Is] at hk
           have h6 := hk; clear hk
           simp only [h6] at hK ⊢
           have H6 := Yh h6; clear h6
           obtain ⟨z9, z0, z1, z2, z3, z4, z5, z6, z7⟩ := HH.out.below hP
           dsimp only at z0 z1 z2 z3 z4 z5 z6 z7
           go_simp
           exact hK _ _ _ rfl ⟨hR, hP, hN⟩ trivial rfl
          iterate 4 refine zq0 ?_
          refine Yz (fun u wq n hn hn2 hC hk K hK => ?_) ?_
          ·obtain ⟨hR, hP, hN⟩ := hC
           simp only [calmKnown, lg0, lg1, and_true, Is] at hk
           have h11 := hk; clear hk
           simp only [h11] at hK ⊢
           have H11 := Yh h11; clear h11
           obtain ⟨z9, z0, z1, z2, z3, z4, z5, z6, z7⟩ := HH.out.below hP
           dsimp only at z0 z1 z2 z3 z4 z5 z6 z7
           go_simp
           exact hK _ _ _ rfl ⟨hR, hP, hN⟩ trivial rfl
          iterate 4 refine zq0 ?_
          refine Yz (fun u wq n hn hn2 hC hk K hK => ?_) ?_
          ·obtain ⟨hR, hP, hN⟩ := hC
           simp only [calmKnown, lg0, lg1, and_true, Is] at hk
           have h16 := hk; clear hk
           simp only [h16] at hK ⊢
           have H16 := Yh h16; clear h16
           obtain ⟨z9, z0, z1, z2, z3, z4, z5, z6, z7⟩ := HH.out.below hP
           dsimp only at z0 z1 z2 z3 z4 z5 z6 z7
           go_simp
           exact hK _ _ _ rfl ⟨hR, hP, hN⟩ trivial rfl
          iterate 4 refine zq0 ?_
          refine Yz (fun u wq n hn hn2 hC hk K hK => ?_) ?_
          ·obtain ⟨hR, hP, hN⟩ := hC
           simp only [calmKnown, lg0, lg1, and_true, Is] at hk
           have h21 := hk; clear hk
           simp only [h21] at hK ⊢
           have H21 := Yh h21; clear h21
           obtain ⟨z9, z0, z1, z2, z3, z4, z5, z6, z7⟩ := HH.out.below hP
           dsimp only at z0 z1 z2 z3 z4 z5 z6 z7
           go_simp
           exact hK _ _ _ rfl ⟨hR, hP, hN⟩ trivial rfl
          iterate 4 refine zq0 ?_
          refine Yz (fun u wq n hn hn2 hC hk K hK => ?_) ?_
          ·obtain ⟨hR, hP, hN⟩ := hC
           simp only [calmKnown, lg0, lg1, and_true, Is] at hk
           have h26 := hk; clear hk
           simp only [h26] at hK ⊢
           have H26 := Yh h26; clear h26
           obtain ⟨z9, z0, z1, z2, z3, z4, z5, z6, z7⟩ := HH.out.below hP
           dsimp only at z0 z1 z2 z3 z4 z5 z6 z7
           go_simp
           exact hK _ _ _ rfl ⟨hR, hP, hN⟩ trivial rfl
          iterate 4 refine zq0 ?_
          refine Yz (fun u wq n hn hn2 hC hk K hK => ?_) ?_
          ·obtain ⟨hR, hP, hN⟩ := hC
           simp only [calmKnown, lg0, lg1, and_true, Is] at hk
           have h31 := hk; clear hk
           simp only [h31] at hK ⊢
           have H31 := Yh h31; clear h31
           obtain ⟨z9, z0, z1, z2, z3, z4, z5, z6, z7⟩ := HH.out.below hP
           dsimp only at z0 z1 z2 z3 z4 z5 z6 z7
           go_simp
           exact hK _ _ _ rfl ⟨hR, hP, hN⟩ trivial rfl
          iterate 4 refine zq0 ?_
          refine Yz (fun u wq n hn hn2 hC hk K hK => ?_) ?_
          ·obtain ⟨hR, hP, hN⟩ := hC
           simp only [calmKnown, lg0, lg1, and_true, Is] at hk
           have h36 := hk; clear hk
           simp only [h36] at hK ⊢
           have H36 := Yh h36; clear h36
           obtain ⟨z9, z0, z1, z2, z3, z4, z5, z6, z7⟩ := HH.out.below hP
           dsimp only at z0 z1 z2 z3 z4 z5 z6 z7
           go_simp
           exact hK _ _ _ rfl ⟨hR, hP, hN⟩ trivial rfl
          iterate 2 refine zq0 ?_
          refine Yz (fun u wq n hn hn2 hC hk K hK => ?_) ?_
          ·obtain ⟨hR, hP, hN⟩ := hC
           simp only [calmKnown, lg0, lg1, and_true, Is] at hk
           obtain ⟨h4, h9, h14, h19, h24, h29, h34, h39⟩ := hk
           simp only [h4, h9, h14, h19, h24, h29, h34, h39] at hK ⊢
           have H4 := Yh h4; clear h4; have H9 := Yh h9; clear h9; have H14 := Yh h14; clear h14; have H19 := Yh h19; clear h19; have H24 := Yh h24; clear h24; have H29 := Yh h29; clear h29; have H34 := Yh h34; clear h34; have H39 := Yh h39; clear h39
           obtain rfl := hn 0 rfl
           clear hN
           go_simp
           exact hK _ _ _ rfl ⟨hR.alloc (hR.size) _, hP.alloc hP.size _, fun _ => ⟨_, rfl, hR.size, Blk.new _ _ _⟩⟩ trivial ⟨_, rfl⟩
          refine Yz (fun u wq n hn hn2 hC hk K hK => ?_) ?_
          ·obtain ⟨hR, hP, hN⟩ := hC
           simp only [calmKnown, lg0, lg1, and_true, Is] at hk
           obtain ⟨g9, e9⟩ := hk
           clear e9
           go_simp
           exact hK _ _ _ rfl ⟨hR, hP, hN⟩ trivial rfl
          exact Yw
         ·intro u w2 hC hF
          obtain ⟨hR, hP, hN⟩ := hC
          obtain ⟨g9, hg9, hgl, hgb⟩ := hN rfl
          clear hN hP
          have e40 : u 40 = .slice (some ⟨g9, 0, none⟩) 8 8 := by simpa using hg9
          simp only [calmFacts, Is, and_true] at hF
          obtain ⟨f0, f1, f2, f3, f4, f5, f6, f7, f8, f9, f10, f11, f12, f13, f14, f15, f16, f17, f18, f19, f20, f21, f22, f23, f24, f25, f26, f27, f28, f29, f30, f31, f32, f33, f34, f35, f36, f37, f38, f39, f40, f41⟩ := hF
          have e41 : u 41 = u 40 := by simpa using f41.symm
          simp only [f0, f1, f2, f3, f4, f5, f6, f7, f8, f9, f10, f11, f12, f13, f14, f15, f16, f17, f18, f19, f20, f21, f22, f23, f24, f25, f26, f27, f28, f29, f30, f31, f32, f33, f34, f35, f36, f37, f38, f39, e41, e40]
          clear f0 f1 f2 f3 f4 f5 f6 f7 f8 f9 f10 f11 f12 f13 f14 f15 f16 f17 f18 f19 f20 f21 f22 f23 f24 f25 f26 f27 f28 f29 f30 f31 f32 f33 f34 f35 f36 f37 f38 f39 f40 f41 hg9 e41 e40
          go_wp2
          go_ret
          exact ⟨g9, rfl, hgl, by rw [HFIN.out]; exact hgb, hR⟩
end Go.Proofs.YtiinmhfolfgobaaGreatDoor
