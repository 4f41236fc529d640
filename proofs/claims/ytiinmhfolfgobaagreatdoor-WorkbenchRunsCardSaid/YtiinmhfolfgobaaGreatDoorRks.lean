/- save of the reference of chapter 43. -/
import Derived.Test.YtiinmhfolfgobaaGreatDoorJ41
import Derived.Test.YtiinmhfolfgobaaGreatDoorJ44
import Derived.Test.YtiinmhfolfgobaaGreatDoorRps
set_option linter.unusedVariables false
set_option linter.unusedSimpArgs false
namespace Go.Proofs.YtiinmhfolfgobaaGreatDoor
open Go.RowKit Go.Lib Go.Shelf Go.Sort
set_option maxHeartbeats 32000000
set_option maxRecDepth 100000
def RsRel (w : World) (l : List Kw) (G : Nat) (i : Value) (wr : World) : Prop := ∃ q : Nat, q ≤ l.length ∧ G = l.length - q ∧ i = .int .i64 q ∧ firstK l = firstK (l.drop q) ∧ Below w.heap.size w wr
theorem wakeT_vS {k : K6} {n0 n1 n2 : Int} (h : (wakeT k n0 n1 n2).2.2 = 0) : vS (wakeT k n0 n1 n2).1 (wakeT k n0 n1 n2).2.1 = true := by
 unfold wakeT at h ⊢
 by_cases h1 : kE k.at_ k.lo k.hi k.pp k.le k.re = 0
 ·rw [if_pos h1] at h ⊢
  by_cases h2 : 0 ≤ n0
  ·rw [if_pos h2] at h ⊢
   by_cases h3 : vS n1 n2 = true
   ·rw [if_pos h3] at h ⊢
    by_cases h4 : 0 ≤ n1
    ·rw [if_pos h4] at h ⊢
     by_cases h5 : vS (k.lo + n1) (k.hi + n2) = true
     ·rw [if_pos h5]; exact h5
     ·rw [if_neg h5] at h; exact absurd h Yd
    ·rw [if_neg h4] at h; exact absurd h Yd
   ·rw [if_neg h3] at h; exact absurd h Yd
  ·rw [if_neg h2] at h; exact absurd h Yd
 ·rw [if_neg h1] at h; exact absurd h h1
theorem rsaveB_any (B g : Nat) (b : Bn) (n0 n1 n2 : Int) (w : World) (h : RbAt B w g b) (hl : b.out.length ≤ 900000) (hn8 : b.srcs.length ≤ 8) (v0 : vT n0 = true) :
  Calls Tryz.prog 84 #[.pointer (some ⟨g, 0, none⟩), .int .i64 n0, .int .i64 n1, .int .i64 n2] w (RnR B g w (svB b n0 n1 n2)) := by
 have HH := Yh h
 have HWB := Yh (wakeO_b (firstK b.srcs) n0 n1 n2)
 show Calls _ _ _ _ (RnR B g w (b.wokeT (wakeO (firstK b.srcs) n0 n1 n2)))
 obtain ⟨hB0, -, VS, VK, bB0, hk⟩ := h
 have hgl := bB0.lt
 have hk2 : ∃ gs gk cs cb, 0 < b.srcs.length → VS = .slice (some ⟨gs, 0, none⟩) b.srcs.length b.srcs.length ∧ VK = .slice (some ⟨gk, 0, none⟩) b.srcs.length b.srcs.length ∧ Blk w gs 4 cs ∧ Blk w gk 44 cb ∧ KsAt cs cb b.srcs := by
  rcases hk with ⟨h0, -, -⟩ | ⟨gs, gk, cs, cb, e1, e2, -, -, e5, e6, e7⟩
  ·exact ⟨0, 0, #[], #[], fun h => by rw [h0] at h; simp at h⟩
  ·exact ⟨gs, gk, cs, cb, fun _ => ⟨e1, e2, e5, e6, e7⟩⟩
 obtain ⟨gs, gk, cs, cb, hk3⟩ := hk2
 have HK3 := Yh hk3; have HB0 := Yh bB0
 clear hk hk3 bB0
 go_enter Tryz.func84, Tryz.ntmps84
 go_wp2
 go_loopg [9] b.srcs.length (fun G i wr => RsRel w b.srcs G i wr)
 case atStart => exact ⟨0, Yo, Yo, rfl, by rw [List.drop_zero], Below.refl _ _⟩
 case round =>
  obtain ⟨q, hq, rfl, rfl, hfk, KR⟩ := hrel
  have ZR := KR.size
  have HFK := Yh hfk; have HKR := Yh KR; clear hfk
  have bP := Yk KR HB0.out
  unfold rbC at bP
  have cP := bP.cell; have lP := bP.lt
  by_cases hlt : q < b.srcs.length
  ·have gp : decide ((q : Int) < (b.srcs.length : Int)) = true := Y2
   have gpn : decide (q < b.srcs.length) = true := decide_eq_true hlt
   have ge1 : ((q : Int) == (b.srcs.length : Int)) = false := Y5
   have ge2 : decide ((q : Int) = (b.srcs.length : Int)) = false := Y3
   have ge3 : decide (q = b.srcs.length) = false := Y3
   have ge4 : (q == b.srcs.length) = false := Y5
   have wp : IntKind.i64.wrap ((q : Int) + 1) = ((q + 1 : Nat) : Int) := Y4
   obtain ⟨rfl, rfl, hSb, hKb, hKs⟩ := HK3.out Yo
   have bS := Yk KR hSb; have bK := Yk KR hKb
   have lS := bS.lt; have lK := bK.lt
   obtain ⟨hc1, hc2⟩ := hKs.2.2 q hlt
   have hst := firstK_drop hlt
   have d9 := (bS.cell q).trans hc1
   have d0 := (bK.cell (q * 6)).trans (hc2 0 Yo)
   have d1 := (bK.cell (q * 6 + 1)).trans (hc2 1 Yo)
   have d2 := (bK.cell (q * 6 + 2)).trans (hc2 2 Yo)
   have d3 := (bK.cell (q * 6 + 3)).trans (hc2 3 Yo)
   have d4 := (bK.cell (q * 6 + 4)).trans (hc2 4 Yo)
   have d5 := (bK.cell (q * 6 + 5)).trans (hc2 5 Yo)
   obtain ⟨kv, hkv⟩ : ∃ kv, b.srcs.getD q (false, .zero) = kv := ⟨_, rfl⟩
   rw [hkv] at d0 d1 d2 d3 d4 d5 d9 hst
   clear hkv hc1 hc2 hKs hSb hKb HK3
   obtain ⟨bb, na, nlo, nhi, np, nle, nre⟩ := kv
   simp only [K6.cs, lg0, lg1] at d0 d1 d2 d3 d4 d5
   dsimp only at hst d9
   have HST := Yh hst; clear hst bS bK KR
   cases bb with
   | false =>
    have HFK2 := Yh (HFK.out.trans (HST.out.trans Ys) : firstK b.srcs = firstK (b.srcs.drop (q + 1)))
    clear HST HFK
    go_wp2
    go_roundg (b.srcs.length - (q + 1))
    case measure => omega
    case rel => exact ⟨q + 1, Yo, Yo, by go_num, HFK2.out, (Yc (show Below wr.heap.size wr _ from bl0) HKR.out)⟩
   | true =>
    have hk : firstK b.srcs = some ⟨na, nlo, nhi, np, nle, nre⟩ := HFK.out.trans (HST.out.trans Ys)
    have hwb := HWB.out
    rw [hk] at hwb
    have HKK := Yh hk
    clear HST HFK hk
    obtain ⟨pe, hpe⟩ : ∃ e, pE n0 ⟨na, nlo, nhi, np, nle, nre⟩ = e := ⟨_, rfl⟩
    have KR := HKR.out
    by_cases hp0 : pe = 0
    rotate_left
    ·have rs := fun W => rpsave_err n0 ⟨na, nlo, nhi, np, nle, nre⟩ v0 (by rw [hpe]; exact hp0) W
     rw [hpe] at rs
     have hbad := wake_bad (k := ⟨na, nlo, nhi, np, nle, nre⟩) (n0 := n0) (n1 := n1) (n2 := n2) (by rw [hpe]; exact hp0)
     rw [hpe] at hbad
     have HV := Yh (show b.wokeT (wakeO (firstK b.srcs) n0 n1 n2) = b.tell pe from by rw [HKK.out]; show b.wokeT (wakeT ⟨na, nlo, nhi, np, nle, nre⟩ n0 n1 n2) = _; rw [hbad]; exact if_neg hp0)
     have hei : errI pe := by have h9 := hwb.1; rw [show wakeO (some (⟨na, nlo, nhi, np, nle, nre⟩ : K6)) n0 n1 n2 = wakeT ⟨na, nlo, nhi, np, nle, nre⟩ n0 n1 n2 from rfl, hbad] at h9; exact h9
     have RS := Yh rs
     have g1 : (pe == 0) = false := by simpa using hp0
     have g2 : (pe != 0) = true := by simpa using hp0
     have g3 : decide (pe = 0) = false := decide_eq_false hp0
     clear rs hpe hbad hwb
     go_wp2_with fail
     refine (RS.out _).mono ?_
     rintro e w1 ⟨rfl, hb1⟩
     have K1 : Below w.heap.size w w1 := Yc hb1 bl1
     have Z1 := K1.size
     clear hb1 KR
     clear d0 d1 d2 d3 d4 d5 d9 cP
     go_wp2_with fail
     refine (rfailed_any B g b pe _ (HH.out.below bl1) hei hl).mono ?_
     rintro e w8 ⟨rfl, h3, hT3⟩
     have H3 := Yh h3; have HT3 := Yh (PastT.trans (PastT.below (show Below w.heap.size w _ from bl1)) hT3)
     clear h3 hT3
     go_wp2
     go_ret
     rw [HV.out]
     exact ⟨rfl, H3.out, HT3.out⟩
    have hp1 : pE n0 ⟨na, nlo, nhi, np, nle, nre⟩ = 0 := hpe.trans hp0
    obtain ⟨hk1, hk2⟩ := pE_0 hp1
    have RS := Yh (fun W => rpsave_ok n0 ⟨na, nlo, nhi, np, nle, nre⟩ v0 hp1 W)
    have RL := Yh (fun gf c h W hW => rpload_ok gf c n0 ⟨na, nlo, nhi, np, nle, nre⟩ h v0 hp1 W hW)
    have RW9 := Yh (fun W => rpwake_any n0 n1 n2 ⟨na, nlo, nhi, np, nle, nre⟩ hk1 hk2 W)
    clear hpe hp0 hp1 hk1 hk2 HWB
    have hvs := wakeT_vS (k := ⟨na, nlo, nhi, np, nle, nre⟩) (n0 := n0) (n1 := n1) (n2 := n2)
    rw [show wakeO (some (⟨na, nlo, nhi, np, nle, nre⟩ : K6)) n0 n1 n2 = wakeT ⟨na, nlo, nhi, np, nle, nre⟩ n0 n1 n2 from rfl] at hwb
    obtain ⟨wr9, hwr⟩ : ∃ r, wakeT ⟨na, nlo, nhi, np, nle, nre⟩ n0 n1 n2 = r := ⟨_, rfl⟩
    rw [hwr] at RW9 hvs hwb
    have HV := Yh (show b.wokeT (wakeO (firstK b.srcs) n0 n1 n2) = b.wokeT wr9 from by rw [HKK.out, ← hwr]; rfl)
    clear hwr
    obtain ⟨rx, ry, re9⟩ := wr9
    dsimp only at RW9 hvs hwb
    have HVS := Yh hvs; have HWB := Yh hwb; clear hvs hwb
    go_wp2_with fail
    refine (RS.out _).mono ?_
    rintro e w1 ⟨gf, cf, rfl, hcf, hgf, hfb, hb1⟩
    have HFB := Yh hfb; clear hfb
    have K1 : Below w.heap.size w w1 := Yc hb1 bl1
    have Z1 := K1.size
    clear hb1 KR
    clear d0 d1 d2 d3 d4 d5 d9 cP bP
    go_wp2_with fail
    refine (RL.out gf cf hcf _ (HFB.out.below bl0)).mono ?_
    rintro e w2 ⟨rfl, hb2⟩
    have K2 : Below w.heap.size w w2 := Yc hb2 bl1
    have Z2 := K2.size
    clear hb2 K1
    clear HFB RS RL
    by_cases hre : re9 = 0
    rotate_left
    ·have hv0 : wkV np (rx, ry, re9) = .tuple #[.agg #[.int .i64 0, .int .i64 0, .int .i64 0, .int .i64 0, .int .i64 0, .int .i64 0], .int .i64 re9] := by unfold wkV; rw [if_neg hre]
     rw [hv0] at RW9
     have HV2 := Yh (HV.out.trans (if_neg hre) : b.wokeT (wakeO (firstK b.srcs) n0 n1 n2) = b.tell re9)
     clear hv0 HV
     have g1 : (re9 == 0) = false := by simpa using hre
     have g2 : (re9 != 0) = true := by simpa using hre
     have g3 : decide (re9 = 0) = false := decide_eq_false hre
     go_wp2_with fail
     refine (RW9.out _).mono ?_
     rintro e w3 ⟨rfl, hb3⟩
     have K3 : Below w.heap.size w w3 := Yc hb3 bl1
     have Z3 := K3.size
     have b3_0 := Yk (g := w2.heap.size) hb3 bn0
     (try simp only [lst, ls0, ls1] at b3_0)
     clear hb3 K2
     obtain ⟨c3_0, f3_0, l3_0, e3_0, k3_0⟩ := Yf b3_0
     have o3_0 := l3_0
     go_wp2_with fail
     refine (rfailed_any B g b re9 _ (HH.out.below bl1) HWB.out.1 hl).mono ?_
     rintro e w8 ⟨rfl, h3, hT3⟩
     have H3 := Yh h3; have HT3 := Yh (PastT.trans (PastT.below (show Below w.heap.size w _ from bl1)) hT3)
     clear h3 hT3
     go_wp2
     go_ret
     rw [HV2.out]
     exact ⟨rfl, H3.out, HT3.out⟩
    subst hre
    have hv0 : wkV np (rx, ry, 0) = .tuple #[.agg #[.int .i64 0, .int .i64 rx, .int .i64 ry, .int .i64 np, .int .i64 0, .int .i64 0], .int .i64 0] := by unfold wkV; rw [if_pos rfl]
    rw [hv0] at RW9
    have HV2 := Yh (HV.out.trans (if_pos rfl) : b.wokeT (wakeO (firstK b.srcs) n0 n1 n2) = (b.say wWake [rx, ry], 0))
    clear hv0 HV
    go_wp2_with fail
    refine (RW9.out _).mono ?_
    rintro e w3 ⟨rfl, hb3⟩
    have K3 : Below w.heap.size w w3 := Yc hb3 bl1
    have Z3 := K3.size
    have b3_0 := Yk (g := w2.heap.size) hb3 bn0
    (try simp only [lst, ls0, ls1] at b3_0)
    clear hb3 K2
    obtain ⟨c3_0, f3_0, l3_0, e3_0, k3_0⟩ := Yf b3_0
    have o3_0 := l3_0
    have hvv := vS_true.1 (HVS.out (by trivial))
    obtain ⟨hsx, hsy⟩ := vS_small (HVS.out (by trivial))
    obtain ⟨L, hL, nL, rL⟩ := rline_c wWake #[119, 97, 107, 101] rfl Yd [rx, ry] 2 rfl Yd (fun n hn => by simp at hn; rcases hn with rfl | rfl; exact ⟨hsx, Yo⟩; exact ⟨hsy, Yo⟩)
    have RL9 := Yh rL; have HL := Yh hL; clear rL hL hvv hsx hsy
    obtain ⟨O, hO⟩ : ∃ O, b.out = O := ⟨_, rfl⟩
    rw [hO] at hl
    obtain ⟨O2, hO2⟩ : ∃ M, O ++ L = M := ⟨_, rfl⟩
    have HO := Yh hO; have HO2 := Yh hO2; clear hO2
    go_upto_region 15 with fail
    obtain ⟨w8, hw8⟩ : ∃ x : World, x = w3.alloc (.cells #[.int .i64 0, .int .i64 rx, .int .i64 ry, .int .i64 np, .int .i64 0, .int .i64 0] 44) := ⟨_, rfl⟩
    have bK9 : Blk w8 w3.heap.size 44 #[.int .i64 0, .int .i64 rx, .int .i64 ry, .int .i64 np, .int .i64 0, .int .i64 0] := by rw [hw8]; exact Blk.new _ _ _
    have K8 : Below w.heap.size w w8 := by rw [hw8]; exact Yc (below_new _ _) K3
    have hg8 : g ≠ w3.heap.size := by omega
    have hg9 : w3.heap.size ≠ g := by omega
    rw [← hw8]
    clear hw8
    have H8 := Yh (HH.out.below K8); have bB8 := Yk K8 HB0.out
    have bB := bB8
    unfold rbC at bB
    rw [hO] at bB
    clear hO
    have hgl8 := bB8.lt; have Z8 := K8.size
    have HK8 := Yh K8
    clear K3 K8
    obtain ⟨g9, hg9e⟩ : ∃ q, w3.heap.size = q := ⟨_, rfl⟩
    rw [hg9e] at bK9 hg8 hg9 ⊢
    clear b3_0 c3_0 f3_0 l3_0 e3_0 k3_0
    refine' wp_region_calm Yr (fun n _ w' => Past [g] w8 w' ∧ (n = 0 → Blk w' g 100 #[.bool b.begun, .bool (b.srcs.any (·.1)), .int .i64 (b.srcs.length : Int), .int .i64 b.li, .int .i64 b.p, (.slice (some ⟨gs, 0, none⟩) b.srcs.length b.srcs.length), (.slice (some ⟨gk, 0, none⟩) b.srcs.length b.srcs.length), .int .i64 b.ck.aim, .int .i64 b.ck.rate, .bool b.ck.set, .bool b.ck.held, .int .i64 b.ck.at_, .int .i64 b.ck.shown, .string ⟨O.toArray⟩]) ∧ (n = 1 → Blk w' g 100 #[.bool b.begun, .bool (b.srcs.any (·.1)), .int .i64 (b.srcs.length : Int), .int .i64 b.li, .int .i64 b.p, (.slice (some ⟨gs, 0, none⟩) b.srcs.length b.srcs.length), (.slice (some ⟨gk, 0, none⟩) b.srcs.length b.srcs.length), .int .i64 b.ck.aim, .int .i64 b.ck.rate, .bool b.ck.set, .bool b.ck.held, .int .i64 b.ck.at_, .int .i64 b.ck.shown, .string ⟨O2.toArray⟩]) ∧ Blk w' (g9) 44 #[.int .i64 0, .int .i64 rx, .int .i64 ry, .int .i64 np, .int .i64 0, .int .i64 0]) (fun a b => Past [g] a b) [Is _, Is _, Is _, Is _, Is _, Is _, Is _, Is _, Is _, Is _, (SliceN [g] 3 2 #[.int .i64 rx, .int .i64 ry]), Is _, (Is (.string ⟨O2.toArray⟩)), Is _, Is _, (fun _ _ _ => True)] [[], [0], [1], [2], [], [4], [5], [], [7], [8], [6, 9], [10], [3, 11], [0], [13], [14, 12]] [15] [] rfl (calmB_of Yr) Yp ?_ (Y1 (Y1 (Y1 (Y1 (Y1 (Y1 (Y1 (Y1 (Y1 (Y1 (kcc keep_sliceP (Y1 (Y1 (Y1 (Y1 (Y0 Yn)))))))))))))))) ?_ ?_
    ·intro _
     exact ⟨(Past.refl _ _).drew, (fun _ => (bB.drew)), Ye, (bK9.drew)⟩
    rotate_left 13
    ·skip
     iterate 3 refine zq0 ?_
     refine zq1 (fun _ _ _ _ hn2 ⟨_, h0, _, mK9⟩ => have hB := h0 (Nat.le_zero.1 (hn2 0 15 rfl Yr)); Ya hB (Ya (Yq hB) (Yq mK9))) ?_
     iterate 2 refine zq0 ?_
     refine zq1 (fun _ _ _ _ hn2 ⟨_, h0, _, mK9⟩ => have hB := h0 (Nat.le_zero.1 (hn2 0 15 rfl Yr)); Ya hB (Ya (Yq hB) (Yq mK9))) ?_
     iterate 2 refine zq0 ?_
     refine zq1 (fun _ _ _ _ hn2 ⟨_, h0, _, mK9⟩ => have hB := h0 (Nat.le_zero.1 (hn2 0 15 rfl Yr)); Ya hB (Ya (Yq hB) (Yq mK9))) ?_
     refine Yz (fun u wq n hn hn2 hC hk K hK => ?_) ?_
     ·obtain ⟨hP, h0, h1, mK9⟩ := hC
      simp only [calmKnown, lg0, lg1, and_true, Is, Pure, osj, ld0, ld1, lm1, lm0] at hk
      obtain ⟨h6, h9⟩ := hk
      simp only [h6, h9] at hK ⊢
      have H6 := Yh h6; clear h6; have H9 := Yh h9; clear h9
      have hz9 := hP.1
      go_simp
      exact hK _ _ _ rfl ⟨hP.allocs _, (fun h => (h0 h).alloc _), (fun h => (h1 h).alloc _), mK9.alloc _⟩ ((Past.refl _ _).allocs _) ⟨_, rfl, Y7, Blk.new _ _ _⟩
     refine Yz (fun u wq n hn hn2 hC hk K hK => ?_) ?_
     ·obtain ⟨hP, h0, h1, mK9⟩ := hC
      simp only [calmKnown, lg0, lg1, and_true, Is, Pure, osj, ld0, ld1, lm1, lm0] at hk
      obtain ⟨g10, h10, -, q10⟩ := hk
      simp only [h10] at hK ⊢
      have H10 := Yh h10; clear h10
      refine calm_op (by rfl) ?_
      go_simp
      refine (RL9.out _ _ (NumsR.of (zs := [rx, ry]) q10)).mono ?_
      rintro e w9 ⟨rfl, hbl⟩
      exact hK _ _ _ rfl ⟨hP.call hbl, (fun h => Yk hbl (h0 h)), (fun h => Yk hbl (h1 h)), Yk hbl mK9⟩ (Past.below hbl) rfl
     refine Yz (fun u wq n hn hn2 hC hk K hK => ?_) ?_
     ·obtain ⟨hP, h0, h1, mK9⟩ := hC
      simp only [calmKnown, lg0, lg1, and_true, Is, Pure, osj, ld0, ld1, lm1, lm0] at hk
      obtain ⟨h3, h11⟩ := hk
      simp only [h3, h11] at hK ⊢
      have H3 := Yh h3; clear h3; have H11 := Yh h11; clear h11
      have ea : ({ data := O.toArray } : ByteArray) ++ { data := L.toArray } = { data := O2.toArray } := by rw [← HO2.out]; simp [ByteArray.mk_append_mk]
      go_simp
      (try simp only [ea])
      (try simp only [HO2.out])
      rw [if_neg Yo, Oper.upon_value]
      exact hK _ _ _ rfl ⟨hP, h0, h1, mK9⟩ (Past.refl _ _) rfl
     iterate 2 refine zq0 ?_
     refine Yz (fun u wq n hn hn2 hC hk K hK => ?_) ?_
     ·obtain ⟨hP, h0, h1, mK9⟩ := hC
      simp only [calmKnown, lg0, lg1, and_true, Is, Pure, osj, ld0, ld1, lm1, lm0] at hk
      obtain ⟨h14, h12⟩ := hk
      simp only [h14, h12] at hK ⊢
      have H14 := Yh h14; clear h14; have H12 := Yh h12; clear h12
      obtain rfl := hn 0 rfl
      have hB := h0 rfl
      have cB := hB.cell; have lB := hB.lt; have fB := hB.frozen
      have hB2 := hB.set_ 13 (.string ⟨O2.toArray⟩)
      try unfold rbC at cB
      try unfold rbC at hB2
      (try simp only [lst, ls0, ls1] at hB2)
      go_simp
      exact hK _ undef _ rfl ⟨hP.trans (Past.set Ys _), Ye, (fun _ => (by exact hB2)), mK9.setO Y7 _⟩ (Past.set Ys _) trivial
     exact Yw
    ·intro u w9 hC hF
     obtain ⟨hP, -, h1, mK9⟩ := hC
     have hB := h1 rfl
     clear h1 hF
     obtain ⟨hb9, hT9⟩ := H8.out.out (b' := b.say wWake [rx, ry]) hP rfl (fun VS' VK' hB' => by
      unfold Blk at hB' bB8
      rw [bB8] at hB'
      injection hB' with hB'
      injection hB' with hB' _ _
      have e1 := congrArg (fun a => a[5]?) hB'
      have e2 := congrArg (fun a => a[6]?) hB'
      simp [rbC] at e1 e2
      subst e1; subst e2
      have e3 : rbC (b.say wWake [rx, ry]) (.slice (some ⟨gs, 0, none⟩) b.srcs.length b.srcs.length) (.slice (some ⟨gk, 0, none⟩) b.srcs.length b.srcs.length) = #[.bool b.begun, .bool (b.srcs.any (·.1)), .int .i64 (b.srcs.length : Int), .int .i64 b.li, .int .i64 b.p, (.slice (some ⟨gs, 0, none⟩) b.srcs.length b.srcs.length), (.slice (some ⟨gk, 0, none⟩) b.srcs.length b.srcs.length), .int .i64 b.ck.aim, .int .i64 b.ck.rate, .bool b.ck.set, .bool b.ck.held, .int .i64 b.ck.at_, .int .i64 b.ck.shown, .string ⟨O2.toArray⟩] := by
       unfold rbC Bn.say
       dsimp only
       rw [HO.out, HL.out, HO2.out]
      rw [e3]; exact hB)
     have H9 := Yh (Ya hb9 (PastT.trans (PastT.below HK8.out) hT9))
     clear hb9 hT9 hP hB bB bB8
     go_wp2
     go_ret
     rw [HV2.out]
     exact ⟨rfl, H9.out.1, H9.out.2⟩
  ·obtain rfl : q = b.srcs.length := by omega
   have gp : decide ((b.srcs.length : Int) < (b.srcs.length : Int)) = false := Y3
   have gpn : decide (b.srcs.length < b.srcs.length) = false := Y3
   have hk : firstK b.srcs = none := HFK.out.trans (by rw [List.drop_length]; rfl)
   have HV := Yh (show b.wokeT (wakeO (firstK b.srcs) n0 n1 n2) = b.tell 10 from by rw [hk]; show b.wokeT (0, 0, 10) = _; exact if_neg Yd)
   clear HFK hk HK3 HWB
   go_wp2_with fail
   refine (rfailed_any B g b 10 _ (HH.out.below bl1) (errC 10 Yo) hl).mono ?_
   rintro e w8 ⟨rfl, h3, hT3⟩
   have H3 := Yh h3; have HT3 := Yh (PastT.trans (PastT.below (show Below w.heap.size w _ from bl1)) hT3)
   clear h3 hT3
   go_wp2
   go_ret
   rw [HV.out]
   exact ⟨rfl, H3.out, HT3.out⟩
end Go.Proofs.YtiinmhfolfgobaaGreatDoor
