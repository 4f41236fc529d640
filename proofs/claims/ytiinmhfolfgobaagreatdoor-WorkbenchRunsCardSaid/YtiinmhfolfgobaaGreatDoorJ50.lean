/- Lemmas. -/
import Derived.Test.YtiinmhfolfgobaaGreatDoorJ47
import Derived.Test.YtiinmhfolfgobaaGreatDoorJ46
import Derived.Test.YtiinmhfolfgobaaGreatDoorRks
import Derived.Test.YtiinmhfolfgobaaGreatDoorJ43
import Derived.Test.YtiinmhfolfgobaaGreatDoorJ42
import Derived.Test.YtiinmhfolfgobaaGreatDoorJ41
import Derived.Test.YtiinmhfolfgobaaGreatDoorJ34
set_option linter.unusedVariables false
set_option linter.unusedSimpArgs false
namespace Go.Proofs.YtiinmhfolfgobaaGreatDoor
open Go.RowKit Go.Lib Go.Shelf Go.Sort
set_option maxHeartbeats 32000000
set_option maxRecDepth 100000
theorem rdo_utc (B g : Nat) (b : Bn) (A : Option Addr) (cap : Nat) (q : Int) (w : World) (h : RbAt B w g b) (hn : NumsR w A 1 [q]) (hl : b.out.length ≤ 900000) (hv : vT q = true) :
  Calls Tryz.prog 58 #[.pointer (some ⟨g, 0, none⟩), .string ⟨#[117, 116, 99]⟩, .slice A 1 cap] w (RnR B g w (b.utc q)) := by
 have HH := Yh h; have HN := Yh hn
 obtain ⟨gm, curN, rfl, hNb0, hNc⟩ := hn.2 Yo
 have hgm := hNb0.lt; have hgl := (show g < w.heap.size from by obtain ⟨-, -, _, _, e1, -⟩ := h; exact e1.lt)
 have cN0 := (hNb0.cell 0).trans (hNc 0 Yo)
 have hf : (fmtS q).length ≤ 100 := by
  have hb := vT_true.1 hv
  have h1 := fmt_len q Yo Yo
  simp only [fmtS, lla, Lib.repeatL_length]; simp; omega
 obtain ⟨hB0, -, VS, VK, bB, -⟩ := HH.out
 have bB0 := bB
 unfold rbC at bB
 have hgm9 : gm ≠ g := Blk.ne hNb0 bB Yd
 obtain ⟨c0, hc0⟩ : ∃ c, c = curN := ⟨_, rfl⟩
 have HC0 := Yh (hNc 0 Yo)
 have HNB := Yh hNb0
 obtain ⟨fs, hfs⟩ : ∃ l, fmtS q = l := ⟨_, rfl⟩
 have RF := Yh (fun W => hfs ▸ rformat_any q hv W)
 rw [hfs] at hf
 have HFS := Yh hfs; clear hfs
 obtain ⟨O, hO⟩ : ∃ O, b.out = O := ⟨_, rfl⟩
 rw [hO] at hl
 have HO := Yh hO
 simp only [hO] at bB
 clear hO
 obtain ⟨A1, hA1⟩ : ∃ M, [117, 116, 99, 32] ++ fs = M := ⟨_, rfl⟩
 have nA1 : A1.length ≤ 110 := by rw [← hA1]; simp; omega
 have HA1 := Yh hA1; clear hA1
 obtain ⟨A2, hA2⟩ : ∃ M, A1 ++ [10] = M := ⟨_, rfl⟩
 have nA2 : A2.length ≤ 120 := by rw [← hA2]; simp; omega
 have HA2 := Yh hA2; clear hA2
 obtain ⟨O2, hO2⟩ : ∃ M, O ++ A2 = M := ⟨_, rfl⟩
 have HO2 := Yh hO2; clear hO2
 clear h hn hNb0 hNc hc0 c0 cN0
 go_enter Tryz.func58, Tryz.ntmps58
 go_upto_region 7 with fail
 have bN7 := HNB.out; have cN7 := HC0.out
 clear HNB
 refine' wp_region_calm Yr (fun n _ w' => Past [g] w w' ∧ (n = 0 → Blk w' g 100 #[.bool b.begun, .bool (b.srcs.any (·.1)), .int .i64 (b.srcs.length : Int), .int .i64 b.li, .int .i64 b.p, VS, VK, .int .i64 b.ck.aim, .int .i64 b.ck.rate, .bool b.ck.set, .bool b.ck.held, .int .i64 b.ck.at_, .int .i64 b.ck.shown, .string ⟨O.toArray⟩]) ∧ (n = 1 → Blk w' g 100 #[.bool b.begun, .bool (b.srcs.any (·.1)), .int .i64 (b.srcs.length : Int), .int .i64 b.li, .int .i64 b.p, VS, VK, .int .i64 b.ck.aim, .int .i64 b.ck.rate, .bool b.ck.set, .bool b.ck.held, .int .i64 b.ck.at_, .int .i64 b.ck.shown, .string ⟨O2.toArray⟩]) ∧ Blk w' (gm) 3 curN) (fun a b => Past [g] a b) [Is _, Is _, Is _, Is _, Is _, Is _, Is _, Is _, (Is (.string ⟨A1.toArray⟩)), (Is (.string ⟨A2.toArray⟩)), (Is (.string ⟨O2.toArray⟩)), Is _, Is _, (fun _ _ _ => True)] [[], [0], [1], [2], [], [4], [5], [6], [7], [8], [3, 9], [0], [11], [12, 10]] [13] [] rfl (calmB_of Yr) Yp ?_ (Y1 (Y1 (Y1 (Y1 (Y1 (Y1 (Y1 (Y1 (Y1 (Y1 (Y1 (Y1 (Y1 (Y0 Yn)))))))))))))) ?_ ?_
 ·intro _
  exact ⟨(Past.refl _ _).drew, (fun _ => (bB.drew)), Ye, (bN7.drew)⟩
 rotate_left 10
 ·skip
  iterate 3 refine zq0 ?_
  refine zq1 (fun _ _ _ _ hn2 ⟨_, h0, _, mN7⟩ => have hB := h0 (Nat.le_zero.1 (hn2 0 13 rfl Yr)); Ya hB (Ya (Yq hB) (Yq mN7))) ?_
  iterate 2 refine zq0 ?_
  refine zq1 (fun _ _ _ _ hn2 ⟨_, h0, _, mN7⟩ => have hB := h0 (Nat.le_zero.1 (hn2 0 13 rfl Yr)); Ya hB (Ya (Yq hB) (Yq mN7))) ?_
  refine Yz (fun u wq n hn hn2 hC hk K hK => ?_) ?_
  ·obtain ⟨hP, h0, h1, mN7⟩ := hC
   simp only [calmKnown, lg0, lg1, and_true, Is, Pure, osj, ld0, ld1, lm1, lm0] at hk
   have h6 := hk; clear hk
   simp only [h6] at hK ⊢
   have H6 := Yh h6; clear h6
   refine calm_op (by rfl) ?_
   go_simp
   refine (RF.out _).mono ?_
   rintro e w9 ⟨rfl, hbl⟩
   exact hK _ _ _ rfl ⟨hP.call hbl, (fun h => Yk hbl (h0 h)), (fun h => Yk hbl (h1 h)), Yk hbl mN7⟩ (Past.below hbl) rfl
  refine Yz (fun u wq n hn hn2 hC hk K hK => ?_) ?_
  ·obtain ⟨hP, h0, h1, mN7⟩ := hC
   simp only [calmKnown, lg0, lg1, and_true, Is, Pure, osj, ld0, ld1, lm1, lm0] at hk
   have h7 := hk; clear hk
   simp only [h7] at hK ⊢
   have H7 := Yh h7; clear h7
   have ea : ({ data := [117, 116, 99, 32].toArray } : ByteArray) ++ { data := fs.toArray } = { data := A1.toArray } := by rw [← HA1.out]; simp [ByteArray.mk_append_mk]
   go_simp
   (try simp only [ea])
   (try simp only [HA1.out])
   rw [if_neg Yo, Oper.upon_value]
   exact hK _ _ _ rfl ⟨hP, h0, h1, mN7⟩ (Past.refl _ _) rfl
  refine Yz (fun u wq n hn hn2 hC hk K hK => ?_) ?_
  ·obtain ⟨hP, h0, h1, mN7⟩ := hC
   simp only [calmKnown, lg0, lg1, and_true, Is, Pure, osj, ld0, ld1, lm1, lm0] at hk
   have h8 := hk; clear hk
   simp only [h8] at hK ⊢
   have H8 := Yh h8; clear h8
   have ea : ({ data := A1.toArray } : ByteArray) ++ { data := [10].toArray } = { data := A2.toArray } := by rw [← HA2.out]; simp [ByteArray.mk_append_mk]
   go_simp
   (try simp only [ea])
   (try simp only [HA2.out])
   rw [if_neg Yo, Oper.upon_value]
   exact hK _ _ _ rfl ⟨hP, h0, h1, mN7⟩ (Past.refl _ _) rfl
  refine Yz (fun u wq n hn hn2 hC hk K hK => ?_) ?_
  ·obtain ⟨hP, h0, h1, mN7⟩ := hC
   simp only [calmKnown, lg0, lg1, and_true, Is, Pure, osj, ld0, ld1, lm1, lm0] at hk
   obtain ⟨h3, h9⟩ := hk
   simp only [h3, h9] at hK ⊢
   have H3 := Yh h3; clear h3; have H9 := Yh h9; clear h9
   have ea : ({ data := O.toArray } : ByteArray) ++ { data := A2.toArray } = { data := O2.toArray } := by rw [← HO2.out]; simp [ByteArray.mk_append_mk]
   go_simp
   (try simp only [ea])
   (try simp only [HO2.out])
   rw [if_neg Yo, Oper.upon_value]
   exact hK _ _ _ rfl ⟨hP, h0, h1, mN7⟩ (Past.refl _ _) rfl
  iterate 2 refine zq0 ?_
  refine Yz (fun u wq n hn hn2 hC hk K hK => ?_) ?_
  ·obtain ⟨hP, h0, h1, mN7⟩ := hC
   simp only [calmKnown, lg0, lg1, and_true, Is, Pure, osj, ld0, ld1, lm1, lm0] at hk
   obtain ⟨h12, h10⟩ := hk
   simp only [h12, h10] at hK ⊢
   have H12 := Yh h12; clear h12; have H10 := Yh h10; clear h10
   obtain rfl := hn 0 rfl
   have hB := h0 rfl
   have cB := hB.cell; have lB := hB.lt; have fB := hB.frozen
   have hB2 := hB.set_ 13 (.string ⟨O2.toArray⟩)
   try unfold rbC at cB
   try unfold rbC at hB2
   (try simp only [lst, ls0, ls1] at hB2)
   go_simp
   exact hK _ undef _ rfl ⟨hP.trans (Past.set Ys _), Ye, (fun _ => (by exact hB2)), mN7.setO Y7 _⟩ (Past.set Ys _) trivial
  exact Yw
 ·intro u w9 hC hF
  obtain ⟨hP, -, h1, mN7⟩ := hC
  have hB := h1 rfl
  clear h1 hF
  obtain ⟨hb9, hT9⟩ := HH.out.out (b' := b.say (wUtc ++ 32 :: fmtS q) []) hP rfl (fun VS' VK' hB' => by
   unfold Blk at hB' bB0
   rw [bB0] at hB'
   injection hB' with hB'
   injection hB' with hB' _ _
   have e1 : VS = VS' := by have h9 := congrArg (fun a => a[5]?) hB'; simpa [rbC] using h9
   have e2 : VK = VK' := by have h9 := congrArg (fun a => a[6]?) hB'; simpa [rbC] using h9
   subst e1; subst e2
   have e4 : O ++ sayL (wUtc ++ 32 :: fs) [] = O2 := by rw [← HO2.out, ← HA2.out, ← HA1.out]; simp [sayL, wUtc]
   have e3 : rbC (b.say (wUtc ++ 32 :: fmtS q) []) VS VK = #[.bool b.begun, .bool (b.srcs.any (·.1)), .int .i64 (b.srcs.length : Int), .int .i64 b.li, .int .i64 b.p, VS, VK, .int .i64 b.ck.aim, .int .i64 b.ck.rate, .bool b.ck.set, .bool b.ck.held, .int .i64 b.ck.at_, .int .i64 b.ck.shown, .string ⟨O2.toArray⟩] := by
    unfold rbC Bn.say
    dsimp only
    rw [HFS.out, HO.out, e4]
   rw [e3]; exact hB)
  have H9 := Yh (Ya hb9 hT9)
  clear hb9 hT9 hP hB bB bB0
  go_wp2
  go_ret
  exact ⟨rfl, H9.out.1, H9.out.2⟩
theorem rdo_now (B g : Nat) (b : Bn) (A : Option Addr) (cap : Nat) (q : Int) (w : World) (h : RbAt B w g b) (hn : NumsR w A 1 [q]) (hl : b.out.length ≤ 900000) (hb : b.begun = true) (hn8 : b.srcs.length ≤ 8) :
  Calls Tryz.prog 58 #[.pointer (some ⟨g, 0, none⟩), .string ⟨#[110, 111, 119]⟩, .slice A 1 cap] w (RnR B g w (b.now q)) := by
 have HH := Yh h; have HN := Yh hn
 obtain ⟨gm, curN, rfl, hNb0, hNc⟩ := hn.2 Yo
 have hgm := hNb0.lt; have hgl := (show g < w.heap.size from by obtain ⟨-, -, _, _, e1, -⟩ := h; exact e1.lt)
 have cN0 := (hNb0.cell 0).trans (hNc 0 Yo)
 have RM := Yh (fun W h => rmergeB_any B g b q W h hn8)
 have hmb := mgO_b (knowns b.srcs) q b.li
 unfold Bn.now
 obtain ⟨m3, hm3⟩ : ∃ z, mgO (knowns b.srcs) q b.li = z := ⟨_, rfl⟩
 rw [hm3] at RM hmb ⊢
 obtain ⟨x, y, er⟩ := m3
 dsimp only at RM hmb
 clear hm3
 have HMB := Yh hmb; clear hmb
 obtain ⟨hB0, -, VS, VK, bB0, -⟩ := HH.out
 have HB0 := Yh bB0
 have cP := bB0.cell
 unfold rbC at cP
 simp only [hb] at cP
 clear h hn bB0 hNb0 hNc
 go_enter Tryz.func58, Tryz.ntmps58
 go_wp2_with fail
 refine (RM.out _ HH.out).mono ?_
 rintro e w1 ⟨rfl, hb1⟩
 have Z1 := hb1.size
 have K1 := Yh hb1
 clear hb1 cP cN0
 by_cases her : er = 0
 rotate_left 1
 ·have g1 : (er == 0) = false := by simpa using her
  have g2 : (er != 0) = true := by simpa using her
  have g3 : decide (er = 0) = false := decide_eq_false her
  have HV := Yh (show b.nowT (x, y, er) = b.tell er from if_neg her)
  go_wp2_with fail
  refine (rfailed_any B g b er _ (HH.out.below (Yc (show Below w1.heap.size w1 _ from bl0) K1.out)) HMB.out.1 hl).mono ?_
  rintro e w3 ⟨rfl, h3, hT3⟩
  have H3 := Yh (Ya h3 (PastT.trans (PastT.below (show Below w.heap.size w _ from Yc (show Below w1.heap.size w1 _ from bl0) K1.out)) hT3))
  clear h3 hT3
  go_wp2
  go_ret
  rw [HV.out]
  exact ⟨rfl, H3.out.1, H3.out.2⟩
 subst her
 have HV := Yh (show b.nowT (x, y, 0) = (b.say wSpan [x, y], 0) from if_pos rfl)
 have hvv := vS_true.1 (HMB.out.2 (by trivial))
 obtain ⟨hsx, hsy⟩ := vS_small (HMB.out.2 (by trivial))
 obtain ⟨L, hL, nL, rL⟩ := rline_c wSpan #[115, 112, 97, 110] rfl Yd [x, y] 2 rfl Yd (fun n hn => by simp at hn; rcases hn with rfl | rfl; exact ⟨hsx, Yo⟩; exact ⟨hsy, Yo⟩)
 have RL9 := Yh rL; have HL := Yh hL; clear rL hL hvv hsx hsy
 obtain ⟨O, hO⟩ : ∃ O, b.out = O := ⟨_, rfl⟩
 rw [hO] at hl
 obtain ⟨O2, hO2⟩ : ∃ M, O ++ L = M := ⟨_, rfl⟩
 have HO := Yh hO; have HO2 := Yh hO2; clear hO2
 go_upto_region 21 with fail
 obtain ⟨w8, hw8⟩ : ∃ x9 : World, x9 = w1.alloc (.cells #[.int .i64 x, .int .i64 y] 40) := ⟨_, rfl⟩
 have bK9 : Blk w8 w1.heap.size 40 #[.int .i64 x, .int .i64 y] := by rw [hw8]; exact Blk.new _ _ _
 have K8 : Below w.heap.size w w8 := by rw [hw8]; exact Yc (below_new _ _) K1.out
 have hg8 : g ≠ w1.heap.size := by omega
 have hg9 : w1.heap.size ≠ g := by omega
 rw [← hw8]
 clear hw8
 have H8 := Yh (HH.out.below K8); have bB0 := Yk K8 HB0.out
 have bB := bB0
 unfold rbC at bB
 rw [hO] at bB
 clear hO
 have hgl8 := bB0.lt; have Z8 := K8.size
 have HK8 := Yh K8
 clear K1 K8
 obtain ⟨g9, hg9e⟩ : ∃ q, w1.heap.size = q := ⟨_, rfl⟩
 rw [hg9e] at bK9 hg8 hg9 ⊢
 refine' wp_region_calm Yr (fun n _ w' => Past [g] w8 w' ∧ (n = 0 → Blk w' g 100 #[.bool b.begun, .bool (b.srcs.any (·.1)), .int .i64 (b.srcs.length : Int), .int .i64 b.li, .int .i64 b.p, VS, VK, .int .i64 b.ck.aim, .int .i64 b.ck.rate, .bool b.ck.set, .bool b.ck.held, .int .i64 b.ck.at_, .int .i64 b.ck.shown, .string ⟨O.toArray⟩]) ∧ (n = 1 → Blk w' g 100 #[.bool b.begun, .bool (b.srcs.any (·.1)), .int .i64 (b.srcs.length : Int), .int .i64 b.li, .int .i64 b.p, VS, VK, .int .i64 b.ck.aim, .int .i64 b.ck.rate, .bool b.ck.set, .bool b.ck.held, .int .i64 b.ck.at_, .int .i64 b.ck.shown, .string ⟨O2.toArray⟩]) ∧ Blk w' (g9) 40 #[.int .i64 x, .int .i64 y]) (fun a b => Past [g] a b) [Is _, Is _, Is _, Is _, Is _, Is _, Is _, Is _, (SliceN [g] 3 2 #[.int .i64 x, .int .i64 y]), Is _, (Is (.string ⟨O2.toArray⟩)), Is _, Is _, (fun _ _ _ => True)] [[], [0], [1], [2], [], [4], [], [6], [5, 7], [8], [3, 9], [0], [11], [12, 10]] [13] [] rfl (calmB_of Yr) Yp ?_ (Y1 (Y1 (Y1 (Y1 (Y1 (Y1 (Y1 (Y1 (kcc keep_sliceP (Y1 (Y1 (Y1 (Y1 (Y0 Yn)))))))))))))) ?_ ?_
 ·intro _
  exact ⟨(Past.refl _ _).drew, (fun _ => (bB.drew)), Ye, (bK9.drew)⟩
 rotate_left 11
 ·skip
  iterate 3 refine zq0 ?_
  refine zq1 (fun _ _ _ _ hn2 ⟨_, h0, _, mK9⟩ => have hB := h0 (Nat.le_zero.1 (hn2 0 13 rfl Yr)); Ya hB (Ya (Yq hB) (Yq mK9))) ?_
  refine zq0 ?_
  refine zq1 (fun _ _ _ _ hn2 ⟨_, h0, _, mK9⟩ => have hB := h0 (Nat.le_zero.1 (hn2 0 13 rfl Yr)); Ya hB (Ya (Yq hB) (Yq mK9))) ?_
  refine zq0 ?_
  refine zq1 (fun _ _ _ _ hn2 ⟨_, h0, _, mK9⟩ => have hB := h0 (Nat.le_zero.1 (hn2 0 13 rfl Yr)); Ya hB (Ya (Yq hB) (Yq mK9))) ?_
  refine Yz (fun u wq n hn hn2 hC hk K hK => ?_) ?_
  ·obtain ⟨hP, h0, h1, mK9⟩ := hC
   simp only [calmKnown, lg0, lg1, and_true, Is, Pure, osj, ld0, ld1, lm1, lm0] at hk
   obtain ⟨h5, h7⟩ := hk
   simp only [h5, h7] at hK ⊢
   have H5 := Yh h5; clear h5; have H7 := Yh h7; clear h7
   have hz9 := hP.1
   go_simp
   exact hK _ _ _ rfl ⟨hP.allocs _, (fun h => (h0 h).alloc _), (fun h => (h1 h).alloc _), mK9.alloc _⟩ ((Past.refl _ _).allocs _) ⟨_, rfl, Y7, Blk.new _ _ _⟩
  refine Yz (fun u wq n hn hn2 hC hk K hK => ?_) ?_
  ·obtain ⟨hP, h0, h1, mK9⟩ := hC
   simp only [calmKnown, lg0, lg1, and_true, Is, Pure, osj, ld0, ld1, lm1, lm0] at hk
   obtain ⟨g8, h8, -, q8⟩ := hk
   simp only [h8] at hK ⊢
   have H8 := Yh h8; clear h8
   refine calm_op (by rfl) ?_
   go_simp
   refine (RL9.out _ _ (NumsR.of (zs := [x, y]) q8)).mono ?_
   rintro e w9 ⟨rfl, hbl⟩
   exact hK _ _ _ rfl ⟨hP.call hbl, (fun h => Yk hbl (h0 h)), (fun h => Yk hbl (h1 h)), Yk hbl mK9⟩ (Past.below hbl) rfl
  refine Yz (fun u wq n hn hn2 hC hk K hK => ?_) ?_
  ·obtain ⟨hP, h0, h1, mK9⟩ := hC
   simp only [calmKnown, lg0, lg1, and_true, Is, Pure, osj, ld0, ld1, lm1, lm0] at hk
   obtain ⟨h3, h9⟩ := hk
   simp only [h3, h9] at hK ⊢
   have H3 := Yh h3; clear h3; have H9 := Yh h9; clear h9
   have ea : ({ data := O.toArray } : ByteArray) ++ { data := L.toArray } = { data := O2.toArray } := by rw [← HO2.out]; simp [ByteArray.mk_append_mk]
   go_simp
   (try simp only [ea])
   (try simp only [HO2.out])
   rw [if_neg Yo, Oper.upon_value]
   exact hK _ _ _ rfl ⟨hP, h0, h1, mK9⟩ (Past.refl _ _) rfl
  iterate 2 refine zq0 ?_
  refine Yz (fun u wq n hn hn2 hC hk K hK => ?_) ?_
  ·obtain ⟨hP, h0, h1, mK9⟩ := hC
   simp only [calmKnown, lg0, lg1, and_true, Is, Pure, osj, ld0, ld1, lm1, lm0] at hk
   obtain ⟨h12, h10⟩ := hk
   simp only [h12, h10] at hK ⊢
   have H12 := Yh h12; clear h12; have H10 := Yh h10; clear h10
   obtain rfl := hn 0 rfl
   have hB := h0 rfl
   have cB := hB.cell; have lB := hB.lt; have fB := hB.frozen
   have hB2 := hB.set_ 13 (.string ⟨O2.toArray⟩)
   try unfold rbC at cB
   try unfold rbC at hB2
   (try simp only [lst, ls0, ls1] at hB2)
   go_simp
   exact hK _ undef _ rfl ⟨hP.trans (Past.set Ys _), Ye, (fun _ => (by exact hB2)), mK9.setO Y7 _⟩ (Past.set Ys _) trivial
  exact Yw
 ·intro u w9 hC hF
  obtain ⟨hP, -, h1, mK9⟩ := hC
  have hB := h1 rfl
  clear h1 hF
  obtain ⟨hb9, hT9⟩ := H8.out.out (b' := b.say wSpan [x, y]) hP rfl (fun VS' VK' hB' => by
   unfold Blk at hB' bB0
   rw [bB0] at hB'
   injection hB' with hB'
   injection hB' with hB' _ _
   have e1 : VS = VS' := by have h9 := congrArg (fun a => a[5]?) hB'; simpa [rbC] using h9
   have e2 : VK = VK' := by have h9 := congrArg (fun a => a[6]?) hB'; simpa [rbC] using h9
   subst e1; subst e2
   have e3 : rbC (b.say wSpan [x, y]) VS VK = #[.bool b.begun, .bool (b.srcs.any (·.1)), .int .i64 (b.srcs.length : Int), .int .i64 b.li, .int .i64 b.p, VS, VK, .int .i64 b.ck.aim, .int .i64 b.ck.rate, .bool b.ck.set, .bool b.ck.held, .int .i64 b.ck.at_, .int .i64 b.ck.shown, .string ⟨O2.toArray⟩] := by
    unfold rbC Bn.say
    dsimp only
    rw [HO.out, HL.out, HO2.out]
   rw [e3]; exact hB)
  have H9 := Yh (Ya hb9 (PastT.trans (PastT.below HK8.out) hT9))
  clear hb9 hT9 hP hB bB bB0
  go_wp2
  go_ret
  rw [HV.out]
  exact ⟨rfl, H9.out.1, H9.out.2⟩
theorem rdo_save (B g : Nat) (b : Bn) (A : Option Addr) (cap : Nat) (n0 n1 n2 : Int) (w : World) (h : RbAt B w g b) (hn : NumsR w A 3 [n0, n1, n2]) (hl : b.out.length ≤ 900000) (hb : b.begun = true) (hn8 : b.srcs.length ≤ 8) (v0 : vT n0 = true) :
  Calls Tryz.prog 58 #[.pointer (some ⟨g, 0, none⟩), .string ⟨#[115, 97, 118, 101]⟩, .slice A 3 cap] w (RnR B g w (svB b n0 n1 n2)) := by
 have HH := Yh h; have HN := Yh hn
 obtain ⟨gm, curN, rfl, hNb0, hNc⟩ := hn.2 Yo
 have hgm := hNb0.lt; have hgl := (show g < w.heap.size from by obtain ⟨-, -, _, _, e1, -⟩ := h; exact e1.lt)
 have cN0 := (hNb0.cell 0).trans (hNc 0 Yo)
 have cN1 := (hNb0.cell 1).trans (hNc 1 Yo)
 have cN2 := (hNb0.cell 2).trans (hNc 2 Yo)
 obtain ⟨-, -, VS, VK, e1, -⟩ := HH.out
 have cP := e1.cell
 unfold rbC at cP
 simp only [hb] at cP
 clear h hn e1 hb
 go_enter Tryz.func58, Tryz.ntmps58
 go_upto_region 17 with fail
 clear cP
 refine' wp_region_calm Yr (fun n9 _ w' => (n9 = 0 → w' = w.drew) ∧ (n9 = 1 → RbAt B w' g (svB b n0 n1 n2).1 ∧ PastT B [100, 4, 44] w w')) (fun _ _ => True) [Is _, Is _, Is _, Is _, Is _, Is _, Is _, Is _, Is _, Is _, (Is (.int .i64 (svB b n0 n1 n2).2)), (Is (.int .i64 (svB b n0 n1 n2).2))] [[], [], [1], [2], [], [4], [5], [], [7], [8], [0, 3, 6, 9], [10]] [10] [] rfl (calmB_of Yr) Yp ?_ (Y1 (Y1 (Y1 (Y1 (Y1 (Y1 (Y1 (Y1 (Y1 (Y1 (Y1 (Y1 Yn)))))))))))) ?_ ?_
 ·intro _
  exact ⟨(fun _ => rfl), Ye⟩
 rotate_left 10
 ·skip
  refine Yz (fun u wq n hn hn2 hC hk K hK => ?_) ?_
  ·obtain ⟨h0, h1⟩ := hC
   clear hk
   obtain rfl := h0 (Nat.le_zero.1 (hn2 0 10 rfl Yr))
   go_simp
   exact hK _ _ _ rfl ⟨(fun _ => rfl), h1⟩ trivial rfl
  refine Yz (fun u wq n hn hn2 hC hk K hK => ?_) ?_
  ·obtain ⟨h0, h1⟩ := hC
   clear hk
   obtain rfl := h0 (Nat.le_zero.1 (hn2 0 10 rfl Yr))
   go_simp
   exact hK _ _ _ rfl ⟨(fun _ => rfl), h1⟩ trivial rfl
  refine Yz (fun u wq n hn hn2 hC hk K hK => ?_) ?_
  ·obtain ⟨h0, h1⟩ := hC
   simp only [calmKnown, lg0, lg1, and_true, Is, Pure, osj, ld0, ld1, lm1, lm0] at hk
   have h1 := hk; clear hk
   simp only [h1] at hK ⊢
   have H1 := Yh h1; clear h1
   obtain rfl := h0 (Nat.le_zero.1 (hn2 0 10 rfl Yr))
   go_simp
   exact hK _ _ _ rfl ⟨(fun _ => rfl), h1⟩ trivial rfl
  refine Yz (fun u wq n hn hn2 hC hk K hK => ?_) ?_
  ·obtain ⟨h0, h1⟩ := hC
   simp only [calmKnown, lg0, lg1, and_true, Is, Pure, osj, ld0, ld1, lm1, lm0] at hk
   have h2 := hk; clear hk
   simp only [h2] at hK ⊢
   have H2 := Yh h2; clear h2
   obtain rfl := h0 (Nat.le_zero.1 (hn2 0 10 rfl Yr))
   go_simp
   exact hK _ _ _ rfl ⟨(fun _ => rfl), h1⟩ trivial rfl
  refine Yz (fun u wq n hn hn2 hC hk K hK => ?_) ?_
  ·obtain ⟨h0, h1⟩ := hC
   clear hk
   obtain rfl := h0 (Nat.le_zero.1 (hn2 0 10 rfl Yr))
   go_simp
   exact hK _ _ _ rfl ⟨(fun _ => rfl), h1⟩ trivial rfl
  refine Yz (fun u wq n hn hn2 hC hk K hK => ?_) ?_
  ·obtain ⟨h0, h1⟩ := hC
   simp only [calmKnown, lg0, lg1, and_true, Is, Pure, osj, ld0, ld1, lm1, lm0] at hk
   have h4 := hk; clear hk
   simp only [h4] at hK ⊢
   have H4 := Yh h4; clear h4
   obtain rfl := h0 (Nat.le_zero.1 (hn2 0 10 rfl Yr))
   go_simp
   exact hK _ _ _ rfl ⟨(fun _ => rfl), h1⟩ trivial rfl
  refine Yz (fun u wq n hn hn2 hC hk K hK => ?_) ?_
  ·obtain ⟨h0, h1⟩ := hC
   simp only [calmKnown, lg0, lg1, and_true, Is, Pure, osj, ld0, ld1, lm1, lm0] at hk
   have h5 := hk; clear hk
   simp only [h5] at hK ⊢
   have H5 := Yh h5; clear h5
   obtain rfl := h0 (Nat.le_zero.1 (hn2 0 10 rfl Yr))
   go_simp
   exact hK _ _ _ rfl ⟨(fun _ => rfl), h1⟩ trivial rfl
  refine Yz (fun u wq n hn hn2 hC hk K hK => ?_) ?_
  ·obtain ⟨h0, h1⟩ := hC
   clear hk
   obtain rfl := h0 (Nat.le_zero.1 (hn2 0 10 rfl Yr))
   go_simp
   exact hK _ _ _ rfl ⟨(fun _ => rfl), h1⟩ trivial rfl
  refine Yz (fun u wq n hn hn2 hC hk K hK => ?_) ?_
  ·obtain ⟨h0, h1⟩ := hC
   simp only [calmKnown, lg0, lg1, and_true, Is, Pure, osj, ld0, ld1, lm1, lm0] at hk
   have h7 := hk; clear hk
   simp only [h7] at hK ⊢
   have H7 := Yh h7; clear h7
   obtain rfl := h0 (Nat.le_zero.1 (hn2 0 10 rfl Yr))
   go_simp
   exact hK _ _ _ rfl ⟨(fun _ => rfl), h1⟩ trivial rfl
  refine Yz (fun u wq n hn hn2 hC hk K hK => ?_) ?_
  ·obtain ⟨h0, h1⟩ := hC
   simp only [calmKnown, lg0, lg1, and_true, Is, Pure, osj, ld0, ld1, lm1, lm0] at hk
   have h8 := hk; clear hk
   simp only [h8] at hK ⊢
   have H8 := Yh h8; clear h8
   obtain rfl := h0 (Nat.le_zero.1 (hn2 0 10 rfl Yr))
   go_simp
   exact hK _ _ _ rfl ⟨(fun _ => rfl), h1⟩ trivial rfl
  refine Yz (fun u wq n hn hn2 hC hk K hK => ?_) ?_
  ·obtain ⟨h0, h1⟩ := hC
   simp only [calmKnown, lg0, lg1, and_true, Is, Pure, osj, ld0, ld1, lm1, lm0] at hk
   obtain ⟨h0, h3, h6, h9⟩ := hk
   simp only [h0, h3, h6, h9] at hK ⊢
   have H0 := Yh h0; clear h0; have H3 := Yh h3; clear h3; have H6 := Yh h6; clear h6; have H9 := Yh h9; clear h9
   obtain rfl := hn 0 rfl
   obtain rfl := h0 rfl
   refine calm_op (by rfl) ?_
   go_simp
   refine (rsaveB_any B g b n0 n1 n2 _ (HH.out.below (Yl.drew)) hl hn8 v0).mono ?_
   rintro e w9 ⟨rfl, hr1, hr2⟩
   exact hK _ _ _ rfl ⟨Ye, (fun _ => ⟨hr1, (PastT.below (Yl.drew)).trans hr2⟩)⟩ trivial rfl
  refine zq0 ?_
  exact Yw
 ·intro u w9 hC hF
  have H9 := Yh (hC.2 rfl)
  simp only [calmFacts, Is, and_true, true_and] at hF
  obtain ⟨-, -, -, -, -, -, -, -, -, -, -, f_11⟩ := hF
  simp only [f_11]
  clear hC
  go_wp2
  go_ret
  exact ⟨rfl, H9.out.1, H9.out.2⟩
theorem rdo_idle_sample (B g : Nat) (b : Bn) (A : Option Addr) (cap : Nat) (w : World) (h : RbAt B w g b) (hb : b.begun = false) :
  Calls Tryz.prog 58 #[.pointer (some ⟨g, 0, none⟩), .string ⟨#[115, 97, 109, 112, 108, 101]⟩, .slice A 6 cap] w (RnR B g w (b, 7)) := by
 have HH := Yh h
 obtain ⟨-, -, VS, VK, e1, -⟩ := h
 have cP := e1.cell; have hgl := e1.lt
 unfold rbC at cP
 simp only [hb] at cP
 clear e1 hb
 go_enter Tryz.func58, Tryz.ntmps58
 go_wp2
 go_ret
 exact ⟨rfl, HH.out, PastT.below Yl⟩
theorem rdo_idle_now (B g : Nat) (b : Bn) (A : Option Addr) (cap : Nat) (w : World) (h : RbAt B w g b) (hb : b.begun = false) :
  Calls Tryz.prog 58 #[.pointer (some ⟨g, 0, none⟩), .string ⟨#[110, 111, 119]⟩, .slice A 1 cap] w (RnR B g w (b, 7)) := by
 have HH := Yh h
 obtain ⟨-, -, VS, VK, e1, -⟩ := h
 have cP := e1.cell; have hgl := e1.lt
 unfold rbC at cP
 simp only [hb] at cP
 clear e1 hb
 go_enter Tryz.func58, Tryz.ntmps58
 go_wp2
 go_ret
 exact ⟨rfl, HH.out, PastT.below Yl⟩
theorem rdo_idle_read (B g : Nat) (b : Bn) (A : Option Addr) (cap : Nat) (w : World) (h : RbAt B w g b) (hb : b.begun = false) :
  Calls Tryz.prog 58 #[.pointer (some ⟨g, 0, none⟩), .string ⟨#[114, 101, 97, 100]⟩, .slice A 2 cap] w (RnR B g w (b, 7)) := by
 have HH := Yh h
 obtain ⟨-, -, VS, VK, e1, -⟩ := h
 have cP := e1.cell; have hgl := e1.lt
 unfold rbC at cP
 simp only [hb] at cP
 clear e1 hb
 go_enter Tryz.func58, Tryz.ntmps58
 go_wp2
 go_ret
 exact ⟨rfl, HH.out, PastT.below Yl⟩
theorem rdo_idle_save (B g : Nat) (b : Bn) (A : Option Addr) (cap : Nat) (w : World) (h : RbAt B w g b) (hb : b.begun = false) :
  Calls Tryz.prog 58 #[.pointer (some ⟨g, 0, none⟩), .string ⟨#[115, 97, 118, 101]⟩, .slice A 3 cap] w (RnR B g w (b, 7)) := by
 have HH := Yh h
 obtain ⟨-, -, VS, VK, e1, -⟩ := h
 have cP := e1.cell; have hgl := e1.lt
 unfold rbC at cP
 simp only [hb] at cP
 clear e1 hb
 go_enter Tryz.func58, Tryz.ntmps58
 go_wp2
 go_ret
 exact ⟨rfl, HH.out, PastT.below Yl⟩
theorem rdo_any (B g : Nat) (b : Bn) (c : Cmd) (ns : List Int) (A : Option Addr) (cap : Nat) (w : World) (h : RbAt B w g b) (hn : NumsR w A c.count ns) (hl : b.out.length ≤ 900000) (hn8 : b.srcs.length ≤ 8) (hv : ∀ n ∈ ns, vT n = true) (hc : ns.length = c.count) :
  Calls Tryz.prog 58 #[.pointer (some ⟨g, 0, none⟩), .string ⟨c.word.toArray⟩, .slice A c.count cap] w (RnR B g w (b.run svB c ns)) := by
 have hpair : (b.begun = true) ∨ (b.begun = false) := by cases b.begun <;> simp
 cases c with
 | sources =>
  rcases ns with _ | ⟨n0, _ | ⟨n1, _ | ⟨n2, ns⟩⟩⟩ <;> first | (simp [Cmd.count] at hc; done) | skip
  exact rdo_sources B g b A cap n0 n1 w h hn hl
 | drift =>
  rcases ns with _ | ⟨n0, _ | ⟨n1, ns⟩⟩ <;> first | (simp [Cmd.count] at hc; done) | skip
  exact rdo_drift B g b A cap n0 w h hn hl
 | utc =>
  rcases ns with _ | ⟨n0, _ | ⟨n1, ns⟩⟩ <;> first | (simp [Cmd.count] at hc; done) | skip
  exact rdo_utc B g b A cap n0 w h hn hl (hv n0 Ys)
 | sample =>
  rcases ns with _ | ⟨n0, _ | ⟨n1, _ | ⟨n2, _ | ⟨n3, _ | ⟨n4, _ | ⟨n5, _ | ⟨n6, ns⟩⟩⟩⟩⟩⟩⟩ <;> first | (simp [Cmd.count] at hc; done) | skip
  rcases hpair with hb | hb
  ·rw [show b.run svB .sample [n0, n1, n2, n3, n4, n5] = b.sample n0 n1 n2 n3 n4 n5 from if_pos hb]
   exact rdo_sample B g b A cap n0 n1 n2 n3 n4 n5 w h hn hl hb hn8
  ·rw [show b.run svB .sample [n0, n1, n2, n3, n4, n5] = (b, 7) from if_neg (by rw [hb]; decide)]
   exact rdo_idle_sample B g b A cap w h hb
 | now =>
  rcases ns with _ | ⟨n0, _ | ⟨n1, ns⟩⟩ <;> first | (simp [Cmd.count] at hc; done) | skip
  rcases hpair with hb | hb
  ·rw [show b.run svB .now [n0] = b.now n0 from if_pos hb]
   exact rdo_now B g b A cap n0 w h hn hl hb hn8
  ·rw [show b.run svB .now [n0] = (b, 7) from if_neg (by rw [hb]; decide)]
   exact rdo_idle_now B g b A cap w h hb
 | read =>
  rcases ns with _ | ⟨n0, _ | ⟨n1, _ | ⟨n2, ns⟩⟩⟩ <;> first | (simp [Cmd.count] at hc; done) | skip
  rcases hpair with hb | hb
  ·rw [show b.run svB .read [n0, n1] = b.read n0 n1 from if_pos hb]
   exact rdo_read B g b A cap n0 n1 w h hn hl hb hn8
  ·rw [show b.run svB .read [n0, n1] = (b, 7) from if_neg (by rw [hb]; decide)]
   exact rdo_idle_read B g b A cap w h hb
 | save =>
  rcases ns with _ | ⟨n0, _ | ⟨n1, _ | ⟨n2, _ | ⟨n3, ns⟩⟩⟩⟩ <;> first | (simp [Cmd.count] at hc; done) | skip
  rcases hpair with hb | hb
  ·rw [show b.run svB .save [n0, n1, n2] = svB b n0 n1 n2 from if_pos hb]
   exact rdo_save B g b A cap n0 n1 n2 w h hn hl hb hn8 (hv n0 Ys)
  ·rw [show b.run svB .save [n0, n1, n2] = (b, 7) from if_neg (by rw [hb]; decide)]
   exact rdo_idle_save B g b A cap w h hb
end Go.Proofs.YtiinmhfolfgobaaGreatDoor
namespace Go.Proofs.YtiinmhfolfgobaaGreatDoor
open Go.RowKit Go.Lib
set_option maxHeartbeats 64000000
set_option maxRecDepth 100000
theorem StRow.strR {w : World} {base c n : Nat} {A : Option Addr} {ws : List (List UInt8)} (h : StRow w base (.slice A n c) ws) (hn : ws.length = n) (h0 : 0 < n) : ∃ g, A = some ⟨g, 0, none⟩ ∧ StrR w g n ws := by
 subst hn
 rcases h.2 with ⟨e, _⟩ | ⟨g, cap, cur, e, hb, hg, h1, h2, h3, h4⟩
 ·injection e with _ e _; omega
 ·injection e with e1 e2 e3
  refine ⟨g, e1, rfl, cur, hg, fun j hj => ?_⟩
  have h5 : (ws.map strV)[j]? = some (strV (ws.getD j [])) := by
   rw [List.getElem?_map, Y9 hj, Y8, Y9 hj]; rfl
  rw [← h4, List.getElem?_take, if_pos Yo] at h5
  simpa using h5
theorem parO_exec_none {sv : Sv} {b : Bn} {ws : List (List UInt8)} (h : parO ws = none) : b.exec sv ws = (b, 29) := by
 unfold parO at h
 unfold Bn.exec
 rcases hc : cmdOf (ws.getD 0 []) with _ | c
 ·rfl
 ·rw [hc] at h
  simp only at h ⊢
  split
  ·rename_i h1; rw [if_pos h1] at h; rw [h]; rfl
  ·rfl
theorem parO_exec_some {sv : Sv} {b : Bn} {ws : List (List UInt8)} {zs : List Int} (h : parO ws = some zs) : ∃ c : Cmd, ws.getD 0 [] = c.word ∧ zs.length = c.count ∧ (∀ n ∈ zs, vT n = true) ∧ b.exec sv ws = b.run sv c zs := by
 unfold parO at h
 rcases hc : cmdOf (ws.getD 0 []) with _ | c
 ·rw [hc] at h; cases h
 ·rw [hc] at h
  simp only at h
  split at h
  ·rename_i h1
   have h2 := intsW_vT _ _ h
   refine ⟨c, cmdOf_word hc, by rw [h2.1, List.length_tail]; omega, h2.2, ?_⟩
   unfold Bn.exec
   rw [hc]
   simp only
   rw [if_pos h1, h]; rfl
  ·cases h
theorem run_len8 (b : Bn) (c : Cmd) (ns : List Int) (h : b.srcs.length ≤ 8) : (b.run svB c ns).1.srcs.length ≤ 8 := by
 cases c with
 | sources =>
  show (b.sources _ _).1.srcs.length ≤ 8
  unfold Bn.sources
  split
  ·show (List.replicate _ _).length ≤ 8
   rw [List.length_replicate]; omega
  ·exact h
 | drift =>
  show (b.drift _).1.srcs.length ≤ 8
  unfold Bn.drift
  split
  ·exact h
  ·split <;> exact h
 | utc => exact h
 | sample =>
  show (if b.begun then b.sample _ _ _ _ _ _ else (b, 7)).1.srcs.length ≤ 8
  split
  ·unfold Bn.sample
   split
   ·unfold Bn.heard
    split
    ·unfold Bn.took
     split
     ·simp [Bn.say]; exact h
     ·exact h
    ·exact h
   ·exact h
  ·exact h
 | now =>
  show (if b.begun then b.now _ else (b, 7)).1.srcs.length ≤ 8
  split
  ·unfold Bn.now Bn.nowT
   split <;> exact h
  ·exact h
 | read =>
  show (if b.begun then b.read _ _ else (b, 7)).1.srcs.length ≤ 8
  split
  ·unfold Bn.read Bn.readT
   split
   ·split <;> exact h
   ·exact h
  ·exact h
 | save =>
  show (if b.begun then svB b _ _ _ else (b, 7)).1.srcs.length ≤ 8
  split
  ·show (b.wokeT _).1.srcs.length ≤ 8
   unfold Bn.wokeT
   split <;> exact h
  ·exact h
theorem rb_zero {w w1 : World} (h : w.heap.size ≤ w1.heap.size) : RbAt w.heap.size (w1.alloc (.cells (rbC .zero (.slice none 0 0) (.slice none 0 0)) 100)) w1.heap.size .zero := ⟨h, fun j _ => by simp [Bn.zero], _, _, Blk.new _ _ _, .inl ⟨rfl, rfl, rfl⟩⟩
def RlnRel (w : World) (gl g n : Nat) (ls : List (List UInt8)) (G : Nat) (i : Value) (wr : World) : Prop := ∃ (q : Nat) (b : Bn), q ≤ n ∧ G = n - q ∧ i = .int .i64 q ∧ Bn.lines svB .zero 0 ls = Bn.lines svB b q (ls.drop q) ∧ b.out.length ≤ 200 * q ∧ b.srcs.length ≤ 8 ∧ RbAt w.heap.size wr g b ∧ (0 < n → StrR wr gl n ls) ∧ Below w.heap.size w wr
theorem rrun43_any (s : ByteArray) (ls : List (List UInt8)) (hs : s.data.toList = lnsT ls) (hg : ∀ l ∈ ls, ScL l) (hn0 : ls.length ≤ 20) (w : World) :
  Calls Tryz.prog 26 #[.string s] w (RB w (scR (Bn.lines svB .zero 0 ls))) := by
 have hsz : s.size ≤ 4020 := by have h1 := lns_len hg; have h2 := size_eq s; rw [hs] at h2; omega
 have R1 := Yh (fun W => rlines_any s ls hs (fun l hl => (hg l hl).2.1) Yo W)
 have HG := Yh hg
 have c1 : decide ((s.size : Int) > 4096) = false := Y3
 have c1' : decide (4096 < s.size) = false := Y3
 clear hs hg
 go_enter Tryz.func26, Tryz.ntmps26
 go_wp2_with fail
 refine (R1.out _).mono ?_
 rintro e w1 ⟨A, c, rfl, hrow, hb1⟩
 have HK1 := Yh hb1; have Z1 := hb1.size
 obtain ⟨n, hn⟩ : ∃ n, ls.length = n := ⟨_, rfl⟩
 rw [hn] at hrow hn0 ⊢
 obtain ⟨gl, hgl⟩ : ∃ gl, 0 < n → A = some ⟨gl, 0, none⟩ ∧ StrR w1 gl n ls := by
  by_cases h : 0 < n
  ·obtain ⟨g, h1, h2⟩ := hrow.strR hn h
   exact ⟨g, fun _ => ⟨h1, h2⟩⟩
  ·exact ⟨0, fun h9 => absurd h9 h⟩
 have HGL := Yh hgl; have HN := Yh hn
 have c2 : decide ((n : Int) > 100) = false := Y3
 have c2' : decide (100 < n) = false := Y3
 clear hrow hgl hb1 R1 hn
 have HZB := Yh (rb_zero (w := w) (w1 := w1) Z1)
 unfold rbC Bn.zero at HZB
 go_wp2
 obtain ⟨g, hgg⟩ : ∃ g, w1.heap.size = g := ⟨_, rfl⟩
 rw [hgg] at HZB ⊢
 go_loopg [7] n (fun G i wr => RlnRel w gl g n ls G i wr)
 case atStart => exact ⟨0, .zero, Yo, Yo, rfl, by simp, by simp [Bn.zero], by simp [Bn.zero], HZB.out, fun h => (HGL.out h).2.below (below_new _ _), Yc (below_new w1 _) HK1.out⟩
 case round =>
  obtain ⟨q, b, hq, rfl, rfl, hlq, hob, hsb, hbn, hsr, hkr⟩ := hrel
  have HLQ := Yh hlq; have HBN := Yh hbn; have HSR := Yh hsr; have HKR := Yh hkr
  have ZR := hkr.size
  clear hlq hbn hkr hsr HZB
  by_cases hlt : q < n
  ·have gp : decide ((q : Int) < (n : Int)) = true := Y2
   have gpn : decide (q < n) = true := decide_eq_true hlt
   have wp : IntKind.i64.wrap ((q : Int) + 1) = ((q + 1 : Nat) : Int) := Y4
   obtain ⟨rfl, -⟩ := HGL.out Yo
   obtain ⟨hsl, cur, hcb, hcc⟩ := HSR.out Yo
   have hnl := HN.out
   obtain ⟨l, hl⟩ : ∃ l, ls.getD q [] = l := ⟨_, rfl⟩
   have hdq : ls.drop q = l :: ls.drop (q + 1) := by
    rw [List.drop_eq_getElem_cons Yo, ← hl, Y8, Y9 Yo]; rfl
   have hlm : l ∈ ls := by rw [← hl, Y8, Y9 Yo]; exact List.getElem_mem _
   obtain ⟨-, -, hll, hw9⟩ := HG.out l hlm
   have c9 : wr.cell? ⟨gl, q, none⟩ = some (.string ⟨l.toArray⟩) := (hcb.cell q).trans (by rw [← hl]; exact hcc q hlt)
   have l9 := hcb.lt
   have HLQ2 := Yh (show Bn.lines svB .zero 0 ls = Bn.lines svB b q (l :: ls.drop (q + 1)) by rw [HLQ.out, hdq])
   have HW9 := Yh hw9
   have RW := Yh (fun W => rwords_any ⟨l.toArray⟩ (by show l.toArray.size ≤ _; simp; omega) W)
   rw [show (⟨l.toArray⟩ : ByteArray).data.toList = l from rfl] at RW
   have hwn := wordsGo_len l []
   have hne := wordsGo_ne l []
   obtain ⟨ws, hwe⟩ : ∃ ws, wordsGo [] l = ws := ⟨_, rfl⟩
   rw [hwe] at RW HW9 hwn hne
   have HWE := Yh hwe
   clear hwe hl hdq hlm hw9 hcb hcc hsl hnl HLQ
   go_wp2_with fail
   refine (RW.out _).mono ?_
   rintro e w3 ⟨A2, c2w, rfl, hrow, hb3⟩
   have Z3 := hb3.size
   have HK3 := Yh (Yc hb3 HKR.out)
   have HB9 := Yh (HBN.out.below hb3); have HS9 := Yh (fun h => (HSR.out h).below hb3)
   obtain ⟨m, hm⟩ : ∃ m, ws.length = m := ⟨_, rfl⟩
   rw [hm] at hrow hwn ⊢
   have HM := Yh hm; have HROW := Yh hrow
   clear hrow hb3 RW c9 l9 hm HSR HBN
   cases ws with
   | nil =>
    have hm0 : m = 0 := by have := HM.out; simpa using this.symm
    subst hm0
    have HNT := Yh (show noteW (wordsGo [] l) = true by rw [HWE.out]; rfl)
    go_wp2
    go_roundg (n - (q + 1))
    case measure => omega
    case rel => exact ⟨q + 1, b, Yo, Yo, by go_num, by rw [HLQ2.out, lines_note HNT.out], Yo, hsb, HB9.out, HS9.out, HK3.out⟩
   | cons x ws' =>
    have hm1 : 0 < m := by have := HM.out; simp at this; omega
    obtain ⟨gW, rfl, hws⟩ := HROW.out.strR HM.out hm1
    have hmz : (m == 0) = false := by simp; omega
    have hmz2 : ((m : Int) == 0) = false := by simp; omega
    have hmz3 : decide (m = 0) = false := Y3
    have hmz4 : decide (0 < m) = true := decide_eq_true hm1
    have hmz5 : decide ((0 : Int) < (m : Int)) = true := Y2
    have hx0 := hne x Ys
    have HWS := Yh hws
    obtain ⟨-, curW, hcb, hcc⟩ := hws
    have hcx : curW[0]? = some (strV x) := hcc 0 hm1
    cases x with
    | nil => exact absurd rfl hx0
    | cons c0 xr =>
    have c9 : w3.cell? ⟨gW, 0, none⟩ = some (.string ⟨(c0 :: xr).toArray⟩) := (hcb.cell 0).trans hcx
    have l9 := hcb.lt
    clear hx0 hcx hne hcb hcc HROW
    by_cases hh : c0 = 35
    ·have HNT := Yh (show noteW (wordsGo [] l) = true by rw [HWE.out, hh]; rfl)
     subst hh
     go_wp2
     go_roundg (n - (q + 1))
     case measure => omega
     case rel => exact ⟨q + 1, b, Yo, Yo, by go_num, by rw [HLQ2.out, lines_note HNT.out], Yo, hsb, HB9.out, HS9.out, HK3.out⟩
    ·have hix0 : (⟨(c0 :: xr).toArray⟩ : ByteArray)[0]'(by show 0 < (c0 :: xr).toArray.size; simp) = c0 := rfl
     have hh1 : (c0.toNat == 35) = false := by
      rw [beq_eq_false_iff_ne]; intro e; exact hh (UInt8.toNat_inj.1 e)
     have hh2 : ((c0.toNat : Int) == 35) = false := by
      rw [beq_eq_false_iff_ne]; intro e; exact hh (UInt8.toNat_inj.1 (by simpa using (by omega : c0.toNat = 35)))
     have hh3 : decide (c0.toNat = 35) = false := by simpa using hh1
     have hh4 : decide ((c0.toNat : Int) = 35) = false := by simpa using hh2
     have hnt : noteW (wordsGo [] l) = false := by
      rw [HWE.out]
      show (c0 == 35) = false
      simpa using hh
     have HNT := Yh hnt
     have RP := Yh (fun W h => rparse_any gW m c2w ((c0 :: xr) :: ws') hm1 Yo (by have h9 := HNT.out; rw [HWE.out] at h9; exact HW9.out h9) W h)
     clear hnt
     obtain ⟨o, ho⟩ : ∃ o, parO ((c0 :: xr) :: ws') = o := ⟨_, rfl⟩
     rw [ho] at RP
     have HO := Yh ho
     clear ho
     cases o with
     | none =>
      have HEX := Yh (show b.exec svB (wordsGo [] l) = (b, 29) by rw [HWE.out]; exact parO_exec_none HO.out)
      have HRV := Yh (show Bn.lines svB .zero 0 ls = ([], (q : Int) + 1, 29) by rw [HLQ2.out, lines_bad HNT.out (by rw [HEX.out]; show (29 : Int) ≠ 0; decide), HEX.out])
      go_wp2_with fail
      refine (RP.out _ HWS.out).mono ?_
      rintro e w4 ⟨rfl, hb4⟩
      have HK4 := Yh (Yc hb4 HK3.out)
      clear hb4 c9 l9 RP
      go_wp2
      go_ret3
      rw [HRV.out]
      exact ⟨rfl, HK4.out⟩
     | some zs =>
      obtain ⟨cm, hcw, hzl, hzv, hex⟩ := parO_exec_some (sv := svB) (b := b) HO.out
      have hcw' : c0 :: xr = cm.word := hcw
      have HEX := Yh (show b.exec svB (wordsGo [] l) = b.run svB cm zs by rw [HWE.out]; exact hex)
      have RD := Yh (fun A3 c3 W h hN => rdo_any w.heap.size g b cm zs A3 c3 W h hN Yo hsb hzv hzl)
      have hi8 := run_len8 b cm zs hsb
      have hinv := inv_exec svB b (wordsGo [] l) Yo (fun _ => svB_inv)
      rw [HEX.out] at hinv
      rw [← hcw', ← hzl] at RD
      clear hcw hcw' hzl hzv hex HO
      obtain ⟨r, hrr⟩ : ∃ r, b.run svB cm zs = r := ⟨_, rfl⟩
      rw [hrr] at RD HEX hi8 hinv
      clear hrr
      obtain ⟨b', e'⟩ := r
      have hi1 := hinv.1
      clear hinv
      dsimp only at hi1 hi8
      go_wp2_with fail
      refine (RP.out _ HWS.out).mono ?_
      rintro e w4 ⟨A3, c3, rfl, hrow, hb4⟩
      have c94 := cell_below hb4 c9
      have l94 : gW < w4.heap.size := Nat.lt_of_lt_of_le l9 hb4.size
      have HK4 := Yh (Yc hb4 HK3.out)
      have HN4 := Yh (RowN.nums hrow)
      have HB4 := Yh (HB9.out.below hb4); have HS4 := Yh (fun h => (HS9.out h).below hb4)
      have Z4 := hb4.size
      clear hb4 c9 l9 RP hrow HB9 HS9
      obtain ⟨zl, hzl⟩ : ∃ z, zs.length = z := ⟨_, rfl⟩
      rw [hzl] at RD HN4 ⊢
      clear hzl
      go_wp2_with fail
      refine (RD.out A3 c3 _ HB4.out HN4.out).mono ?_
      rintro e w5 ⟨rfl, h5, hT5⟩
      have H5 := Yh h5; have HT5 := Yh hT5; have Z5 := hT5.1
      clear h5 hT5 c94 l94 RD
      dsimp only at H5 ⊢
      by_cases he : e' = 0
      ·subst he
       go_wp2
       go_roundg (n - (q + 1))
       case measure => omega
       case rel => exact ⟨q + 1, b', Yo, Yo, by go_num, by rw [HLQ2.out, lines_go HNT.out (by rw [HEX.out]), HEX.out], Yo, hi8, H5.out, fun h => (HS4.out h).pastT HT5.out Yd, HK4.out.trans (HT5.out.toBelow Yo)⟩
      ·have g1 : (e' == 0) = false := by simpa using he
       have g2 : decide (e' = 0) = false := by simpa using he
       have g3 : (e' != 0) = true := by simpa using he
       have HRV := Yh (show Bn.lines svB .zero 0 ls = ([], (q : Int) + 1, e') by rw [HLQ2.out, lines_bad HNT.out (by rw [HEX.out]; exact he), HEX.out])
       go_wp2
       go_ret3
       rw [HRV.out]
       exact ⟨rfl, HK4.out.trans (HT5.out.toBelow Yo)⟩
  ·obtain rfl : q = n := by omega
   have gp : decide ((q : Int) < (q : Int)) = false := Y3
   have gpn : decide (q < q) = false := Y3
   have HRV := Yh (show Bn.lines svB .zero 0 ls = (b.out, 0, 0) by rw [HLQ.out, List.drop_of_length_le (by rw [HN.out]; exact Nat.le_refl _)]; rfl)
   obtain ⟨-, -, VS, VK, hB, -⟩ := HBN.out
   have cB := hB.cell; have lB := hB.lt
   unfold rbC at cB
   clear hB
   go_wp2
   go_ret3
   rw [HRV.out]
   exact ⟨rfl, HKR.out⟩
theorem runs_of {ls : List (List UInt8)} (h : ∀ l ∈ ls, ScL l) (hl : ls.length ≤ 20) : (∀ l ∈ cutAt 10 (trimSuffix (lnsT ls) [10]), GoodL svB l) ∧ scriptV svB (lnsT ls) = Bn.lines svB .zero 0 ls := by
 by_cases h0 : ls = []
 ·subst h0
  have e : cutAt 10 (trimSuffix (lnsT []) [10]) = [[]] := by rfl
  have hg : ScL [] := ⟨fun b h => by simp at h, by simp, by simp, fun h => by simp [wordsGo, noteW] at h⟩
  refine ⟨fun l hl => by rw [e] at hl; rw [List.mem_singleton.1 hl]; exact hg.good save_ok svB_inv, ?_⟩
  unfold scriptV
  rw [e, if_neg Yd, if_neg Yd]
  exact lines_note (by rfl)
 ·have hs := script_of svB h h0 hl
  refine ⟨?_, hs.2⟩
  rw [hs.1]
  exact fun l hl => (h l hl).good save_ok svB_inv
theorem same43_any (ls : List (List UInt8)) (hsc : ∀ l ∈ ls, ScL l) (hl : ls.length ≤ 20) (w : World) (hpow : Pow10 w) (hml : MaxLenAt w) :
  Calls Tryz.prog 8 #[.string ⟨(lnsT ls).toArray⟩] w (RB w (.bool true)) := by
 have HPW := Yh hpow; have HML := Yh hml; clear hpow hml
 obtain ⟨hg, hv⟩ := runs_of hsc hl
 have hlen := lns_len hsc
 obtain ⟨M, hM⟩ : ∃ M, lnsT ls = M := ⟨_, rfl⟩
 rw [hM] at hlen
 have RUN1 := Yh (fun W h1 h2 => run43_any svB ⟨M.toArray⟩ W h1 h2 (by show M.toArray.size ≤ _; simp; omega) (by simpa [← hM] using hg))
 have RUN2 := Yh (fun W => rrun43_any ⟨M.toArray⟩ ls hM.symm hsc hl W)
 rw [show (⟨M.toArray⟩ : ByteArray).data.toList = M from rfl, ← hM, hv] at RUN1
 rw [← hM] at RUN2
 obtain ⟨r, hr⟩ : ∃ r, Bn.lines svB .zero 0 ls = r := ⟨_, rfl⟩
 rw [hr] at RUN1 RUN2
 obtain ⟨o9, i9, e9⟩ := r
 unfold scR at RUN1 RUN2
 dsimp only at RUN1 RUN2
 rw [hM] at RUN1 RUN2 ⊢
 clear hM hr hg hv hlen hsc
 go_enter Tryz.func8, Tryz.ntmps8
 go_wp2_with fail
 refine (RUN1.out _ (HPW.out.below bl0) (HML.out.below bl0)).mono ?_
 rintro e w1 ⟨rfl, hb1⟩
 have K1 : Below w.heap.size w w1 := Yc hb1 bl0
 have Z1 := K1.size
 clear hb1
 go_wp2_with fail
 refine (RUN2.out _).mono ?_
 rintro e w2 ⟨rfl, hb2⟩
 have K2 : Below w.heap.size w w2 := Yc hb2 bl1
 have Z2 := K2.size
 clear hb2 K1
 go_wp2
 go_ret
 exact ⟨rfl, bl1⟩
theorem runs_core (LA : Option Addr) (llen lcap : Nat) (ls0 : List Int) (w : World) (hI : IntsAt w LA llen ls0) (hpow : Pow10 w) (hml : MaxLenAt w) :
  Calls Tryz.prog 3 #[.slice LA llen lcap] w (RB w (.bool true)) := by
 have HI := Yh hI; have HPW := Yh hpow; have HML := Yh hml; clear hI hpow hml
 go_enter Tryz.func3, Tryz.ntmps3
 go_wp2_with fail
 refine (new_any LA llen lcap ls0 _ HI.out).mono ?_
 rintro e w1 ⟨rfl, ht1, hb1⟩
 have K1 : Below w.heap.size w w1 := Yc hb1 bl0
 have Z1 := K1.size
 clear hb1
 have T1 := ht1.lt
 have HT := Yh ht1; clear ht1
 go_wp2_with fail
 refine (script_any _ 12 _ Yt Yo Yo).mono ?_
 rintro e w2 ⟨ls, rfl, hll, hsc, ht2, hg2⟩
 have K2 : Below w.heap.size w w2 := below_grown2 bl1 hg2 Y6
 have Z2 := K2.size
 clear HT; have T2 := ht2.lt; have HT := Yh ht2; clear ht2
 clear hg2 K1
 have RS := Yh (fun W h1 h2 => same43_any ls hsc Yo W h1 h2)
 have RKN := Yh (fun W h1 h2 => known43_any W h1 h2)
 obtain ⟨tx, htx⟩ : ∃ t, (lnsT ls).toArray = t := ⟨_, rfl⟩
 rw [htx] at RS ⊢
 clear htx hsc hll
 go_wp2_with fail
 refine (RS.out _ (HPW.out.below bl1) (HML.out.below bl1)).mono ?_
 rintro e w3 ⟨rfl, hb3⟩
 have K3 : Below w.heap.size w w3 := Yc hb3 bl1
 have Z3 := K3.size
 have ht3 := TapeAt.below Yt hb3
 clear HT; have T3 := ht3.lt; have HT := Yh ht3; clear ht3
 clear hb3 K2
 go_wp2_with fail
 refine (RKN.out _ (HPW.out.below bl1) (HML.out.below bl1)).mono ?_
 rintro e w4 ⟨rfl, hb4⟩
 have K4 : Below w.heap.size w w4 := Yc hb4 bl1
 have Z4 := K4.size
 have ht4 := TapeAt.below Yt hb4
 clear HT; have T4 := ht4.lt; have HT := Yh ht4; clear ht4
 clear hb4 K3
 go_wp2
 go_ret
 exact ⟨rfl, bl1⟩
end Go.Proofs.YtiinmhfolfgobaaGreatDoor
