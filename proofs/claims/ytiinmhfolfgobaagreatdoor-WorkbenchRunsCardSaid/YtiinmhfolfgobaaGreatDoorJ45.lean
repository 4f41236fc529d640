/- Lemmas. -/
import Derived.Test.YtiinmhfolfgobaaGreatDoorJ44
import Derived.Test.YtiinmhfolfgobaaGreatDoorJ29
import Derived.Test.YtiinmhfolfgobaaGreatDoorJ9
import Derived.Test.YtiinmhfolfgobaaGreatDoorJ20
import Derived.Test.YtiinmhfolfgobaaGreatDoorJ24
set_option linter.unusedVariables false
set_option linter.unusedSimpArgs false
namespace Go.Proofs.YtiinmhfolfgobaaGreatDoor
open Go.RowKit Go.Lib Go.Shelf Go.Sort
set_option maxHeartbeats 32000000
set_option maxRecDepth 100000
def SliceR (B g : Nat) (t : TypeId) (n : Nat) (cs : Array Value) : List Value → Value → World → Prop := fun _ v w => ∃ g', v = .slice (some ⟨g', 0, none⟩) n n ∧ g' ≠ g ∧ B ≤ g' ∧ Blk w g' t cs
theorem keep_sliceR9 {B g : Nat} {t : TypeId} {n : Nat} {cs : Array Value} : ∀ (d : List Value) (v : Value) (w w' : World), Past [g] w w' → SliceR B g t n cs d v w → SliceR B g t n cs d v w' := fun _ _ _ _ h ⟨a, e, hn, hb, hB⟩ => ⟨a, e, hn, hb, h.blk hB (by simp; omega)⟩
def AggB (B g n : Nat) (f : Int) (O2 : List UInt8) : List Value → Value → World → Prop := fun _ v w => ∃ gs gk, v = .agg #[.bool true, .bool false, .int .i64 n, .int .i64 f, .int .i64 0, .slice (some ⟨gs, 0, none⟩) n n, .slice (some ⟨gk, 0, none⟩) n n, .int .i64 0, .int .i64 0, .bool false, .bool false, .int .i64 0, .int .i64 0, .string ⟨O2.toArray⟩] ∧ gs ≠ g ∧ gk ≠ g ∧ B ≤ gs ∧ B ≤ gk ∧ Blk w gs 4 (madeCells #[.bool false] n) ∧ Blk w gk 44 (madeCells #[.int .i64 0, .int .i64 0, .int .i64 0, .int .i64 0, .int .i64 0, .int .i64 0] (n * 6))
theorem keep_aggB {B g n : Nat} {f : Int} {O2 : List UInt8} : ∀ (d : List Value) (v : Value) (w w' : World), Past [g] w w' → AggB B g n f O2 d v w → AggB B g n f O2 d v w' := fun _ _ _ _ h ⟨a, b, e, h1, h2, h3, h4, h5, h6⟩ => ⟨a, b, e, h1, h2, h3, h4, h.blk h5 (by simp; omega), h.blk h6 (by simp; omega)⟩
def RbNew (B g n : Nat) (f : Int) (O2 : List UInt8) (w : World) : Prop := ∃ gs gk, B ≤ gs ∧ B ≤ gk ∧ Blk w g 100 #[.bool true, .bool false, .int .i64 n, .int .i64 f, .int .i64 0, .slice (some ⟨gs, 0, none⟩) n n, .slice (some ⟨gk, 0, none⟩) n n, .int .i64 0, .int .i64 0, .bool false, .bool false, .int .i64 0, .int .i64 0, .string ⟨O2.toArray⟩] ∧ Blk w gs 4 (madeCells #[.bool false] n) ∧ Blk w gk 44 (madeCells #[.int .i64 0, .int .i64 0, .int .i64 0, .int .i64 0, .int .i64 0, .int .i64 0] (n * 6))
theorem RbNew.below {B g n : Nat} {f : Int} {O2 : List UInt8} {w w' : World} (h : RbNew B g n f O2 w) (hb : Below w.heap.size w w') : RbNew B g n f O2 w' := by
 obtain ⟨gs, gk, h1, h2, h3, h4, h5⟩ := h
 exact ⟨gs, gk, h1, h2, Yk hb h3, Yk hb h4, Yk hb h5⟩
theorem setAll_pastR {X : List Nat} {W : World} {g : Nat} (hg : g ∈ X) : ∀ (l : List Value) (i : Nat) (w : World), Past X W w → Past X W (setAll w g i l)
 | [], _, _, h => h
 | _ :: l, i, w, h => setAll_pastR hg l (i + 1) _ (h.trans (Past.set hg _))
theorem rsources_any (B g : Nat) (b : Bn) (n0 f : Int) (w : World) (h : RbAt B w g b) (hl : b.out.length ≤ 900000) :
  Calls Tryz.prog 79 #[.pointer (some ⟨g, 0, none⟩), .int .i64 n0, .int .i64 f] w (RnR B g w (b.sources n0 f)) := by
 have HH := Yh h
 obtain ⟨hB0, hz0, VS, VK, bB, -⟩ := h
 clear hz0
 unfold rbC at bB
 have cB := bB.cell; have lB := bB.lt; have fB := bB.frozen
 go_enter Tryz.func79, Tryz.ntmps79
 by_cases q0 : n0 < 1
 ·have g0 : decide (n0 < 1) = true := decide_eq_true q0
  have e : b.sources n0 f = (b, 4) := by unfold Bn.sources; rw [if_neg Yo]
  rw [e]
  go_wp2
  go_ret
  exact ⟨rfl, HH.out, PastT.refl _ _ _⟩
 have g0 : decide (n0 < 1) = false := decide_eq_false q0
 by_cases q1 : n0 > 8
 ·have g1 : decide (n0 > 8) = true := decide_eq_true q1
  have e : b.sources n0 f = (b, 4) := by unfold Bn.sources; rw [if_neg Yo]
  rw [e]
  go_wp2
  go_ret
  exact ⟨rfl, HH.out, PastT.refl _ _ _⟩
 have g1 : decide (n0 > 8) = false := decide_eq_false q1
 by_cases q2 : f < 0
 ·have g2 : decide (f < 0) = true := decide_eq_true q2
  have e : b.sources n0 f = (b, 4) := by unfold Bn.sources; rw [if_neg Yo]
  rw [e]
  go_wp2
  go_ret
  exact ⟨rfl, HH.out, PastT.refl _ _ _⟩
 have g2 : decide (f < 0) = false := decide_eq_false q2
 by_cases q3 : f ≥ n0
 ·have g3 : decide (f ≥ n0) = true := decide_eq_true q3
  have e : b.sources n0 f = (b, 4) := by unfold Bn.sources; rw [if_neg Yo]
  rw [e]
  go_wp2
  go_ret
  exact ⟨rfl, HH.out, PastT.refl _ _ _⟩
 have g3 : decide (f ≥ n0) = false := decide_eq_false q3
 have HM9 := Yh (show IntKind.i64.wrap (2 * f) = 2 * f from IntWalk.i64_in _ Yo)
 by_cases q4 : 2 * f ≥ n0
 ·have g4 : decide (2 * f ≥ n0) = true := decide_eq_true q4
  have e : b.sources n0 f = (b, 4) := by unfold Bn.sources; rw [if_neg Yo]
  rw [e]
  have hm9 := HM9.out
  go_wp2
  go_ret
  exact ⟨rfl, HH.out, PastT.refl _ _ _⟩
 have g4 : decide (2 * f ≥ n0) = false := decide_eq_false q4
 have e : b.sources n0 f = (Bn.say ⟨true, List.replicate n0.toNat (false, .zero), f, 0, .zero, b.out⟩ wSources [n0, f], 0) := by unfold Bn.sources; rw [if_pos Yo]
 rw [e]
 clear e
 obtain ⟨n, rfl⟩ : ∃ n : Nat, n0 = n := ⟨n0.toNat, Yo⟩
 simp only [Int.toNat_natCast]
 obtain ⟨L, hL, nL, rL⟩ := rline_c wSources #[115, 111, 117, 114, 99, 101, 115] rfl Yd [(n : Int), f] 2 rfl Yd (fun m hm => by simp only [List.mem_cons, List.mem_nil_iff, or_false] at hm; rcases hm with rfl | rfl <;> exact ⟨by unfold smallI; omega, Yo⟩)
 have RL := Yh rL; have HL := Yh hL; clear rL hL
 obtain ⟨O, hO⟩ : ∃ O, b.out = O := ⟨_, rfl⟩
 rw [hO] at hl
 obtain ⟨O2, hO2⟩ : ∃ M, O ++ L = M := ⟨_, rfl⟩
 have HO := Yh hO; have HO2 := Yh hO2; clear hO2
 have hgl := bB.lt
 have hBw : B ≤ w.heap.size := by omega
 obtain ⟨i0, hif, hz0, hz1, hz2⟩ := info_parts infoBl
 obtain ⟨j0, hjf, hj0, hj1, hj2⟩ := info_parts infoKn
 have hm9 := HM9.out
 go_upto_region 3 with fail
 clear hm9 HM9 g0 g1 g2 g3 g4
 simp only [hO] at bB
 clear hO cB lB fB
 refine' wp_region_calm Yr (fun n9 _ w' => Past [g] w w' ∧ (n9 = 0 → Blk w' g 100 #[.bool b.begun, .bool (b.srcs.any (·.1)), .int .i64 (b.srcs.length : Int), .int .i64 b.li, .int .i64 b.p, VS, VK, .int .i64 b.ck.aim, .int .i64 b.ck.rate, .bool b.ck.set, .bool b.ck.held, .int .i64 b.ck.at_, .int .i64 b.ck.shown, .string ⟨O.toArray⟩]) ∧ (n9 = 1 → RbNew B g n f O2 w')) (fun a b => Past [g] a b) [Is _, Is _, Is _, Is _, (SliceR B g 4 n (madeCells #[.bool false] n)), Is _, (SliceR B g 44 n (madeCells #[.int .i64 0, .int .i64 0, .int .i64 0, .int .i64 0, .int .i64 0, .int .i64 0] (n * 6))), Is _, Is _, Is _, Is _, Is _, Is _, (SliceN [g] 3 2 #[.int .i64 n, .int .i64 f]), Is _, (Is (.string ⟨O2.toArray⟩)), (AggB B g n f O2), Is _, (fun _ _ _ => True)] [[], [], [], [], [3], [], [5], [], [7], [8], [9], [], [], [11, 12], [13], [10, 14], [1, 2, 4, 6, 15], [0], [17, 16]] [18] [] rfl (calmB_of Yr) Yp ?_ (Y1 (Y1 (Y1 (Y1 (kcc keep_sliceR9 (Y1 (kcc keep_sliceR9 (Y1 (Y1 (Y1 (Y1 (Y1 (Y1 (kcc keep_sliceP (Y1 (Y1 (kcc keep_aggB (Y1 (Y0 Yn))))))))))))))))))) ?_ ?_
 ·intro _
  exact ⟨(Past.refl _ _).drew, (fun _ => bB.drew), Ye⟩
 rotate_left 13
 ·skip
  iterate 4 refine zq0 ?_
  refine Yz (fun u wq n7 hn hn2 hC hk K hK => ?_) ?_
  ·obtain ⟨hP, h0, h1⟩ := hC
   simp only [calmKnown, lg0, lg1, and_true, Is, Pure, osj, ld0, ld1, lm1, lm0] at hk
   have h3 := hk; clear hk
   simp only [h3] at hK ⊢
   have H3 := Yh h3; clear h3
   have hmk := run_makeSlice (P := Tryz.prog) (w := wq) 54 4 i0 _ Tryz.underlying54 hif hz0 .i64 .i64 (n : Int) (n : Int) Yo (Int.le_refl _) (by rw [hz1]; simp only [Int.toNat_natCast]; omega) (by rw [hz2]; omega) Yo
   simp only [Int.toNat_natCast, hz1, Nat.mul_one] at hmk
   have hsz := hP.1
   have hz9 := hP.1
   go_simp
   exact hK _ _ _ rfl ⟨hP.allocs _, (fun h => (h0 h).alloc _), (fun h => (h1 h).below (below_new _ _))⟩ ((Past.refl _ _).allocs _) ⟨_, rfl, Y7, Yo, Blk.new _ _ _⟩
  refine zq0 ?_
  refine Yz (fun u wq n7 hn hn2 hC hk K hK => ?_) ?_
  ·obtain ⟨hP, h0, h1⟩ := hC
   simp only [calmKnown, lg0, lg1, and_true, Is, Pure, osj, ld0, ld1, lm1, lm0] at hk
   have h5 := hk; clear hk
   simp only [h5] at hK ⊢
   have H5 := Yh h5; clear h5
   have hmk := run_makeSlice (P := Tryz.prog) (w := wq) 53 44 j0 _ Tryz.underlying53 hjf hj0 .i64 .i64 (n : Int) (n : Int) Yo (Int.le_refl _) (by rw [hj1]; simp only [Int.toNat_natCast]; omega) (by rw [hj2]; omega) Yo
   simp only [Int.toNat_natCast, hj1] at hmk
   have hsz := hP.1
   have hz9 := hP.1
   go_simp
   exact hK _ _ _ rfl ⟨hP.allocs _, (fun h => (h0 h).alloc _), (fun h => (h1 h).below (below_new _ _))⟩ ((Past.refl _ _).allocs _) ⟨_, rfl, Y7, Yo, Blk.new _ _ _⟩
  iterate 3 refine zq0 ?_
  refine zq1 (fun _ _ _ _ hn2 ⟨_, h0, _⟩ => have hB := h0 (Nat.le_zero.1 (hn2 0 18 rfl Yr)); Ya hB (Yq hB)) ?_
  iterate 2 refine zq0 ?_
  refine Yz (fun u wq n7 hn hn2 hC hk K hK => ?_) ?_
  ·obtain ⟨hP, h0, h1⟩ := hC
   simp only [calmKnown, lg0, lg1, and_true, Is, Pure, osj, ld0, ld1, lm1, lm0] at hk
   obtain ⟨h11, h12⟩ := hk
   simp only [h11, h12] at hK ⊢
   have H11 := Yh h11; clear h11; have H12 := Yh h12; clear h12
   have hz9 := hP.1
   go_simp
   exact hK _ _ _ rfl ⟨hP.allocs _, (fun h => (h0 h).alloc _), (fun h => (h1 h).below (below_new _ _))⟩ ((Past.refl _ _).allocs _) ⟨_, rfl, Y7, Blk.new _ _ _⟩
  refine Yz (fun u wq n7 hn hn2 hC hk K hK => ?_) ?_
  ·obtain ⟨hP, h0, h1⟩ := hC
   simp only [calmKnown, lg0, lg1, and_true, Is, Pure, osj, ld0, ld1, lm1, lm0] at hk
   obtain ⟨g13, h13, -, q13⟩ := hk
   simp only [h13] at hK ⊢
   have H13 := Yh h13; clear h13
   refine calm_op (by rfl) ?_
   go_simp
   refine (RL.out _ _ (NumsR.of (zs := [(n : Int), f]) q13)).mono ?_
   rintro e w9 ⟨rfl, hbl⟩
   exact hK _ _ _ rfl ⟨hP.call hbl, (fun h => Yk hbl (h0 h)), (fun h => (h1 h).below hbl)⟩ (Past.below hbl) rfl
  refine Yz (fun u wq n7 hn hn2 hC hk K hK => ?_) ?_
  ·obtain ⟨hP, h0, h1⟩ := hC
   simp only [calmKnown, lg0, lg1, and_true, Is, Pure, osj, ld0, ld1, lm1, lm0] at hk
   obtain ⟨h10, h14⟩ := hk
   simp only [h10, h14] at hK ⊢
   have H10 := Yh h10; clear h10; have H14 := Yh h14; clear h14
   have ea : ({ data := O.toArray } : ByteArray) ++ { data := L.toArray } = { data := O2.toArray } := by rw [← HO2.out]; simp [ByteArray.mk_append_mk]
   go_simp
   (try simp only [ea])
   (try simp only [HO2.out])
   rw [if_neg Yo, Oper.upon_value]
   exact hK _ _ _ rfl ⟨hP, h0, h1⟩ (Past.refl _ _) rfl
  refine Yz (fun u wq n7 hn hn2 hC hk K hK => ?_) ?_
  ·obtain ⟨hP, h0, h1⟩ := hC
   simp only [calmKnown, lg0, lg1, and_true, Is, Pure, osj, ld0, ld1, lm1, lm0] at hk
   obtain ⟨h1, h2, ⟨g4, h4, n4, b4, q4⟩, ⟨g6, h6, n6, b6, q6⟩, h15⟩ := hk
   simp only [h1, h2, h4, h6, h15] at hK ⊢
   have H1 := Yh h1; clear h1; have H2 := Yh h2; clear h2; have H4 := Yh h4; clear h4; have H6 := Yh h6; clear h6; have H15 := Yh h15; clear h15
   go_simp
   exact hK _ _ _ rfl ⟨hP, h0, h1⟩ (Past.refl _ _) ⟨g4, g6, rfl, n4, n6, b4, b6, q4, q6⟩
  refine zq0 ?_
  refine Yz (fun u wq n7 hn hn2 hC hk K hK => ?_) ?_
  ·obtain ⟨hP, h0, h1⟩ := hC
   simp only [calmKnown, lg0, lg1, and_true, Is, Pure, osj, ld0, ld1, lm1, lm0] at hk
   obtain ⟨h17, ⟨gs, gk, h16, n4, n6, b4, b6, q4, q6⟩⟩ := hk
   simp only [h17, h16] at hK ⊢
   have H17 := Yh h17; clear h17; have H16 := Yh h16; clear h16
   obtain rfl := hn 0 rfl
   have hB := h0 rfl
   have cB := hB.cell; have lB := hB.lt; have fB := hB.frozen
   have hB2 := setAll_blk [.bool true, .bool false, .int .i64 n, .int .i64 f, .int .i64 0, .slice (some ⟨gs, 0, none⟩) n n, .slice (some ⟨gk, 0, none⟩) n n, .int .i64 0, .int .i64 0, .bool false, .bool false, .int .i64 0, .int .i64 0, .string ⟨O2.toArray⟩] 0 wq _ hB
   simp only [setArr, lst, ls0, ls1, Nat.zero_add, Nat.reduceAdd] at hB2
   go_simp
   exact hK _ undef (setAll wq g 0 [.bool true, .bool false, .int .i64 n, .int .i64 f, .int .i64 0, .slice (some ⟨gs, 0, none⟩) n n, .slice (some ⟨gk, 0, none⟩) n n, .int .i64 0, .int .i64 0, .bool false, .bool false, .int .i64 0, .int .i64 0, .string ⟨O2.toArray⟩]) rfl ⟨setAll_pastR Ys _ 0 wq hP, Ye, (fun _ => ⟨gs, gk, b4, b6, hB2, setAll_far n4 _ 0 wq q4, setAll_far n6 _ 0 wq q6⟩)⟩ (setAll_pastR Ys _ 0 wq (Past.refl _ _)) trivial
  exact Yw
 ·intro u w9 hC hF
  obtain ⟨hP, -, h1⟩ := hC
  obtain ⟨gs, gk, s1, s2, s3, s4, s5⟩ := h1 rfl
  clear h1 hF
  have H9 : (RbAt B w9 g (Bn.say ⟨true, List.replicate n (false, .zero), f, 0, .zero, b.out⟩ wSources [(n : Int), f]) ∧ PastT B [100, 4, 44] w w9) := by
   refine ⟨⟨hB0, ?_, .slice (some ⟨gs, 0, none⟩) n n, .slice (some ⟨gk, 0, none⟩) n n, ?_, .inr ⟨gs, gk, _, _, ?_, ?_, s1, s2, s4, s5, ks_made n⟩⟩, PastT.of_past hP (fun k hk => ?_)⟩
   ·intro j _
    show ((List.replicate n (false, K6.zero)).getD j (false, .zero)).2 = .zero
    rw [Y8, List.getElem?_replicate]; split <;> rfl
   ·have e3 : rbC (Bn.say ⟨true, List.replicate n (false, .zero), f, 0, .zero, b.out⟩ wSources [(n : Int), f]) (.slice (some ⟨gs, 0, none⟩) n n) (.slice (some ⟨gk, 0, none⟩) n n) = #[.bool true, .bool false, .int .i64 n, .int .i64 f, .int .i64 0, .slice (some ⟨gs, 0, none⟩) n n, .slice (some ⟨gk, 0, none⟩) n n, .int .i64 0, .int .i64 0, .bool false, .bool false, .int .i64 0, .int .i64 0, .string ⟨O2.toArray⟩] := by
     have ea : (List.replicate n ((false, K6.zero) : Kw)).any (·.1) = false := by simp
     unfold rbC Bn.say Clk.zero
     dsimp only
     rw [ea, HO.out, HL.out, HO2.out, List.length_replicate]
    rw [e3]; exact s3
   ·show Value.slice _ n n = .slice _ (List.replicate n _).length (List.replicate n _).length; rw [List.length_replicate]
   ·show Value.slice _ n n = .slice _ (List.replicate n _).length (List.replicate n _).length; rw [List.length_replicate]
   ·have e : k = g := by simpa using hk
    subst e
    exact ⟨hB0, _, _, _, bB, by simp⟩
  have H9 := Yh H9
  clear hP s1 s2 s3 s4 s5 bB
  go_wp2
  go_ret
  exact ⟨rfl, H9.out.1, H9.out.2⟩
end Go.Proofs.YtiinmhfolfgobaaGreatDoor
namespace Go.Proofs.YtiinmhfolfgobaaGreatDoor
open Go.RowKit
set_option maxHeartbeats 12000000
set_option maxRecDepth 100000
theorem rexcheck_any (t1 t2 t3 t4 err : Int) (w : World) :
  Calls Tryz.prog 38 #[.agg #[.int .i64 t1, .int .i64 t2, .int .i64 t3, .int .i64 t4, .int .i64 err]] w (RB w (.int .i64 (exE t1 t2 t3 t4 err))) := by
 rcases y0 : vT t1
 ·rw [show exE t1 t2 t3 t4 err = 4 from by unfold exE; rw [if_neg]; simp only [y0]; simp]
  go_enter Tryz.func38, Tryz.ntmps38
  go_wp2_with fail
  refine (rvalid_any _ _).mono ?_
  rintro e wq1 ⟨rfl, rfl⟩
  rw [y0]
  go_wp2
  exact Yb (v := .int .i64 4) (by simp [results, Tryz.results38, go_sem, *]) rfl ⟨rfl, bl0⟩
 rcases y1 : vT t2
 ·rw [show exE t1 t2 t3 t4 err = 4 from by unfold exE; rw [if_neg]; simp only [y0, y1]; simp]
  go_enter Tryz.func38, Tryz.ntmps38
  go_wp2_with fail
  refine (rvalid_any _ _).mono ?_
  rintro e wq1 ⟨rfl, rfl⟩
  rw [y0]
  go_wp2_with fail
  refine (rvalid_any _ _).mono ?_
  rintro e wq2 ⟨rfl, rfl⟩
  rw [y1]
  go_wp2
  exact Yb (v := .int .i64 4) (by simp [results, Tryz.results38, go_sem, *]) rfl ⟨rfl, bl0⟩
 rcases y2 : vT t3
 ·rw [show exE t1 t2 t3 t4 err = 4 from by unfold exE; rw [if_neg]; simp only [y0, y1, y2]; simp]
  go_enter Tryz.func38, Tryz.ntmps38
  go_wp2_with fail
  refine (rvalid_any _ _).mono ?_
  rintro e wq1 ⟨rfl, rfl⟩
  rw [y0]
  go_wp2_with fail
  refine (rvalid_any _ _).mono ?_
  rintro e wq2 ⟨rfl, rfl⟩
  rw [y1]
  go_wp2_with fail
  refine (rvalid_any _ _).mono ?_
  rintro e wq3 ⟨rfl, rfl⟩
  rw [y2]
  go_wp2
  exact Yb (v := .int .i64 4) (by simp [results, Tryz.results38, go_sem, *]) rfl ⟨rfl, bl0⟩
 rcases y3 : vT t4
 ·rw [show exE t1 t2 t3 t4 err = 4 from by unfold exE; rw [if_neg]; simp only [y0, y1, y2, y3]; simp]
  go_enter Tryz.func38, Tryz.ntmps38
  go_wp2_with fail
  refine (rvalid_any _ _).mono ?_
  rintro e wq1 ⟨rfl, rfl⟩
  rw [y0]
  go_wp2_with fail
  refine (rvalid_any _ _).mono ?_
  rintro e wq2 ⟨rfl, rfl⟩
  rw [y1]
  go_wp2_with fail
  refine (rvalid_any _ _).mono ?_
  rintro e wq3 ⟨rfl, rfl⟩
  rw [y2]
  go_wp2_with fail
  refine (rvalid_any _ _).mono ?_
  rintro e wq4 ⟨rfl, rfl⟩
  rw [y3]
  go_wp2
  exact Yb (v := .int .i64 4) (by simp [results, Tryz.results38, go_sem, *]) rfl ⟨rfl, bl0⟩
 rcases y4 : decide (0 ≤ err)
 ·rw [show exE t1 t2 t3 t4 err = 4 from by unfold exE; rw [if_neg]; simp only [y0, y1, y2, y3, y4]; simp]
  have v4 := of_decide_eq_false y4
  have s4 : decide (err < 0) = true := Y2
  go_enter Tryz.func38, Tryz.ntmps38
  go_wp2_with fail
  refine (rvalid_any _ _).mono ?_
  rintro e wq1 ⟨rfl, rfl⟩
  rw [y0]
  go_wp2_with fail
  refine (rvalid_any _ _).mono ?_
  rintro e wq2 ⟨rfl, rfl⟩
  rw [y1]
  go_wp2_with fail
  refine (rvalid_any _ _).mono ?_
  rintro e wq3 ⟨rfl, rfl⟩
  rw [y2]
  go_wp2_with fail
  refine (rvalid_any _ _).mono ?_
  rintro e wq4 ⟨rfl, rfl⟩
  rw [y3]
  go_wp2
  exact Yb (v := .int .i64 4) (by simp [results, Tryz.results38, go_sem, *]) rfl ⟨rfl, bl0⟩
 have v4 := of_decide_eq_true y4
 have s4 : decide (err < 0) = false := Y3
 rcases y5 : decide (err ≤ 1152921504606846976)
 ·rw [show exE t1 t2 t3 t4 err = 4 from by unfold exE; rw [if_neg]; simp only [y0, y1, y2, y3, y4, y5]; simp]
  have v5 := of_decide_eq_false y5
  have s5 : decide (1152921504606846976 < err) = true := Y2
  go_enter Tryz.func38, Tryz.ntmps38
  go_wp2_with fail
  refine (rvalid_any _ _).mono ?_
  rintro e wq1 ⟨rfl, rfl⟩
  rw [y0]
  go_wp2_with fail
  refine (rvalid_any _ _).mono ?_
  rintro e wq2 ⟨rfl, rfl⟩
  rw [y1]
  go_wp2_with fail
  refine (rvalid_any _ _).mono ?_
  rintro e wq3 ⟨rfl, rfl⟩
  rw [y2]
  go_wp2_with fail
  refine (rvalid_any _ _).mono ?_
  rintro e wq4 ⟨rfl, rfl⟩
  rw [y3]
  go_wp2
  exact Yb (v := .int .i64 4) (by simp [results, Tryz.results38, go_sem, *]) rfl ⟨rfl, bl0⟩
 have v5 := of_decide_eq_true y5
 have s5 : decide (1152921504606846976 < err) = false := Y3
 rw [show exE t1 t2 t3 t4 err = if t4 < t1 ∨ t3 < t2 then 12 else 0 from by unfold exE; rw [if_pos]; simp only [y0, y1, y2, y3, y4, y5]; simp]
 by_cases a0 : t4 < t1
 ·rw [if_pos Yo]
  have a1 : decide (t4 < t1) = true := decide_eq_true a0
  go_enter Tryz.func38, Tryz.ntmps38
  go_wp2_with fail
  refine (rvalid_any _ _).mono ?_
  rintro e wq1 ⟨rfl, rfl⟩
  rw [y0]
  go_wp2_with fail
  refine (rvalid_any _ _).mono ?_
  rintro e wq2 ⟨rfl, rfl⟩
  rw [y1]
  go_wp2_with fail
  refine (rvalid_any _ _).mono ?_
  rintro e wq3 ⟨rfl, rfl⟩
  rw [y2]
  go_wp2_with fail
  refine (rvalid_any _ _).mono ?_
  rintro e wq4 ⟨rfl, rfl⟩
  rw [y3]
  go_wp2
  exact Yb (v := .int .i64 12) (by simp [results, Tryz.results38, go_sem, *]) rfl ⟨rfl, bl0⟩
 have a1 : decide (t4 < t1) = false := decide_eq_false a0
 by_cases b0 : t3 < t2
 ·rw [if_pos Yo]
  have b1 : decide (t3 < t2) = true := decide_eq_true b0
  go_enter Tryz.func38, Tryz.ntmps38
  go_wp2_with fail
  refine (rvalid_any _ _).mono ?_
  rintro e wq1 ⟨rfl, rfl⟩
  rw [y0]
  go_wp2_with fail
  refine (rvalid_any _ _).mono ?_
  rintro e wq2 ⟨rfl, rfl⟩
  rw [y1]
  go_wp2_with fail
  refine (rvalid_any _ _).mono ?_
  rintro e wq3 ⟨rfl, rfl⟩
  rw [y2]
  go_wp2_with fail
  refine (rvalid_any _ _).mono ?_
  rintro e wq4 ⟨rfl, rfl⟩
  rw [y3]
  go_wp2
  exact Yb (v := .int .i64 12) (by simp [results, Tryz.results38, go_sem, *]) rfl ⟨rfl, bl0⟩
 have b1 : decide (t3 < t2) = false := decide_eq_false b0
 rw [if_neg Yo]
 go_enter Tryz.func38, Tryz.ntmps38
 go_wp2_with fail
 refine (rvalid_any _ _).mono ?_
 rintro e wq1 ⟨rfl, rfl⟩
 rw [y0]
 go_wp2_with fail
 refine (rvalid_any _ _).mono ?_
 rintro e wq2 ⟨rfl, rfl⟩
 rw [y1]
 go_wp2_with fail
 refine (rvalid_any _ _).mono ?_
 rintro e wq3 ⟨rfl, rfl⟩
 rw [y2]
 go_wp2_with fail
 refine (rvalid_any _ _).mono ?_
 rintro e wq4 ⟨rfl, rfl⟩
 rw [y3]
 go_wp2
 exact Yb (v := .int .i64 0) (by simp [results, Tryz.results38, go_sem, *]) rfl ⟨rfl, bl0⟩
theorem rat_any (t1 t2 t3 t4 err p : Int) (w : World) :
  Calls Tryz.prog 15 #[.agg #[.int .i64 t1, .int .i64 t2, .int .i64 t3, .int .i64 t4, .int .i64 err], .int .i64 p] w (RB w (atV t1 t2 t3 t4 err p)) := by
 have RC := Yh (rexcheck_any t1 t2 t3 t4 err)
 by_cases h0 : exE t1 t2 t3 t4 err = 0
 rotate_left
 ·rw [atV_e h0]
  have HE := Yh h0
  generalize exE t1 t2 t3 t4 err = er at *
  have e1 : (er == 0) = false := by simpa using h0
  have e2 : (er != 0) = true := by simpa using h0
  go_enter Tryz.func15, Tryz.ntmps15
  go_wp2_with fail
  refine (RC.out _).mono ?_
  rintro e w1 ⟨rfl, hb1⟩
  have K1 : Below w.heap.size w w1 := Yc hb1 bl0
  have Z1 := K1.size
  have b1_0 := Yk (g := w.heap.size) hb1 bn0
  (try simp only [lst, ls0, ls1] at b1_0)
  have b1_1 := Yk (g := w.heap.size + 1) hb1 bn0
  (try simp only [lst, ls0, ls1] at b1_1)
  clear hb1
  obtain ⟨c1_0, f1_0, l1_0, e1_0, k1_0⟩ := Yf b1_0
  obtain ⟨c1_1, f1_1, l1_1, e1_1, k1_1⟩ := Yf b1_1
  have o1_0 := l1_0
  have o1_1 := l1_1
  go_wp2
  exact Yb (v := .tuple #[.agg #[.int .i64 0, .int .i64 0], .int .i64 er]) (by simp [results, Tryz.results15, go_sem, *]) rfl ⟨rfl, bl1⟩
 rw [h0] at RC
 obtain ⟨v1, v2, v3, v4, v5, v6, v7, v8⟩ := exE_all h0
 have u1 := vT_true.1 v1; have u2 := vT_true.1 v2; have u3 := vT_true.1 v3; have u4 := vT_true.1 v4
 have wd : IntKind.i64.wrap (t4 - t1) = t4 - t1 := IntWalk.i64_in _ Yo
 have wl : IntKind.i64.wrap (t3 - err) = t3 - err := IntWalk.i64_in _ Yo
 have wm : IntKind.i64.wrap (t2 + err) = t2 + err := IntWalk.i64_in _ Yo
 have RE := Yh (relapsed_any (t4 - t1) p)
 rcases hd : inD (t4 - t1) p
 ·rw [atV_4 h0 (.inl hd)]
  rw [outV_no hd] at RE
  clear v1 v2 v3 v4 v5 v6 v7 v8
  go_enter Tryz.func15, Tryz.ntmps15
  go_wp2_with fail
  refine (RC.out _).mono ?_
  rintro e w1 ⟨rfl, hb1⟩
  have K1 : Below w.heap.size w w1 := Yc hb1 bl0
  have Z1 := K1.size
  have b1_0 := Yk (g := w.heap.size) hb1 bn0
  (try simp only [lst, ls0, ls1] at b1_0)
  have b1_1 := Yk (g := w.heap.size + 1) hb1 bn0
  (try simp only [lst, ls0, ls1] at b1_1)
  clear hb1
  obtain ⟨c1_0, f1_0, l1_0, e1_0, k1_0⟩ := Yf b1_0
  obtain ⟨c1_1, f1_1, l1_1, e1_1, k1_1⟩ := Yf b1_1
  have o1_0 := l1_0
  have o1_1 := l1_1
  go_wp2_with fail
  refine (RE.out _).mono ?_
  rintro e w2 ⟨rfl, hb2⟩
  have K2 : Below w.heap.size w w2 := Yc hb2 bl1
  have Z2 := K2.size
  have b1_0' := Yk (g := w.heap.size) hb2 bn1
  (try simp only [lst, ls0, ls1] at b1_0')
  have b1_1' := Yk (g := w.heap.size + 1) hb2 bn1
  (try simp only [lst, ls0, ls1] at b1_1')
  clear hb2 K1
  clear b1_0 c1_0 f1_0 l1_0 e1_0 k1_0; have b1_0 := b1_0'; clear b1_0'
  clear b1_1 c1_1 f1_1 l1_1 e1_1 k1_1; have b1_1 := b1_1'; clear b1_1'
  obtain ⟨c1_0, f1_0, l1_0, e1_0, k1_0⟩ := Yf b1_0
  obtain ⟨c1_1, f1_1, l1_1, e1_1, k1_1⟩ := Yf b1_1
  go_wp2
  exact Yb (v := .tuple #[.agg #[.int .i64 0, .int .i64 0], .int .i64 4]) (by simp [results, Tryz.results15, go_sem, *]) rfl ⟨rfl, bl1⟩
 rw [outV_ok hd] at RE
 have hdd := inD_true.1 hd
 have X2 := hi_two hdd.1 hdd.2.2.1 hdd.2.2.2
 have X3 := le_hi hdd.1 hdd.2.2.1 hdd.2.2.2
 have wh : IntKind.i64.wrap (t2 + err + elHi (t4 - t1) p) = t2 + err + elHi (t4 - t1) p := IntWalk.i64_in _ Yo
 have A4 := fun h => atV_4 (p := p) h0 (.inr h)
 have A20 := fun a b c => atV_20 (p := p) h0 hd a b c
 have A0 := fun a b c => atV_0 (p := p) h0 hd a b c
 have HA4 := Yh A4; have HA20 := Yh A20; have HA0 := Yh A0; clear A4 A20 A0
 clear v1 v2 v3 v4 v7 v8 X2 X3 hdd h0 hd u1 u2 u3 u4
 generalize atV t1 t2 t3 t4 err p = V at *
 generalize elLo (t4 - t1) p = xl at *
 generalize elHi (t4 - t1) p = xh at *
 obtain ⟨lo, hlo⟩ : ∃ lo, t3 - err = lo := ⟨_, rfl⟩
 obtain ⟨hi, hhi⟩ : ∃ hi, t2 + err + xh = hi := ⟨_, rfl⟩
 replace wl := wl.trans hlo
 replace wh := wh.trans hhi
 rw [hlo] at HA4 HA20 HA0
 rw [hhi] at HA4 HA20 HA0
 have HLO := Yh hlo; have HHI := Yh hhi; clear hlo hhi
 go_enter Tryz.func15, Tryz.ntmps15
 go_wp2_with fail
 refine (RC.out _).mono ?_
 rintro e w1 ⟨rfl, hb1⟩
 have K1 : Below w.heap.size w w1 := Yc hb1 bl0
 have Z1 := K1.size
 have b1_0 := Yk (g := w.heap.size) hb1 bn0
 (try simp only [lst, ls0, ls1] at b1_0)
 have b1_1 := Yk (g := w.heap.size + 1) hb1 bn0
 (try simp only [lst, ls0, ls1] at b1_1)
 clear hb1
 obtain ⟨c1_0, f1_0, l1_0, e1_0, k1_0⟩ := Yf b1_0
 obtain ⟨c1_1, f1_1, l1_1, e1_1, k1_1⟩ := Yf b1_1
 have o1_0 := l1_0
 have o1_1 := l1_1
 go_wp2_with fail
 refine (RE.out _).mono ?_
 rintro e w2 ⟨rfl, hb2⟩
 have K2 : Below w.heap.size w w2 := Yc hb2 bl1
 have Z2 := K2.size
 have b1_0' := Yk (g := w.heap.size) hb2 bn1
 (try simp only [lst, ls0, ls1] at b1_0')
 have b1_1' := Yk (g := w.heap.size + 1) hb2 bn1
 (try simp only [lst, ls0, ls1] at b1_1')
 clear hb2 K1
 clear b1_0 c1_0 f1_0 l1_0 e1_0 k1_0; have b1_0 := b1_0'; clear b1_0'
 clear b1_1 c1_1 f1_1 l1_1 e1_1 k1_1; have b1_1 := b1_1'; clear b1_1'
 obtain ⟨c1_0, f1_0, l1_0, e1_0, k1_0⟩ := Yf b1_0
 obtain ⟨c1_1, f1_1, l1_1, e1_1, k1_1⟩ := Yf b1_1
 go_upto_region 7 with fail
 refine' wp_region_calm Yr (fun _ _ w' => Below w.heap.size w w' ∧ Blk w' (w.heap.size) 37 #[.int .i64 t1, .int .i64 t2, .int .i64 t3, .int .i64 t4, .int .i64 err] ∧ Blk w' (w.heap.size + 1) 40 #[.int .i64 0, .int .i64 0] ∧ Blk w' (w2.heap.size) 40 #[.int .i64 xl, .int .i64 xh]) (fun _ _ => True) [Is _, Is _, Is _, Is _, Is _, Is _, Is _, Is _, Is _, Is _, Is _, Is _, Is _, Is _, Is _] [[], [0], [], [2], [1, 3], [], [5], [], [7], [6, 8], [], [10], [9, 11], [4], [12]] [] [] rfl Yr Yp ?_ (Y1 (Y1 (Y1 (Y1 (Y1 (Y1 (Y1 (Y1 (Y1 (Y1 (Y1 (Y1 (Y1 (Y1 (Y1 Yn))))))))))))))) ?_ ?_
 ·intro _
  exact ⟨bl1, bn1, bn1, bn0⟩
 rotate_left 15
 ·skip
  refine zq0 ?_
  iterate 11 refine zq1 (fun _ _ _ _ _ ⟨_, m1_0, m1_1, mx⟩ => Ya m1_0.cell (Ya m1_1.cell mx.cell)) ?_
  iterate 3 refine zq0 ?_
  exact Yw
 ·intro u w3 hC hF
  obtain ⟨hP, m1_0, m1_1, mx⟩ := hC
  simp only [calmFacts, Is, and_true] at hF
  obtain ⟨f0, f1, f2, f3, f4, f5, f6, f7, f8, f9, f10, f11, f12, f13, f14⟩ := hF
  simp only [f0, f1, f2, f3, f4, f5, f6, f7, f8, f9, f10, f11, f12, f13, f14]
  clear f0 f1 f2 f3 f4 f5 f6 f7 f8 f9 f10 f11 f12 f13 f14
  have K3 := hP
  have Z3 := K3.size
  clear hP K2
  clear b1_0 c1_0 f1_0 l1_0 e1_0 k1_0; have b1_0 := m1_0; clear m1_0
  obtain ⟨c1_0, f1_0, l1_0, e1_0, k1_0⟩ := Yf b1_0
  clear b1_1 c1_1 f1_1 l1_1 e1_1 k1_1; have b1_1 := m1_1; clear m1_1
  obtain ⟨c1_1, f1_1, l1_1, e1_1, k1_1⟩ := Yf b1_1
  have bx := mx; clear mx
  obtain ⟨cx, fx, lx, ex, kx⟩ := Yf bx
  try simp only [wl, wm, wh]
  rcases l0 : vT lo
  ·skip
   go_wp2_with fail
   refine (rvalid_any _ _).mono ?_
   rintro e wq1 ⟨rfl, rfl⟩
   rw [l0]
   go_wp2
   exact Yb (v := .tuple #[.agg #[.int .i64 0, .int .i64 0], .int .i64 4]) (by simp [results, Tryz.results15, go_sem, *]) rfl ⟨by rw [HA4.out (.inl l0)], bl1⟩
  rcases h0 : vT hi
  ·skip
   go_wp2_with fail
   refine (rvalid_any _ _).mono ?_
   rintro e wq2 ⟨rfl, rfl⟩
   rw [l0]
   go_wp2_with fail
   refine (rvalid_any _ _).mono ?_
   rintro e wq3 ⟨rfl, rfl⟩
   rw [h0]
   go_wp2
   exact Yb (v := .tuple #[.agg #[.int .i64 0, .int .i64 0], .int .i64 4]) (by simp [results, Tryz.results15, go_sem, *]) rfl ⟨by rw [HA4.out (.inr h0)], bl1⟩
  by_cases c0 : hi < lo
  ·have c1 : decide (hi < lo) = true := decide_eq_true c0
   go_wp2_with fail
   refine (rvalid_any _ _).mono ?_
   rintro e wq4 ⟨rfl, rfl⟩
   rw [l0]
   go_wp2_with fail
   refine (rvalid_any _ _).mono ?_
   rintro e wq5 ⟨rfl, rfl⟩
   rw [h0]
   go_wp2
   exact Yb (v := .tuple #[.agg #[.int .i64 0, .int .i64 0], .int .i64 20]) (by simp [results, Tryz.results15, go_sem, *]) rfl ⟨by rw [HA20.out l0 h0 c0], bl1⟩
  have c1 : decide (hi < lo) = false := decide_eq_false c0
  go_wp2_with fail
  refine (rvalid_any _ _).mono ?_
  rintro e wq6 ⟨rfl, rfl⟩
  rw [l0]
  go_wp2_with fail
  refine (rvalid_any _ _).mono ?_
  rintro e wq7 ⟨rfl, rfl⟩
  rw [h0]
  go_wp2
  exact Yb (v := .tuple #[.agg #[.int .i64 lo, .int .i64 hi], .int .i64 0]) (by simp [results, Tryz.results15, go_sem, *]) rfl ⟨by rw [HA0.out l0 h0 c0], bl1⟩
end Go.Proofs.YtiinmhfolfgobaaGreatDoor
