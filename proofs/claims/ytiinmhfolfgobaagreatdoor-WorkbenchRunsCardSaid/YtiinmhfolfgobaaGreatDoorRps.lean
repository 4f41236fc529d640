/- The reference of layer 39: Check, Body, Save, number, Same, Load, Wake. -/
import Derived.Test.YtiinmhfolfgobaaGreatDoorJ30
import Derived.Test.YtiinmhfolfgobaaGreatDoorJ9
import Derived.Test.YtiinmhfolfgobaaGreatDoorJ11
import Derived.Test.YtiinmhfolfgobaaGreatDoorJ40
import Derived.Test.YtiinmhfolfgobaaGreatDoorJ21
import Derived.Test.YtiinmhfolfgobaaGreatDoorJ39
set_option linter.unusedVariables false
set_option linter.unusedSimpArgs false
namespace Go.Proofs.YtiinmhfolfgobaaGreatDoor
open Go.RowKit Go.Lib
set_option maxHeartbeats 32000000
set_option maxRecDepth 100000
theorem rsvalidP (lo hi : Int) (w : World) : Calls Tryz.prog 65 #[.agg #[.int .i64 lo, .int .i64 hi]] w (RB w (.bool (vS lo hi))) := (rsvalid_any lo hi w).mono fun _ _ ⟨h1, h2⟩ => ⟨h1, by rw [h2]; exact below_new _ _⟩
theorem rpcheck_any (n0 : Int) (k : K6) (hn : vT n0 = true) (w : World) :
  Calls Tryz.prog 153 #[.agg #[.int .i64 n0, .int .i64 k.at_, .int .i64 k.lo, .int .i64 k.hi, .int .i64 k.pp, .int .i64 k.le, .int .i64 k.re]] w (RB w (.int .i64 (pE n0 k))) := by
 have hb := vT_true.1 hn
 clear hn
 unfold pE
 obtain ⟨a, lo, hi, pp, le, re⟩ := k
 dsimp only
 have r := rkcheck_any a lo hi pp le re
 obtain ⟨e9, he9⟩ : ∃ e, kE a lo hi pp le re = e := ⟨_, rfl⟩
 rw [he9] at r ⊢
 have R := Yh r; clear r he9
 have g3 : decide (1152921504606846976 < n0) = false := Y3
 have g4 : decide (n0 > 1152921504606846976) = false := Y3
 by_cases h0 : e9 = 0
 ·subst h0
  rw [if_pos rfl]
  by_cases h1 : 0 ≤ n0
  ·have g1 : decide (n0 < 0) = false := Y3
   rw [if_pos h1]
   go_enter Tryz.func153, Tryz.ntmps153
   go_wp2_with fail
   refine (R.out _).mono ?_
   rintro e w1 ⟨rfl, hb1⟩
   have K1 : Below w.heap.size w w1 := Yc hb1 bl0
   have Z1 := K1.size
   have b1_0 := Yk (g := w.heap.size) hb1 bn0
   (try simp only [lst, ls0, ls1] at b1_0)
   clear hb1
   obtain ⟨c1_0, f1_0, l1_0, e1_0, k1_0⟩ := Yf b1_0
   have o1_0 := l1_0
   go_wp2
   go_ret
   exact ⟨rfl, bl1⟩
  ·have g1 : decide (n0 < 0) = true := Y2
   rw [if_neg h1]
   go_enter Tryz.func153, Tryz.ntmps153
   go_wp2_with fail
   refine (R.out _).mono ?_
   rintro e w1 ⟨rfl, hb1⟩
   have K1 : Below w.heap.size w w1 := Yc hb1 bl0
   have Z1 := K1.size
   have b1_0 := Yk (g := w.heap.size) hb1 bn0
   (try simp only [lst, ls0, ls1] at b1_0)
   clear hb1
   obtain ⟨c1_0, f1_0, l1_0, e1_0, k1_0⟩ := Yf b1_0
   have o1_0 := l1_0
   go_wp2
   go_ret
   exact ⟨rfl, bl1⟩
 ·rw [if_neg h0]
  have g1 : (e9 == 0) = false := by simpa using h0
  have g2 : decide (e9 = 0) = false := decide_eq_false h0
  have g5 : (e9 != 0) = true := by simpa using h0
  go_enter Tryz.func153, Tryz.ntmps153
  go_wp2_with fail
  refine (R.out _).mono ?_
  rintro e w1 ⟨rfl, hb1⟩
  have K1 : Below w.heap.size w w1 := Yc hb1 bl0
  have Z1 := K1.size
  have b1_0 := Yk (g := w.heap.size) hb1 bn0
  (try simp only [lst, ls0, ls1] at b1_0)
  clear hb1
  obtain ⟨c1_0, f1_0, l1_0, e1_0, k1_0⟩ := Yf b1_0
  have o1_0 := l1_0
  go_wp2
  go_ret
  exact ⟨rfl, bl1⟩
theorem rsame_any (g1 o1 c1 g2 o2 c2 n : Nat) (bs : List Int) (hl : bs.length = n) (hb : InB bs) (w : World) (h1 : BySl w g1 o1 bs) (h2 : BySl w g2 o2 bs) :
  Calls Tryz.prog 157 #[.slice (some ⟨g1, o1, none⟩) n c1, .slice (some ⟨g2, o2, none⟩) n c2] w (RB w (.bool true)) := by
 have e1 := bytes_str w g1 o1 c1 n bs hl hb h1
 have e2 := bytes_str w g2 o2 c2 n bs hl hb h2
 obtain ⟨sx, hsx⟩ : ∃ s, (bs.map fun x => UInt8.ofNat x.toNat).toArray = s := ⟨_, rfl⟩
 rw [hsx] at e1 e2
 clear hsx h1 h2 hl hb
 go_enter Tryz.func157, Tryz.ntmps157
 go_wp2
 go_ret
 exact ⟨rfl, bl0⟩
theorem rpnum_any (i g off cap : Nat) (bs : List Int) (hl : bs.length = 80) (hb : InB bs) (hi : i < 8) (hc : 80 ≤ cap) (w : World) (h : BySl w g off bs) :
  Calls Tryz.prog 158 #[.slice (some ⟨g, off, none⟩) 80 cap, .int .i64 i] w (RB w (.int .i64 (IntKind.i64.wrap (gtS ((bs.drop (8 + 8 * i)).take 8) 8)))) := by
 have hs := (h.tail (8 + 8 * i) Yo).head 8 (by rw [List.length_drop]; omega)
 have hlen : ((bs.drop (8 + 8 * i)).take 8).length = 8 := by rw [List.length_take, List.length_drop]; omega
 have hin : InB ((bs.drop (8 + 8 * i)).take 8) := fun x hx => hb x (List.mem_of_mem_drop (List.mem_of_mem_take hx))
 have RG := Yh (fun c W hW => rget_any g (off + (8 + 8 * i)) c ((bs.drop (8 + 8 * i)).take 8) hlen hin W hW)
 have HS := Yh hs
 obtain ⟨r9, hr9⟩ : ∃ r, gtS ((bs.drop (8 + 8 * i)).take 8) 8 = r := ⟨_, rfl⟩
 rw [hr9] at RG ⊢
 obtain ⟨z9, hz9⟩ : ∃ z, IntKind.i64.wrap r9 = z := ⟨_, rfl⟩
 rw [hz9]
 have hz8 : wrap64 r9 = z9 := (IntWalk.i64_left r9).symm.trans hz9
 clear hr9 hlen hin hs h hb hl
 have w1 : IntKind.i64.wrap (8 * (i : Int)) = ((8 * i : Nat) : Int) := Y4
 have w2 : IntKind.i64.wrap (8 + ((8 * i : Nat) : Int)) = ((8 + 8 * i : Nat) : Int) := Y4
 have w3 : IntKind.i64.wrap (16 + ((8 * i : Nat) : Int)) = ((8 + 8 * i + 8 : Nat) : Int) := Y4
 obtain ⟨j0, hj0⟩ : ∃ j, 8 * i = j := ⟨_, rfl⟩
 rw [hj0] at w1 w2 w3 RG HS
 obtain ⟨j, hj⟩ : ∃ j, 8 + j0 = j := ⟨_, rfl⟩
 rw [hj] at w2 w3 RG HS
 obtain ⟨j8, hj8⟩ : ∃ j8, j + 8 = j8 := ⟨_, rfl⟩
 rw [hj8] at w3
 have p1 : j ≤ j8 := by omega
 have p2 : j8 ≤ 80 := by omega
 have p3 : (j : Int) ≤ (j8 : Int) := by omega
 have p4 : (j8 : Int) ≤ (cap : Int) := by omega
 have p5 : j8 - j = 8 := by omega
 have p7 : j8 ≤ cap := by omega
 have p8 : j < 80 := by omega
 clear hj hj8 hj0
 go_enter Tryz.func158, Tryz.ntmps158
 go_wp2_with fail
 refine (RG.out (cap - j) _ HS.out).mono ?_
 rintro e w1 ⟨rfl, hb1⟩
 have K1 : Below w.heap.size w w1 := Yc hb1 bl0
 have Z1 := K1.size
 clear hb1
 go_wp2
 go_ret
 exact ⟨rfl, bl1⟩
def RBodR (w : World) (vs : List Int) (e : Ending) (w' : World) : Prop := ∃ g cap, e = .returned (.slice (some ⟨g, 0, none⟩) 64 cap) ∧ 64 ≤ cap ∧ w.heap.size ≤ g ∧ BySl w' g 0 (bodyQ vs 7) ∧ Below w.heap.size w w'
theorem rpbody_any (n0 : Int) (k : K6) (hn : vT n0 = true) (he : pE n0 k = 0) (w : World) :
  Calls Tryz.prog 154 #[.agg #[.int .i64 n0, .int .i64 k.at_, .int .i64 k.lo, .int .i64 k.hi, .int .i64 k.pp, .int .i64 k.le, .int .i64 k.re]] w (RBodR w (savVs n0 k)) := by
 have hget := sav_get n0 k
 have hint := sav_ints (pE_0 he).1 hn
 obtain ⟨vs, hvs⟩ : ∃ vs, savVs n0 k = vs := ⟨_, rfl⟩
 rw [hvs] at hget hint ⊢
 have HGET := Yh hget; have HINT := Yh hint; clear hget hint hn he hvs
 obtain ⟨i0, hif, hz0, hz1, hz2⟩ := info_parts infoU8
 obtain ⟨a, lo, hi, pp, le, re⟩ := k
 go_enter Tryz.func154, Tryz.ntmps154
 go_upto_region 1 with fail
 obtain ⟨w1, hw1⟩ : ∃ x : World, x = w.alloc (.cells #[.int .i64 n0, .int .i64 a, .int .i64 lo, .int .i64 hi, .int .i64 pp, .int .i64 le, .int .i64 re] 161) := ⟨_, rfl⟩
 have b1_0 : Blk w1 w.heap.size 161 #[.int .i64 n0, .int .i64 a, .int .i64 lo, .int .i64 hi, .int .i64 pp, .int .i64 le, .int .i64 re] := by rw [hw1]; exact Blk.new _ _ _
 have K1 : Below w.heap.size w w1 := by rw [hw1]; exact below_new _ _
 have Z1 : w.heap.size + 1 ≤ w1.heap.size := by rw [hw1]; simp
 have HK1 := Yh (show Kp w w1 from K1)
 simp only [← hw1]
 clear K1 hw1
 have hcv := Go.Joins.run_convert_bytes_const_at (P := Tryz.prog) w1 72 5 #[.int .u8 115, .int .u8 101, .int .u8 99, .int .u8 116, .int .u8 105, .int .u8 109, .int .u8 101, .int .u8 49] 8 8 w1.heap.size rfl Tryz.underlying72 (by rfl)
 go_upto_region 2 with fail
 obtain ⟨wA, hwA⟩ : ∃ x : World, x = w1.alloc (.cells #[.int .u8 115, .int .u8 101, .int .u8 99, .int .u8 116, .int .u8 105, .int .u8 109, .int .u8 101, .int .u8 49] 5 (8, 9)) := ⟨_, rfl⟩
 have hmr : BySl wA w1.heap.size 0 pMagic := ⟨by rw [hwA]; simp, fun j hj => by
  rw [hwA, Nat.zero_add, Go.Joins.cell_alloc_mark_at w1 _ _ _ _ j rfl]
  have hj8 : j < 8 := hj
  obtain rfl | rfl | rfl | rfl | rfl | rfl | rfl | rfl : j = 0 ∨ j = 1 ∨ j = 2 ∨ j = 3 ∨ j = 4 ∨ j = 5 ∨ j = 6 ∨ j = 7 := by omega
  all_goals rfl⟩
 have bA : Blk wA w.heap.size 161 #[.int .i64 n0, .int .i64 a, .int .i64 lo, .int .i64 hi, .int .i64 pp, .int .i64 le, .int .i64 re] := by rw [hwA]; exact b1_0.alloc _
 have SA : Below w1.heap.size w1 wA := by rw [hwA]; exact below_new _ _
 have ZA : w1.heap.size + 1 ≤ wA.heap.size := by rw [hwA]; simp
 rw [← hwA]
 clear hwA hcv b1_0
 obtain ⟨cA, fA, lA, eA, kA⟩ := Yf bA
 have HMR := Yh hmr; have HSA := Yh SA; clear hmr SA
 go_wp2
 go_loopg [3, 5] 7 (fun G v i wr => PsRel w1 wA.heap.size #[.int .i64 n0, .int .i64 a, .int .i64 lo, .int .i64 hi, .int .i64 pp, .int .i64 le, .int .i64 re] vs G v i wr)
 case atStart => exact ⟨0, Yo, Yo, rfl, fun _ => ⟨rfl, HMR.out.below (below_new _ _)⟩, Ye, Blk.new _ _ _, HSA.out.alloc Yo _⟩
 case round =>
  obtain ⟨q, hq, rfl, rfl, hr0, hr1, bN, KR⟩ := hrel
  have ZR := KR.size
  clear HMR HSA cA fA lA eA kA bA
  have hbl := bodyQ_len vs q
  have lN9 := bN.lt
  by_cases hlt : q < 7
  ·have gq : decide ((q : Int) < 7) = true := Y2
   have gqn : decide (q < 7) = true := decide_eq_true hlt
   have pq : (q : Int) < 7 := by omega
   have wq : IntKind.i64.wrap ((q : Int) + 1) = ((q + 1 : Nat) : Int) := Y4
   have cN := (bN.cell q).trans (HGET.out q hlt)
   have lN := bN.lt
   have hst : bodyQ vs (q + 1) = bodyQ vs q ++ putB (IntKind.u64.wrap (vs.getD q 0)) 8 := rfl
   obtain ⟨v9, hv9⟩ : ∃ v, vs.getD q 0 = v := ⟨_, rfl⟩
   rw [hv9] at cN hst
   obtain ⟨u9, hu9⟩ : ∃ u, IntKind.u64.wrap v9 = u := ⟨_, rfl⟩
   have hu0 := (u64_in v9)
   rw [hu9] at hst hu0
   by_cases hq0 : 0 < q
   ·obtain ⟨hrow, A, c, rfl⟩ := hr1 hq0
    clear hr0 hr1
    obtain ⟨bq, hbq⟩ : ∃ b, bodyQ vs q = b := ⟨_, rfl⟩
    rw [hbq] at hrow hst hbl ⊢
    have HBQ := Yh hbq; have HST := Yh hst; have HROW := Yh hrow; have HKR := Yh KR; have HBN := Yh bN; have HBL := Yh hbl
    have hown := hrow.own
    clear hbq hst hrow KR bN hv9 hbl
    generalize hv : (Value.slice A bq.length c) = v at *
    have HV := Yh hv; clear hv
    go_wp2_with fail
    refine (rput_any u9 8 hu0.1 hu0.2 Yd Yd _).mono ?_
    rintro e w3 ⟨gp, rfl, hgp, hlp, hby, hb3⟩
    have HR3 := Yh (HROW.out.below hb3); have HK3 := Yh (Yc hb3 HKR.out); have HBN3 := Yh (Yk hb3 HBN.out); have HBY := Yh hby.sl
    have Z3 := hb3.size
    clear hb3 hby HROW HKR HBN cN
    go_wp2_with (at_builtin; refine wpList_append_lies _ rfl _ _ 72 rfl (wA.heap.size + 1) 5 i0 (.int .u8 0) 1 1 Tryz.underlying72 hif hz0 hz1 hz2 rfl Yd v bq.length (bcells bq) rfl HR3.out ⟨gp, 0, none⟩ 8 8 (bcells (putB u9 8)) rfl rfl (news_bytes HBY.out) (one_bytes _) ?c2 ?c3 ?c4 ?c5 _ rfl ?_)
    case c2 => omega
    case c3 => have := HBL.out; unfold maxLen; omega
    case c4 => have := HBL.out; omega
    case c5 => first | omega | (simp; omega)
    intro g7 c7 w7 hown7 hgrow hlie hglt
    have K7 : Below w1.heap.size w1 w7 := HK3.out.grown hgrow Yo (fun k hk => by have := (hown k hk).1; omega)
    have hr7 : ByRow w7 (wA.heap.size + 1) (.slice (some ⟨g7, 0, none⟩) (bq.length + 8) c7) (bodyQ vs (q + 1)) := by
     unfold ByRow
     rw [HST.out, lla, putB_length, bcells_app]; exact hown7
    have hl7 : (bodyQ vs (q + 1)).length = bq.length + 8 := by rw [HST.out, lla, putB_length]
    have bN7 : Blk w7 wA.heap.size 3 #[.int .i64 n0, .int .i64 a, .int .i64 lo, .int .i64 hi, .int .i64 pp, .int .i64 le, .int .i64 re] := (hgrow.block _ HBN3.out.lt (fun e => by have := hown _ e.symm; omega)).trans HBN3.out
    have H7 := Yh (Ya K7 (Ya hr7 (Ya hl7 bN7)))
    clear hown7 hgrow hlie hglt hr7 K7 hl7 bN7
    go_wp2
    go_roundg (7 - (q + 1))
    case measure => omega
    case rel => exact ⟨q + 1, Yo, Yo, by go_num, (fun h => absurd h Yo), fun _ => ⟨H7.out.2.1, _, _, by rw [H7.out.2.2.1]⟩, H7.out.2.2.2, H7.out.1⟩
   ·obtain rfl : q = 0 := by omega
    obtain ⟨rfl, hmg⟩ := hr0 rfl
    have HMG := Yh hmg; have HKR := Yh KR; have HBN := Yh bN; have HST := Yh hst
    clear hr0 hr1 hmg KR bN hst hv9 hbl
    go_wp2_with fail
    refine (rput_any u9 8 hu0.1 hu0.2 Yd Yd _).mono ?_
    rintro e w3 ⟨gp, rfl, hgp, hlp, hby, hb3⟩
    have HM3 := Yh (HMG.out.below hb3); have HK3 := Yh (Yc hb3 HKR.out); have HBN3 := Yh (Yk hb3 HBN.out); have HBY := Yh hby.sl
    have Z3 := hb3.size
    clear hb3 hby HMG HKR HBN cN
    go_wp2_with (at_builtin; refine wpList_append_grows _ rfl _ _ 72 rfl 5 i0 (.int .u8 0) 1 1 Tryz.underlying72 hif hz0 hz1 hz2 rfl Yd (some ⟨w1.heap.size, 0, none⟩) 8 8 (bcells pMagic) rfl (fun h => by cases h) rfl (fun b9 h => by injection h with h; subst h; exact news_bytes HM3.out) ⟨gp, 0, none⟩ 8 8 (bcells (putB u9 8)) rfl rfl (news_bytes HBY.out) (one_bytes _) Yd Yd Yd ?_)
    intro v7 w7 hown7 hgrow
    have K7 : Below w1.heap.size w1 w7 := HK3.out.grown hgrow Yo (fun k hk => by cases hk)
    have hr7 : ByRow w7 (wA.heap.size + 1) v7 (bodyQ vs (0 + 1)) := by
     refine ByRow.mono (base := w3.heap.size) ?_ Yo
     unfold ByRow
     rw [HST.out, lla, putB_length, bcells_app]; exact hown7
    have hl7 : (bodyQ vs (0 + 1)).length = 16 := bodyQ_len vs 1
    have bN7 : Blk w7 wA.heap.size 3 #[.int .i64 n0, .int .i64 a, .int .i64 lo, .int .i64 hi, .int .i64 pp, .int .i64 le, .int .i64 re] := (hgrow.block _ HBN3.out.lt (fun e => by cases e)).trans HBN3.out
    obtain ⟨g8, cp8, rfl, -, -, -⟩ := hr7.form (by rw [hl7]; decide)
    have H7 := Yh (Ya K7 (Ya hr7 bN7))
    clear hown7 hgrow hr7 K7 bN7
    go_wp2
    go_roundg (7 - (0 + 1))
    case measure => omega
    case rel => exact ⟨0 + 1, Yo, Yo, by go_num, Ye, fun _ => ⟨H7.out.2.1, _, _, rfl⟩, H7.out.2.2, H7.out.1⟩
  ·obtain rfl : q = 7 := by omega
   obtain ⟨hrow, A, c, rfl⟩ := hr1 Yd
   clear hr0 hr1
   have gq : decide (((7 : Nat) : Int) < 7) = false := by decide
   have gq2 : decide ((7 : Int) < 7) = false := by decide
   obtain ⟨g9, cp9, e9, hg9, hl9, hat9⟩ := hrow.form (by rw [bodyQ_len]; omega)
   rw [hbl] at e9
   rw [hbl]
   obtain ⟨rfl, rfl⟩ : A = some ⟨g9, 0, none⟩ ∧ c = cp9 := by injection e9 with a9 b9 c9; exact ⟨a9, c9⟩
   have hcp := hrow.cap
   rw [hbl] at hcp
   have HROW := Yh hrow; have HAT := Yh hat9.sl; have HKR := Yh KR
   clear e9 hrow hat9 KR bN hbl
   rw [show (8 + 8 * 7 : Nat) = 64 from rfl] at hcp ⊢
   go_wp2
   go_ret
   exact ⟨g9, c, rfl, hcp, Yo, HAT.out, Yc HKR.out HK1.out⟩
theorem rpsave_err (n0 : Int) (k : K6) (hn : vT n0 = true) (he : pE n0 k ≠ 0) (w : World) :
  Calls Tryz.prog 124 #[.agg #[.int .i64 n0, .int .i64 k.at_, .int .i64 k.lo, .int .i64 k.hi, .int .i64 k.pp, .int .i64 k.le, .int .i64 k.re]] w (RB w (.tuple #[.slice none 0 0, .int .i64 (pE n0 k)])) := by
 have R := Yh (fun W => rpcheck_any n0 k hn W)
 obtain ⟨e9, he9⟩ : ∃ e, pE n0 k = e := ⟨_, rfl⟩
 rw [he9] at R he ⊢
 clear he9 hn
 obtain ⟨a, lo, hi, pp, le, re⟩ := k
 dsimp only at R ⊢
 have g1 : (e9 == 0) = false := by simpa using he
 have g2 : decide (e9 = 0) = false := decide_eq_false he
 have g3 : (e9 != 0) = true := by simpa using he
 go_enter Tryz.func124, Tryz.ntmps124
 go_wp2_with fail
 refine (R.out _).mono ?_
 rintro e w1 ⟨rfl, hb1⟩
 have K1 : Below w.heap.size w w1 := Yc hb1 bl0
 have Z1 := K1.size
 have b1_0 := Yk (g := w.heap.size) hb1 bn0
 (try simp only [lst, ls0, ls1] at b1_0)
 clear hb1
 obtain ⟨c1_0, f1_0, l1_0, e1_0, k1_0⟩ := Yf b1_0
 have o1_0 := l1_0
 go_wp2
 exact Yb (v := .tuple #[.slice none 0 0, .int .i64 e9]) (by simp [results, Tryz.results124, go_sem, *]) rfl ⟨rfl, bl1⟩
theorem rpsave_ok (n0 : Int) (k : K6) (hn : vT n0 = true) (he : pE n0 k = 0) (w : World) :
  Calls Tryz.prog 124 #[.agg #[.int .i64 n0, .int .i64 k.at_, .int .i64 k.lo, .int .i64 k.hi, .int .i64 k.pp, .int .i64 k.le, .int .i64 k.re]] w (SavR w (savVs n0 k)) := by
 have R := Yh (fun W => rpcheck_any n0 k hn W)
 rw [he] at R
 have RB9 := Yh (fun W => rpbody_any n0 k hn he W)
 have hvl : ∀ vs, fileB vs = bodyQ vs 7 ++ (sha64 (bodyQ vs 7)).take 16 := fun _ => rfl
 obtain ⟨vs, hvs⟩ : ∃ vs, savVs n0 k = vs := ⟨_, rfl⟩
 rw [hvs] at RB9 ⊢
 clear hvs
 have HSH := Yh (fun g c h W hW => rshort64_any g 0 c (bodyQ vs 7) (bodyQ_len vs 7) h (bodyQ_in vs 7) W hW)
 obtain ⟨bq, hbq⟩ : ∃ b, bodyQ vs 7 = b := ⟨_, rfl⟩
 have hbl : bq.length = 64 := by rw [← hbq]; exact bodyQ_len vs 7
 obtain ⟨hh, hhh⟩ : ∃ h, (sha64 bq).take 16 = h := ⟨_, rfl⟩
 have hsl : (sha64 bq).length = 32 := sha64_len _
 have hhl : hh.length = 16 := by rw [← hhh, List.length_take, hsl]; rfl
 have hF : fileB vs = bq ++ hh := by rw [hvl, hbq, hhh]
 unfold RBodR at RB9
 rw [hbq] at HSH
 simp only [hbq] at RB9
 have HF := Yh hF; have HBL := Yh hbl; have HHL := Yh hhl; have HHH := Yh hhh; have HSL := Yh hsl; clear hF hbl hhl hhh hbq hvl hsl hn he
 unfold SavR
 rw [HF.out]
 obtain ⟨a, lo, hi, pp, le, re⟩ := k
 dsimp only at R RB9
 go_enter Tryz.func124, Tryz.ntmps124
 go_wp2_with fail
 refine (R.out _).mono ?_
 rintro e w1 ⟨rfl, hb1⟩
 have K1 : Below w.heap.size w w1 := Yc hb1 bl0
 have Z1 := K1.size
 have b1_0 := Yk (g := w.heap.size) hb1 bn0
 (try simp only [lst, ls0, ls1] at b1_0)
 clear hb1
 obtain ⟨c1_0, f1_0, l1_0, e1_0, k1_0⟩ := Yf b1_0
 have o1_0 := l1_0
 go_wp2_with fail
 refine (RB9.out _).mono ?_
 rintro e w2 ⟨g9, c9, rfl, hcp, hg9, hbs, hb2⟩
 have HBS := Yh hbs; clear hbs
 have K2 : Below w.heap.size w w2 := Yc hb2 bl1
 have Z2 := K2.size
 have b1_0' := Yk (g := w.heap.size) hb2 bn1
 (try simp only [lst, ls0, ls1] at b1_0')
 clear hb2 K1
 clear b1_0 c1_0 f1_0 l1_0 e1_0 k1_0; have b1_0 := b1_0'; clear b1_0'
 obtain ⟨c1_0, f1_0, l1_0, e1_0, k1_0⟩ := Yf b1_0
 go_wp2_with fail
 refine (HSH.out g9 c9 hcp _ (HBS.out.below (by (repeat' (first | (with_reducible exact Yl) | (with_reducible refine Below.setCell ?_ ?_ _) | (with_reducible refine Below.alloc ?_ ?_ _) | (with_reducible refine Below.drew ?_) | (with_reducible refine below_drewN ?_ _))) <;> (first | omega | (simp <;> omega))))).mono ?_
 rintro e w3 ⟨gp, cp, rfl, hcp16, hgp, hlp, hby, hb3⟩
 have HBS3 := Yh ((HBS.out.below (by (repeat' (first | (with_reducible exact Yl) | (with_reducible refine Below.setCell ?_ ?_ _) | (with_reducible refine Below.alloc ?_ ?_ _) | (with_reducible refine Below.drew ?_) | (with_reducible refine below_drewN ?_ _))) <;> (first | omega | (simp <;> omega)))).below hb3)
 have HBY := Yh (show BySl w3 gp 0 hh from by have h := hby.sl.head 16 (by rw [HSL.out]; decide); rw [HHH.out] at h; exact h)
 clear hby
 have K3 : Below w.heap.size w w3 := Yc hb3 bl1
 have Z3 := K3.size
 have b1_0' := Yk (g := w.heap.size) hb3 bn1
 (try simp only [lst, ls0, ls1] at b1_0')
 clear hb3 K2
 clear b1_0 c1_0 f1_0 l1_0 e1_0 k1_0; have b1_0 := b1_0'; clear b1_0'
 obtain ⟨c1_0, f1_0, l1_0, e1_0, k1_0⟩ := Yf b1_0
 go_wp2_with fail
 refine (rjoin_any _ 2 2 [bq, hh] rfl (by intro p hp; simp at hp; rcases hp with rfl | rfl; rw [HBL.out]; decide; rw [HHL.out]; decide) Ys (bq ++ hh) Ys (by rw [lla, HBL.out, HHL.out]; decide) Ys _ (parts2 (Blk.new _ _ _) HBL.out (HBS3.out.below (below_new _ _)) HHL.out (HBY.out.below (below_new _ _)))).mono ?_
 rintro e w4 ⟨g4, c4, rfl, hg4, hl4, hrow, hb4⟩
 have hl9 : (bq ++ hh).length = 80 := by rw [lla, HBL.out, HHL.out]
 have hcp4 := hrow.cap
 obtain ⟨gz, cz, ez, -, -, hat4⟩ := hrow.form Yo
 obtain rfl : g4 = gz := by injection ez with ez; simpa using ez
 rw [hl9] at hcp4 ⊢
 have HAT := Yh hat4.sl
 have hg5 : w.heap.size ≤ g4 := by simp at hg4; omega
 clear hrow hat4 ez hl9
 have K4 : Below w.heap.size w w4 := Yc hb4 bl1
 have Z4 := K4.size
 have b1_0' := Yk (g := w.heap.size) hb4 bn1
 (try simp only [lst, ls0, ls1] at b1_0')
 clear hb4 K3
 clear b1_0 c1_0 f1_0 l1_0 e1_0 k1_0; have b1_0 := b1_0'; clear b1_0'
 obtain ⟨c1_0, f1_0, l1_0, e1_0, k1_0⟩ := Yf b1_0
 go_wp2
 exact Yb (v := .tuple #[.slice (some ⟨g4, 0, none⟩) 80 c4, .int .i64 0]) (by simp [results, Tryz.results124, go_sem, *]) rfl ⟨g4, c4, rfl, hcp4, hg5, HAT.out, bl1⟩
theorem keep_bysr {h : List Int} : ∀ (d : List Value) (v : Value) (w w' : World), Below w.heap.size w w' → (∃ g c, v = .slice (some ⟨g, 0, none⟩) 16 c ∧ BySl w g 0 h) → (∃ g c, v = .slice (some ⟨g, 0, none⟩) 16 c ∧ BySl w' g 0 h) := fun _ _ _ _ hb ⟨g, c, e, h⟩ => ⟨g, c, e, h.below hb⟩
theorem rpload_ok (g cap : Nat) (n0 : Int) (k : K6) (hc : 80 ≤ cap) (hn : vT n0 = true) (he : pE n0 k = 0) (w : World) (h : BySl w g 0 (fileB (savVs n0 k))) :
  Calls Tryz.prog 125 #[.slice (some ⟨g, 0, none⟩) 80 cap] w (RB w (.tuple #[.agg #[.int .i64 n0, .int .i64 k.at_, .int .i64 k.lo, .int .i64 k.hi, .int .i64 k.pp, .int .i64 k.le, .int .i64 k.re], .int .i64 0])) := by
 have R := Yh (fun W => rpcheck_any n0 k hn W)
 rw [he] at R
 have hint := sav_ints (pE_0 he).1 hn
 have hat : ∀ (j : Nat) (h8 : j < 7) (W : World) (hW : BySl W g 0 (fileB (savVs n0 k))), Calls Tryz.prog 158 #[.slice (some ⟨g, 0, none⟩) 80 cap, .int .i64 j] W (RB W (.int .i64 ((savVs n0 k).getD j 0))) := fun j h8 W hW => by
  have r := rpnum_any j g 0 cap (fileB (savVs n0 k)) (fileB_len _) (fileB_in _) Yo hc W hW
  rw [fileB_num _ j h8] at r
  have hm := hint ((savVs n0 k).getD j 0) (by rw [Y8, Y9 (by show j < 7; omega)]; exact List.getElem_mem _)
  rw [gtS_num _ hm.1 hm.2] at r
  exact r
 have hsh := fun (c : Nat) (hc2 : 64 ≤ c) (W : World) (hW : BySl W g 0 ((fileB (savVs n0 k)).take 64)) => rshort64_any g 0 c ((fileB (savVs n0 k)).take 64) (by rw [fileB_body]; exact bodyQ_len _ 7) hc2 (by rw [fileB_body]; exact bodyQ_in _ 7) W hW
 have hfh : (sha64 ((fileB (savVs n0 k)).take 64)).take 16 = (fileB (savVs n0 k)).drop 64 := by rw [fileB_body, fileB_hash]
 have hhl : (sha64 ((fileB (savVs n0 k)).take 64)).length = 32 := sha64_len _
 have hmg : (fileB (savVs n0 k)).take 8 = pMagic := fileB_magic _
 have hfl := fileB_len (savVs n0 k)
 have hfi := fileB_in (savVs n0 k)
 obtain ⟨fb, hfb⟩ : ∃ f, fileB (savVs n0 k) = f := ⟨_, rfl⟩
 rw [hfb] at h hat hsh hfh hhl hmg hfl hfi
 clear hfb he hn hint
 obtain ⟨sf, hsf⟩ : ∃ s, sha64 (fb.take 64) = s := ⟨_, rfl⟩
 rw [hsf] at hsh hfh hhl
 clear hsf
 obtain ⟨a, lo, hi, pp, le, re⟩ := k
 have A0 : Hid (∀ (W : World), BySl W g 0 fb → Calls Tryz.prog 158 #[.slice (some ⟨g, 0, none⟩) 80 cap, .int .i64 0] W (RB W (.int .i64 n0))) := Yh (fun W hW => hat 0 Yd W hW)
 have A1 : Hid (∀ (W : World), BySl W g 0 fb → Calls Tryz.prog 158 #[.slice (some ⟨g, 0, none⟩) 80 cap, .int .i64 1] W (RB W (.int .i64 a))) := Yh (fun W hW => hat 1 Yd W hW)
 have A2 : Hid (∀ (W : World), BySl W g 0 fb → Calls Tryz.prog 158 #[.slice (some ⟨g, 0, none⟩) 80 cap, .int .i64 2] W (RB W (.int .i64 lo))) := Yh (fun W hW => hat 2 Yd W hW)
 have A3 : Hid (∀ (W : World), BySl W g 0 fb → Calls Tryz.prog 158 #[.slice (some ⟨g, 0, none⟩) 80 cap, .int .i64 3] W (RB W (.int .i64 hi))) := Yh (fun W hW => hat 3 Yd W hW)
 have A4 : Hid (∀ (W : World), BySl W g 0 fb → Calls Tryz.prog 158 #[.slice (some ⟨g, 0, none⟩) 80 cap, .int .i64 4] W (RB W (.int .i64 pp))) := Yh (fun W hW => hat 4 Yd W hW)
 have A5 : Hid (∀ (W : World), BySl W g 0 fb → Calls Tryz.prog 158 #[.slice (some ⟨g, 0, none⟩) 80 cap, .int .i64 5] W (RB W (.int .i64 le))) := Yh (fun W hW => hat 5 Yd W hW)
 have A6 : Hid (∀ (W : World), BySl W g 0 fb → Calls Tryz.prog 158 #[.slice (some ⟨g, 0, none⟩) 80 cap, .int .i64 6] W (RB W (.int .i64 re))) := Yh (fun W hW => hat 6 Yd W hW)
 clear hat
 have HF := Yh h; have HSH := Yh hsh; have HFH := Yh hfh; have HHL := Yh hhl; have HMG := Yh hmg; have HFL := Yh hfl; have HFI := Yh hfi; clear h hsh hfh hhl hmg hfl hfi
 have hcI : (80 : Int) ≤ (cap : Int) := by omega
 have hc64 : 64 ≤ cap := by omega
 have hc64I : (64 : Int) ≤ (cap : Int) := by omega
 have hne : ¬ cap = 64 := by omega
 have hc8 : 8 ≤ cap := by omega
 dsimp only
 go_enter Tryz.func125, Tryz.ntmps125
 go_upto_region 5 with fail
 obtain ⟨wA, hwA⟩ : ∃ x : World, x = w.alloc (.cells #[.int .i64 0, .int .i64 0, .int .i64 0, .int .i64 0, .int .i64 0, .int .i64 0, .int .i64 0] 161) := ⟨_, rfl⟩
 have bZ : Blk wA w.heap.size 161 #[.int .i64 0, .int .i64 0, .int .i64 0, .int .i64 0, .int .i64 0, .int .i64 0, .int .i64 0] := by rw [hwA]; exact Blk.new _ _ _
 have SA : Below w.heap.size w wA := by rw [hwA]; exact below_new _ _
 have ZA : w.heap.size + 1 ≤ wA.heap.size := by rw [hwA]; simp
 rw [← hwA]
 clear hwA
 have HFA := Yh (HF.out.below SA)
 have ek := bytes_str wA g 0 cap 8 (fb.take 8) (by rw [List.length_take, HFL.out]; rfl) (fun x hx => HFI.out x (List.mem_of_mem_take hx)) (HFA.out.head 8 (by rw [HFL.out]; decide))
 rw [HMG.out, magic_str] at ek
 go_upto_region 7 with fail
 clear ek
 refine' wp_region_calm Yr (fun _ _ w' => Below wA.heap.size wA w' ∧ Blk w' w.heap.size 161 #[.int .i64 0, .int .i64 0, .int .i64 0, .int .i64 0, .int .i64 0, .int .i64 0, .int .i64 0]) (fun a b => Below a.heap.size a b) [Is _, Is _, (fun _ v w => ∃ g c, v = .slice (some ⟨g, 0, none⟩) 16 c ∧ BySl w g 0 (sf.take 16)), Is _, Is _, (Is (.bool true)), Is _, Is _] [[], [0], [1], [], [3], [2, 4], [5], [6]] [] [] rfl Yr Yp ?_ (Y1 (Y1 (kcc keep_bysr (Y1 (Y1 (Y1 (Y1 (Y1 Yn)))))))) ?_ ?_
 ·intro _
  exact ⟨Yl.drew, bZ.drew⟩
 rotate_left 6
 ·skip
  iterate 2 refine zq0 ?_
  refine Yz (fun u wq n hn hn2 hC hk K hK => ?_) ?_
  ·obtain ⟨hP, hZ⟩ := hC
   simp only [calmKnown, lg0, lg1, and_true, Is] at hk
   have h1 := hk; clear hk
   simp only [h1] at hK ⊢
   have H1 := Yh h1; clear h1
   go_wp2_with fail
   refine (HSH.out cap hc64 _ ((HFA.out.below hP).head 64 (by rw [HFL.out]; decide))).mono ?_
   rintro e w9 ⟨gS, cS, rfl, hcS, hgS, hlS, hat, hbl⟩
   exact hK _ _ _ rfl ⟨Yc hbl hP, Yk hbl hZ⟩ hbl ⟨gS, cS, rfl, hat.sl.head 16 (by rw [HHL.out]; decide)⟩
  iterate 2 refine zq0 ?_
  refine Yz (fun u wq n hn hn2 hC hk K hK => ?_) ?_
  ·obtain ⟨hP, hZ⟩ := hC
   simp only [calmKnown, lg0, lg1, and_true, Is] at hk
   obtain ⟨⟨gS, cS, h2, sS⟩, h4⟩ := hk
   simp only [h2, h4] at hK ⊢
   have H2 := Yh h2; clear h2; have H4 := Yh h4; clear h4
   go_wp2_with fail
   rw [HFH.out] at sS
   refine (rsame_any gS 0 cS g (0 + 64) (cap - 64) 16 (fb.drop 64) (by rw [List.length_drop, HFL.out]) (fun x hx => HFI.out x (List.mem_of_mem_drop hx)) _ sS ((HFA.out.below hP).tail 64 (by rw [HFL.out]; decide))).mono ?_
   rintro e w9 ⟨rfl, hbl⟩
   exact hK _ _ _ rfl ⟨Yc hbl hP, Yk hbl hZ⟩ hbl rfl
  iterate 2 refine zq0 ?_
  exact Yw
 ·intro u w5 hC hF
  obtain ⟨hP, bZ5⟩ := hC
  simp only [calmFacts, Is, and_true, true_and] at hF
  obtain ⟨f_0, f_1, -, f_3, f_4, f_5, f_6, f_7⟩ := hF
  simp only [f_0, f_1, f_3, f_4, f_5, f_6, f_7]
  clear f_0 f_1 f_3 f_4 f_5 f_6 f_7 bZ
  have K5 := Yc hP SA; have Z5 := K5.size
  clear hP SA HFA HSH HFH HHL HMG HFL HFI
  have bZ := bZ5; clear bZ5
  obtain ⟨cZ, fZ, lZ, eZ, kZ⟩ := Yf bZ
  go_wp2_with fail
  refine (A0.out _ (HF.out.below K5)).mono ?_
  rintro e w6 ⟨rfl, hb6⟩
  have K6 : Below w.heap.size w w6 := Yc hb6 bl1
  have Z6 := K6.size
  have bZ' := Yk (g := w.heap.size) hb6 bn1
  (try simp only [lst, ls0, ls1] at bZ')
  clear hb6 K5
  clear bZ cZ fZ lZ eZ kZ; have bZ := bZ'; clear bZ'
  obtain ⟨cZ, fZ, lZ, eZ, kZ⟩ := Yf bZ
  go_wp2_with fail
  refine (A1.out _ (HF.out.below K6)).mono ?_
  rintro e w7 ⟨rfl, hb7⟩
  have K7 : Below w.heap.size w w7 := Yc hb7 bl1
  have Z7 := K7.size
  have bZ' := Yk (g := w.heap.size) hb7 bn1
  (try simp only [lst, ls0, ls1] at bZ')
  clear hb7 K6
  clear bZ cZ fZ lZ eZ kZ; have bZ := bZ'; clear bZ'
  obtain ⟨cZ, fZ, lZ, eZ, kZ⟩ := Yf bZ
  go_wp2_with fail
  refine (A2.out _ (HF.out.below K7)).mono ?_
  rintro e w8 ⟨rfl, hb8⟩
  have K8 : Below w.heap.size w w8 := Yc hb8 bl1
  have Z8 := K8.size
  have bZ' := Yk (g := w.heap.size) hb8 bn1
  (try simp only [lst, ls0, ls1] at bZ')
  clear hb8 K7
  clear bZ cZ fZ lZ eZ kZ; have bZ := bZ'; clear bZ'
  obtain ⟨cZ, fZ, lZ, eZ, kZ⟩ := Yf bZ
  go_wp2_with fail
  refine (A3.out _ (HF.out.below K8)).mono ?_
  rintro e w9 ⟨rfl, hb9⟩
  have K9 : Below w.heap.size w w9 := Yc hb9 bl1
  have Z9 := K9.size
  have bZ' := Yk (g := w.heap.size) hb9 bn1
  (try simp only [lst, ls0, ls1] at bZ')
  clear hb9 K8
  clear bZ cZ fZ lZ eZ kZ; have bZ := bZ'; clear bZ'
  obtain ⟨cZ, fZ, lZ, eZ, kZ⟩ := Yf bZ
  go_wp2_with fail
  refine (A4.out _ (HF.out.below K9)).mono ?_
  rintro e w10 ⟨rfl, hb10⟩
  have K10 : Below w.heap.size w w10 := Yc hb10 bl1
  have Z10 := K10.size
  have bZ' := Yk (g := w.heap.size) hb10 bn1
  (try simp only [lst, ls0, ls1] at bZ')
  clear hb10 K9
  clear bZ cZ fZ lZ eZ kZ; have bZ := bZ'; clear bZ'
  obtain ⟨cZ, fZ, lZ, eZ, kZ⟩ := Yf bZ
  go_wp2_with fail
  refine (A5.out _ (HF.out.below K10)).mono ?_
  rintro e w11 ⟨rfl, hb11⟩
  have K11 : Below w.heap.size w w11 := Yc hb11 bl1
  have Z11 := K11.size
  have bZ' := Yk (g := w.heap.size) hb11 bn1
  (try simp only [lst, ls0, ls1] at bZ')
  clear hb11 K10
  clear bZ cZ fZ lZ eZ kZ; have bZ := bZ'; clear bZ'
  obtain ⟨cZ, fZ, lZ, eZ, kZ⟩ := Yf bZ
  go_wp2_with fail
  refine (A6.out _ (HF.out.below K11)).mono ?_
  rintro e w12 ⟨rfl, hb12⟩
  have K12 : Below w.heap.size w w12 := Yc hb12 bl1
  have Z12 := K12.size
  have bZ' := Yk (g := w.heap.size) hb12 bn1
  (try simp only [lst, ls0, ls1] at bZ')
  clear hb12 K11
  clear bZ cZ fZ lZ eZ kZ; have bZ := bZ'; clear bZ'
  obtain ⟨cZ, fZ, lZ, eZ, kZ⟩ := Yf bZ
  go_wp2_with fail
  refine (R.out _).mono ?_
  rintro e w13 ⟨rfl, hb13⟩
  have K13 : Below w.heap.size w w13 := Yc hb13 bl1
  have Z13 := K13.size
  have bZ' := Yk (g := w.heap.size) hb13 bn1
  (try simp only [lst, ls0, ls1] at bZ')
  have b13_0 := Yk (g := w12.heap.size) hb13 bn0
  (try simp only [lst, ls0, ls1] at b13_0)
  clear hb13 K12
  clear bZ cZ fZ lZ eZ kZ; have bZ := bZ'; clear bZ'
  obtain ⟨cZ, fZ, lZ, eZ, kZ⟩ := Yf bZ
  obtain ⟨c13_0, f13_0, l13_0, e13_0, k13_0⟩ := Yf b13_0
  have o13_0 := l13_0
  go_wp2
  exact Yb (v := .tuple #[.agg #[.int .i64 n0, .int .i64 a, .int .i64 lo, .int .i64 hi, .int .i64 pp, .int .i64 le, .int .i64 re], .int .i64 0]) (by simp [results, Tryz.results125, go_sem, *]) rfl ⟨rfl, bl1⟩
theorem rpwake_any (n0 n1 n2 : Int) (k : K6) (hk : kE k.at_ k.lo k.hi k.pp k.le k.re = 0) (hn : 0 ≤ n0) (w : World) :
  Calls Tryz.prog 126 #[.agg #[.int .i64 n0, .int .i64 k.at_, .int .i64 k.lo, .int .i64 k.hi, .int .i64 k.pp, .int .i64 k.le, .int .i64 k.re], .agg #[.int .i64 n1, .int .i64 n2], .int .i64 0] w (RB w (wkV k.pp (wakeT k n0 n1 n2))) := by
 unfold wakeT
 rw [if_pos hk, if_pos hn]
 obtain ⟨h1, h2, h3, h4, -, -⟩ := kE_ints hk
 obtain ⟨a, lo, hi, pp, le, re⟩ := k
 dsimp only at hk h1 h2 h3 h4 ⊢
 have r := rkcheck_any a lo hi pp le re
 rw [hk] at r
 have R := Yh r; clear r hk
 have RV := Yh (fun W => rsvalidP n1 n2 W)
 by_cases hv : vS n1 n2 = true
 ·rw [if_pos hv]
  rw [hv] at RV
  by_cases h0 : 0 ≤ n1
  ·rw [if_pos h0]
   have g1 : decide (n1 < 0) = false := Y3
   have ra := fun W => radd_all lo hi n1 n2 W
   rw [h1, hv] at ra
   by_cases hs : vS (lo + n1) (hi + n2) = true
   ·rw [if_pos hs]
    have e1 : opV (true && true) true (lo + n1) (hi + n2) = .tuple #[.agg #[.int .i64 (lo + n1), .int .i64 (hi + n2)], .int .i64 0] := by
     unfold opV mkS; simp [hs]
    rw [e1] at ra
    have RA := Yh ra; clear ra e1
    unfold wkV
    rw [if_pos rfl]
    obtain ⟨x, hx⟩ : ∃ x, lo + n1 = x := ⟨_, rfl⟩
    obtain ⟨y, hy⟩ : ∃ y, hi + n2 = y := ⟨_, rfl⟩
    simp only [hx, hy] at RA ⊢
    clear hx hy hs
    go_enter Tryz.func126, Tryz.ntmps126
    go_wp2_with fail
    refine (R.out _).mono ?_
    rintro e w1 ⟨rfl, hb1⟩
    have K1 : Below w.heap.size w w1 := Yc hb1 bl0
    have Z1 := K1.size
    have b1_0 := Yk (g := w.heap.size) hb1 bn0
    (try simp only [lst, ls0, ls1] at b1_0)
    have b1_1 := Yk (g := w.heap.size + 1) hb1 bn0
    (try simp only [lst, ls0, ls1] at b1_1)
    have b1_2 := Yk (g := w.heap.size + 2) hb1 bn0
    (try simp only [lst, ls0, ls1] at b1_2)
    clear hb1
    obtain ⟨c1_0, f1_0, l1_0, e1_0, k1_0⟩ := Yf b1_0
    obtain ⟨c1_1, f1_1, l1_1, e1_1, k1_1⟩ := Yf b1_1
    obtain ⟨c1_2, f1_2, l1_2, e1_2, k1_2⟩ := Yf b1_2
    have o1_0 := l1_0
    have o1_1 := l1_1
    have o1_2 := l1_2
    go_wp2_with fail
    refine (RV.out _).mono ?_
    rintro e w2 ⟨rfl, hb2⟩
    have K2 : Below w.heap.size w w2 := Yc hb2 bl1
    have Z2 := K2.size
    have b1_0' := Yk (g := w.heap.size) hb2 bn1
    (try simp only [lst, ls0, ls1] at b1_0')
    have b1_1' := Yk (g := w.heap.size + 1) hb2 bn1
    (try simp only [lst, ls0, ls1] at b1_1')
    have b1_2' := Yk (g := w.heap.size + 2) hb2 bn1
    (try simp only [lst, ls0, ls1] at b1_2')
    clear hb2 K1
    clear b1_0 c1_0 f1_0 l1_0 e1_0 k1_0; have b1_0 := b1_0'; clear b1_0'
    clear b1_1 c1_1 f1_1 l1_1 e1_1 k1_1; have b1_1 := b1_1'; clear b1_1'
    clear b1_2 c1_2 f1_2 l1_2 e1_2 k1_2; have b1_2 := b1_2'; clear b1_2'
    obtain ⟨c1_0, f1_0, l1_0, e1_0, k1_0⟩ := Yf b1_0
    obtain ⟨c1_1, f1_1, l1_1, e1_1, k1_1⟩ := Yf b1_1
    obtain ⟨c1_2, f1_2, l1_2, e1_2, k1_2⟩ := Yf b1_2
    go_wp2_with fail
    refine (rvalid_any 0 _).mono ?_
    rintro e wq1 ⟨rfl, rfl⟩
    go_wp2_with fail
    refine (RA.out _).mono ?_
    rintro e w3 ⟨rfl, hb3⟩
    have K3 : Below w.heap.size w w3 := Yc hb3 bl1
    have Z3 := K3.size
    have b1_0' := Yk (g := w.heap.size) hb3 bn1
    (try simp only [lst, ls0, ls1] at b1_0')
    have b1_1' := Yk (g := w.heap.size + 1) hb3 bn1
    (try simp only [lst, ls0, ls1] at b1_1')
    have b1_2' := Yk (g := w.heap.size + 2) hb3 bn1
    (try simp only [lst, ls0, ls1] at b1_2')
    clear hb3 K2
    clear b1_0 c1_0 f1_0 l1_0 e1_0 k1_0; have b1_0 := b1_0'; clear b1_0'
    clear b1_1 c1_1 f1_1 l1_1 e1_1 k1_1; have b1_1 := b1_1'; clear b1_1'
    clear b1_2 c1_2 f1_2 l1_2 e1_2 k1_2; have b1_2 := b1_2'; clear b1_2'
    obtain ⟨c1_0, f1_0, l1_0, e1_0, k1_0⟩ := Yf b1_0
    obtain ⟨c1_1, f1_1, l1_1, e1_1, k1_1⟩ := Yf b1_1
    obtain ⟨c1_2, f1_2, l1_2, e1_2, k1_2⟩ := Yf b1_2
    go_wp2
    exact Yb (v := .tuple #[.agg #[.int .i64 0, .int .i64 x, .int .i64 y, .int .i64 pp, .int .i64 0, .int .i64 0], .int .i64 0]) (by simp [results, Tryz.results126, go_sem, *]) rfl ⟨rfl, bl1⟩
   ·rw [if_neg hs]
    have e1 : opV (true && true) true (lo + n1) (hi + n2) = .tuple #[.agg #[.int .i64 0, .int .i64 0], .int .i64 4] := by
     unfold opV mkS; simp [hs]
    rw [e1] at ra
    have RA := Yh ra; clear ra e1
    unfold wkV
    rw [if_neg Yd]
    go_enter Tryz.func126, Tryz.ntmps126
    go_wp2_with fail
    refine (R.out _).mono ?_
    rintro e w1 ⟨rfl, hb1⟩
    have K1 : Below w.heap.size w w1 := Yc hb1 bl0
    have Z1 := K1.size
    have b1_0 := Yk (g := w.heap.size) hb1 bn0
    (try simp only [lst, ls0, ls1] at b1_0)
    have b1_1 := Yk (g := w.heap.size + 1) hb1 bn0
    (try simp only [lst, ls0, ls1] at b1_1)
    have b1_2 := Yk (g := w.heap.size + 2) hb1 bn0
    (try simp only [lst, ls0, ls1] at b1_2)
    clear hb1
    obtain ⟨c1_0, f1_0, l1_0, e1_0, k1_0⟩ := Yf b1_0
    obtain ⟨c1_1, f1_1, l1_1, e1_1, k1_1⟩ := Yf b1_1
    obtain ⟨c1_2, f1_2, l1_2, e1_2, k1_2⟩ := Yf b1_2
    have o1_0 := l1_0
    have o1_1 := l1_1
    have o1_2 := l1_2
    go_wp2_with fail
    refine (RV.out _).mono ?_
    rintro e w2 ⟨rfl, hb2⟩
    have K2 : Below w.heap.size w w2 := Yc hb2 bl1
    have Z2 := K2.size
    have b1_0' := Yk (g := w.heap.size) hb2 bn1
    (try simp only [lst, ls0, ls1] at b1_0')
    have b1_1' := Yk (g := w.heap.size + 1) hb2 bn1
    (try simp only [lst, ls0, ls1] at b1_1')
    have b1_2' := Yk (g := w.heap.size + 2) hb2 bn1
    (try simp only [lst, ls0, ls1] at b1_2')
    clear hb2 K1
    clear b1_0 c1_0 f1_0 l1_0 e1_0 k1_0; have b1_0 := b1_0'; clear b1_0'
    clear b1_1 c1_1 f1_1 l1_1 e1_1 k1_1; have b1_1 := b1_1'; clear b1_1'
    clear b1_2 c1_2 f1_2 l1_2 e1_2 k1_2; have b1_2 := b1_2'; clear b1_2'
    obtain ⟨c1_0, f1_0, l1_0, e1_0, k1_0⟩ := Yf b1_0
    obtain ⟨c1_1, f1_1, l1_1, e1_1, k1_1⟩ := Yf b1_1
    obtain ⟨c1_2, f1_2, l1_2, e1_2, k1_2⟩ := Yf b1_2
    go_wp2_with fail
    refine (rvalid_any 0 _).mono ?_
    rintro e wq1 ⟨rfl, rfl⟩
    go_wp2_with fail
    refine (RA.out _).mono ?_
    rintro e w3 ⟨rfl, hb3⟩
    have K3 : Below w.heap.size w w3 := Yc hb3 bl1
    have Z3 := K3.size
    have b1_0' := Yk (g := w.heap.size) hb3 bn1
    (try simp only [lst, ls0, ls1] at b1_0')
    have b1_1' := Yk (g := w.heap.size + 1) hb3 bn1
    (try simp only [lst, ls0, ls1] at b1_1')
    have b1_2' := Yk (g := w.heap.size + 2) hb3 bn1
    (try simp only [lst, ls0, ls1] at b1_2')
    clear hb3 K2
    clear b1_0 c1_0 f1_0 l1_0 e1_0 k1_0; have b1_0 := b1_0'; clear b1_0'
    clear b1_1 c1_1 f1_1 l1_1 e1_1 k1_1; have b1_1 := b1_1'; clear b1_1'
    clear b1_2 c1_2 f1_2 l1_2 e1_2 k1_2; have b1_2 := b1_2'; clear b1_2'
    obtain ⟨c1_0, f1_0, l1_0, e1_0, k1_0⟩ := Yf b1_0
    obtain ⟨c1_1, f1_1, l1_1, e1_1, k1_1⟩ := Yf b1_1
    obtain ⟨c1_2, f1_2, l1_2, e1_2, k1_2⟩ := Yf b1_2
    go_wp2
    exact Yb (v := .tuple #[.agg #[.int .i64 0, .int .i64 0, .int .i64 0, .int .i64 0, .int .i64 0, .int .i64 0], .int .i64 4]) (by simp [results, Tryz.results126, go_sem, *]) rfl ⟨rfl, bl1⟩
  ·rw [if_neg h0]
   have g1 : decide (n1 < 0) = true := Y2
   unfold wkV
   rw [if_neg Yd]
   go_enter Tryz.func126, Tryz.ntmps126
   go_wp2_with fail
   refine (R.out _).mono ?_
   rintro e w1 ⟨rfl, hb1⟩
   have K1 : Below w.heap.size w w1 := Yc hb1 bl0
   have Z1 := K1.size
   have b1_0 := Yk (g := w.heap.size) hb1 bn0
   (try simp only [lst, ls0, ls1] at b1_0)
   have b1_1 := Yk (g := w.heap.size + 1) hb1 bn0
   (try simp only [lst, ls0, ls1] at b1_1)
   have b1_2 := Yk (g := w.heap.size + 2) hb1 bn0
   (try simp only [lst, ls0, ls1] at b1_2)
   clear hb1
   obtain ⟨c1_0, f1_0, l1_0, e1_0, k1_0⟩ := Yf b1_0
   obtain ⟨c1_1, f1_1, l1_1, e1_1, k1_1⟩ := Yf b1_1
   obtain ⟨c1_2, f1_2, l1_2, e1_2, k1_2⟩ := Yf b1_2
   have o1_0 := l1_0
   have o1_1 := l1_1
   have o1_2 := l1_2
   go_wp2_with fail
   refine (RV.out _).mono ?_
   rintro e w2 ⟨rfl, hb2⟩
   have K2 : Below w.heap.size w w2 := Yc hb2 bl1
   have Z2 := K2.size
   have b1_0' := Yk (g := w.heap.size) hb2 bn1
   (try simp only [lst, ls0, ls1] at b1_0')
   have b1_1' := Yk (g := w.heap.size + 1) hb2 bn1
   (try simp only [lst, ls0, ls1] at b1_1')
   have b1_2' := Yk (g := w.heap.size + 2) hb2 bn1
   (try simp only [lst, ls0, ls1] at b1_2')
   clear hb2 K1
   clear b1_0 c1_0 f1_0 l1_0 e1_0 k1_0; have b1_0 := b1_0'; clear b1_0'
   clear b1_1 c1_1 f1_1 l1_1 e1_1 k1_1; have b1_1 := b1_1'; clear b1_1'
   clear b1_2 c1_2 f1_2 l1_2 e1_2 k1_2; have b1_2 := b1_2'; clear b1_2'
   obtain ⟨c1_0, f1_0, l1_0, e1_0, k1_0⟩ := Yf b1_0
   obtain ⟨c1_1, f1_1, l1_1, e1_1, k1_1⟩ := Yf b1_1
   obtain ⟨c1_2, f1_2, l1_2, e1_2, k1_2⟩ := Yf b1_2
   go_wp2
   exact Yb (v := .tuple #[.agg #[.int .i64 0, .int .i64 0, .int .i64 0, .int .i64 0, .int .i64 0, .int .i64 0], .int .i64 4]) (by simp [results, Tryz.results126, go_sem, *]) rfl ⟨rfl, bl1⟩
 ·rw [if_neg hv]
  have hv2 : vS n1 n2 = false := by simpa using hv
  rw [hv2] at RV
  unfold wkV
  rw [if_neg Yd]
  go_enter Tryz.func126, Tryz.ntmps126
  go_wp2_with fail
  refine (R.out _).mono ?_
  rintro e w1 ⟨rfl, hb1⟩
  have K1 : Below w.heap.size w w1 := Yc hb1 bl0
  have Z1 := K1.size
  have b1_0 := Yk (g := w.heap.size) hb1 bn0
  (try simp only [lst, ls0, ls1] at b1_0)
  have b1_1 := Yk (g := w.heap.size + 1) hb1 bn0
  (try simp only [lst, ls0, ls1] at b1_1)
  have b1_2 := Yk (g := w.heap.size + 2) hb1 bn0
  (try simp only [lst, ls0, ls1] at b1_2)
  clear hb1
  obtain ⟨c1_0, f1_0, l1_0, e1_0, k1_0⟩ := Yf b1_0
  obtain ⟨c1_1, f1_1, l1_1, e1_1, k1_1⟩ := Yf b1_1
  obtain ⟨c1_2, f1_2, l1_2, e1_2, k1_2⟩ := Yf b1_2
  have o1_0 := l1_0
  have o1_1 := l1_1
  have o1_2 := l1_2
  go_wp2_with fail
  refine (RV.out _).mono ?_
  rintro e w2 ⟨rfl, hb2⟩
  have K2 : Below w.heap.size w w2 := Yc hb2 bl1
  have Z2 := K2.size
  have b1_0' := Yk (g := w.heap.size) hb2 bn1
  (try simp only [lst, ls0, ls1] at b1_0')
  have b1_1' := Yk (g := w.heap.size + 1) hb2 bn1
  (try simp only [lst, ls0, ls1] at b1_1')
  have b1_2' := Yk (g := w.heap.size + 2) hb2 bn1
  (try simp only [lst, ls0, ls1] at b1_2')
  clear hb2 K1
  clear b1_0 c1_0 f1_0 l1_0 e1_0 k1_0; have b1_0 := b1_0'; clear b1_0'
  clear b1_1 c1_1 f1_1 l1_1 e1_1 k1_1; have b1_1 := b1_1'; clear b1_1'
  clear b1_2 c1_2 f1_2 l1_2 e1_2 k1_2; have b1_2 := b1_2'; clear b1_2'
  obtain ⟨c1_0, f1_0, l1_0, e1_0, k1_0⟩ := Yf b1_0
  obtain ⟨c1_1, f1_1, l1_1, e1_1, k1_1⟩ := Yf b1_1
  obtain ⟨c1_2, f1_2, l1_2, e1_2, k1_2⟩ := Yf b1_2
  go_wp2
  exact Yb (v := .tuple #[.agg #[.int .i64 0, .int .i64 0, .int .i64 0, .int .i64 0, .int .i64 0, .int .i64 0], .int .i64 3]) (by simp [results, Tryz.results126, go_sem, *]) rfl ⟨rfl, bl1⟩
end Go.Proofs.YtiinmhfolfgobaaGreatDoor
