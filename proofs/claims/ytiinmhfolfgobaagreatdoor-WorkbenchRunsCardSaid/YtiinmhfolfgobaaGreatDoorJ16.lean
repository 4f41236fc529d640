/- Lemmas. -/
import Derived.Test.YtiinmhfolfgobaaGreatDoorJ15
import Derived.Test.YtiinmhfolfgobaaGreatDoorJ11
import Derived.Test.YtiinmhfolfgobaaGreatDoorJ14
set_option linter.unusedVariables false
set_option linter.unusedSimpArgs false
namespace Go.Proofs.YtiinmhfolfgobaaGreatDoor
open Go.RowKit Go.Shelf Go.Sort
set_option maxHeartbeats 16000000
set_option maxRecDepth 100000
theorem PCan.pre {a b : List Pc} (h : PCan (a ++ b)) : PCan a := ⟨fun q hq => h.1 q (by simp [hq]), fun i hi => by
 have := h.2 i (by simp; omega)
 simp only [Y8] at this ⊢
 rw [List.getElem?_append_left Yo, List.getElem?_append_left Yo] at this
 exact this⟩
theorem PCan.take {ps : List Pc} (h : PCan ps) (k : Nat) : PCan (ps.take k) := PCan.pre (b := ps.drop k) (by rwa [List.take_append_drop])
def LeastR (w : World) (zs : List (Int × Int)) (n : Int) (e : Ending) (w' : World) : Prop := ∃ (A : Option Addr) (cap : Nat) (ps : List Pc), e = .returned (.slice A (leastP n ps).length cap) ∧ SpansAt w' A (leastP n ps).length (leastP n ps) ∧ PCan ps ∧ (∀ t, cntP ps t = cntS zs t) ∧ ps.length ≤ 128 ∧ Below w.heap.size w w'
def MRel (w1 : World) (n : Int) (ps : List Pc) (G : Nat) (v5 i : Value) (wr : World) : Prop := ∃ k : Nat, k ≤ ps.length ∧ G = ps.length - k ∧ i = .int .i64 k ∧ RowS wr w1.heap.size v5 (leastP n (ps.take k)) ∧ Below w1.heap.size w1 wr
theorem RowS.fz {w : World} {base : Nat} {g cap : Nat} {zs : List (Int × Int)} (h : RowS w base (.slice (some ⟨g, 0, none⟩) zs.length cap) zs) : ∀ i, w.frozen? ⟨g, i, none⟩ = false := fun i => World.ownsRow.frozenAt h i
theorem cellsS_last (a : List (Int × Int)) (x y h : Int) : (cellsS (a ++ [(x, y)])).set (a.length * 2 + 1) (.int .i64 h) = cellsS (a ++ [(x, h)]) := by
 rw [cellsS_snoc, cellsS_snoc, List.set_append, cellsS_length, if_neg Yo, show a.length * 2 + 1 - a.length * 2 = 1 by omega]
 rfl
theorem sleast_any (A : Option Addr) (len cap : Nat) (zs : List (Int × Int)) (n : Int) (hn : 1 ≤ n) (hv : ∀ z ∈ zs, vS z.1 z.2 = true) (h64 : len ≤ 64) (w : World) (h : SpansAt w A len zs) :
  Calls Tryz.prog 148 #[.slice A len cap, .int .i64 n] w (LeastR w zs n) := by
 have hz := h.1
 subst hz
 have HE := Yh (fun W (hW : Below w.heap.size w W) => pieces_any A zs.length cap zs hv h64 W (h.below hW))
 have HV := Yh hv; have HN := Yh hn; clear h hv hn
 go_enter Tryz.func148, Tryz.ntmps148
 go_wp2_with fail
 refine (HE.out _ bl0).mono ?_
 rintro e w1 ⟨A1, c1, ps, rfl, hpp, hcan, hcnt, hl128, hb1⟩
 have K1 : Below w.heap.size w w1 := Yc hb1 bl0
 have Z1 := K1.size
 clear hb1
 have hpi := pc_in hcan hcnt
 have hlaw := fun k => least_law n HN.out (ps.take k) (hcan.take k) (fun p hp => hpi p (List.mem_of_mem_take hp))
 have HPI := Yh hpi; have HPP := Yh hpp; have HCAN := Yh hcan; have HCNT := Yh hcnt; have HLAW := Yh hlaw
 clear hpi hpp hcan hcnt hlaw HE
 go_wp2
 go_loopg [5, 12] ps.length (fun G v5 i wr => MRel w1 n ps G v5 i wr)
 case atStart => exact ⟨0, Yo, Yo, rfl, RowS.nil, bl0⟩
 case round =>
  obtain ⟨k, hk, rfl, rfl, hrow, KR⟩ := hrel
  have ZR := KR.size
  have HROW := Yh hrow; clear hrow
  by_cases hlt : k < ps.length
  ·have gk : decide ((k : Int) < (ps.length : Int)) = true := Y2
   have wk : IntKind.i64.wrap ((k : Int) + 1) = ((k + 1 : Nat) : Int) := Y4
   obtain ⟨bl, off, rfl, hb, hcs⟩ := HPP.out.2.2 Yo
   obtain ⟨e0, e1, e2⟩ := hcs k hlt
   clear hcs
   have e0 := (KR.cell (p := ⟨bl, off + k * 3, none⟩) hb).trans e0
   have e1 := (KR.cell (p := ⟨bl, off + k * 3 + 1, none⟩) hb).trans e1
   have e2 := (KR.cell (p := ⟨bl, off + k * 3 + 2, none⟩) hb).trans e2
   have hbW : bl < wr.heap.size := by omega
   have hpk := HPI.out (ps.getD k ⟨0, 0, 0⟩) (by rw [Y8, Y9 hlt]; exact List.getElem_mem _)
   have hsn : leastP n (ps.take (k + 1)) = stepL n (leastP n (ps.take k)) (ps.getD k ⟨0, 0, 0⟩) := by rw [take_snocC ⟨0, 0, 0⟩ ps hlt, leastP_snoc]
   have hol := leastP_length n (ps.take k)
   rw [List.length_take] at hol
   have hov := (HLAW.out k).2.1
   generalize ps.getD k ⟨0, 0, 0⟩ = p at *
   obtain ⟨lo, hi, m⟩ := p
   dsimp only at e0 e1 e2 hpk
   have HSN := Yh hsn; have HOV := Yh hov; clear hsn hov
   obtain ⟨p1, p2, p3⟩ := vS_true.1 hpk
   clear hpk
   generalize leastP n (ps.take k) = out at *
   obtain ⟨A3, c3, e3⟩ := RowS.len HROW.out
   subst e3
   go_upto_region 5 with fail
   have b7 : Blk (wr.alloc (.cells #[.int .i64 lo, .int .i64 hi, .int .i64 m] 202)) wr.heap.size 202 #[.int .i64 lo, .int .i64 hi, .int .i64 m] := Blk.new _ _ _
   have R5 : RowS (wr.alloc (.cells #[.int .i64 lo, .int .i64 hi, .int .i64 m] 202)) w1.heap.size _ out := RowS.alloc HROW.out _
   have K5 : Below w1.heap.size w1 (wr.alloc (.cells #[.int .i64 lo, .int .i64 hi, .int .i64 m] 202)) := KR.alloc ZR _
   have s5 : wr.heap.size < (wr.alloc (.cells #[.int .i64 lo, .int .i64 hi, .int .i64 m] 202)).heap.size := by simp
   obtain ⟨s7, hs7⟩ : ∃ s7, wr.heap.size = s7 := ⟨_, rfl⟩
   rw [hs7] at b7 s5 hbW ⊢
   have h7w : w1.heap.size ≤ s7 := by omega
   have hns7 : ∀ kk, (Value.slice A3 out.length c3).ownBlock = some kk → kk < s7 := fun kk hkk => by have := HROW.out.lt kk hkk; omega
   clear KR ZR HROW e0 e1 e2 hs7
   generalize (wr.alloc (.cells #[.int .i64 lo, .int .i64 hi, .int .i64 m] 202)) = w5 at *
   have Z5 := K5.size
   obtain ⟨c7, f7, l7, -, -⟩ := Yf b7
   have HR5 := Yh R5; clear R5
   by_cases hm : m < n
   ·have gm : decide (m < n) = true := decide_eq_true hm
    have hst : stepL n out ⟨lo, hi, m⟩ = out := if_pos hm
    have HST := Yh hst; clear hst
    go_wp2
    go_roundg (ps.length - (k + 1))
    case measure => omega
    case rel => exact ⟨k + 1, Yo, Yo, by go_num, by rw [HSN.out, HST.out]; exact HR5.out, bl1⟩
   have gm : decide (m < n) = false := decide_eq_false hm
   have hst : stepL n out ⟨lo, hi, m⟩ = if 0 < out.length ∧ (out.getD (out.length - 1) (0, 0)).2 + 1 = lo then out.set (out.length - 1) ((out.getD (out.length - 1) (0, 0)).1, hi) else out ++ [(lo, hi)] := if_neg hm
   have HST := Yh hst; clear hst
   obtain ⟨i0, hif, hz0, hz1, hz2⟩ := info_parts infoSpan
   by_cases m0 : out.length = 0
   ·have g3 : decide (0 < (out.length : Int)) = false := Y3
    have g3n : decide (0 < out.length) = false := Y3
    have had : leastP n (ps.take (k + 1)) = out ++ [(lo, hi)] := by rw [HSN.out, HST.out, if_neg (by rintro ⟨h, -⟩; omega)]
    have HM0 := Yh m0; clear m0
    have HAD := Yh had; clear had
    go_wp2_with fail
    go_quiet (fail)
    go_wp2_with (at_builtin; refine wpList_append_lies _ rfl _ _ 91 rfl w1.heap.size 40 i0 (.agg #[.int .i64 0, .int .i64 0]) 2 16 Tryz.underlying91 hif hz0 hz1 hz2 rfl Yd _ (out).length (cellsS (out)) rfl (RowS.alloc (RowS.drewN HR5.out nq) _) ⟨w5.heap.size, 0, none⟩ 1 1 [.int .i64 lo, .int .i64 hi] rfl rfl (World.news_of_block (t := 40) (fr := (0, 0)) (Blk.new _ _ _)) ?c2 Yd ?c3 ?c4 ?c5 _ rfl ?_)
    case c2 => first | exact ⟨rfl, rfl⟩ | exact ⟨rfl, rfl, trivial⟩ | (intro u hu; simp at hu; rcases hu with rfl | rfl <;> rfl)
    case c3 => unfold maxLen; omega
    case c4 => first | omega | (simp; omega)
    case c5 => first | omega | (simp; omega)
    intro g9 cp9 w9 hown hgrow hlie hglt
    have K9 : Below w1.heap.size w1 w9 := ((below_drewN K5 nq).alloc (by show w1.heap.size ≤ w5.heap.size; omega) _).grown hgrow (by simp; omega) (fun k hk => (RowS.lt HR5.out k hk).1)
    have hrow9 : RowS w9 w1.heap.size (.slice (some ⟨g9, 0, none⟩) (out.length + 1) cp9) ((out) ++ [(lo, hi)]) := by
     unfold RowS
     rw [show ((out) ++ [((lo, hi) : Int × Int)]).length = out.length + 1 from by simp, cellsS_snoc (out)]; exact hown
    clear hown hgrow hlie hglt
    have R9 := Yh hrow9; clear hrow9
    go_wp2
    go_roundg (ps.length - (k + 1))
    case measure => omega
    case rel => exact ⟨k + 1, Yo, Yo, by go_num, by rw [HAD.out]; exact R9.out, K9⟩
   ·obtain ⟨g, cp, eg, hg1, hg2, hgc⟩ := RowS.form HR5.out Yo
    obtain ⟨a, x9, rfl⟩ := snoc_of (l := out) Yo
    have hln : (a ++ [x9]).length = a.length + 1 := by simp
    cases eg
    have hgf := RowS.fz HR5.out
    obtain ⟨d1, d2⟩ := hgc a.length Yo
    have hgl : (a ++ [x9]).getD a.length (0, 0) = x9 := by simp [Y8]
    have hgl2 : (a ++ [x9]).getD ((a ++ [x9]).length - 1) (0, 0) = x9 := by rw [hln]; exact hgl
    have hset : ∀ u : Int × Int, (a ++ [x9]).set ((a ++ [x9]).length - 1) u = a ++ [u] := fun u => by
     rw [hln, Nat.add_sub_cancel, List.set_append, if_neg Yo, Nat.sub_self]; rfl
    rw [hgl] at d1 d2
    clear hgc
    have hst2 : stepL n (a ++ [x9]) ⟨lo, hi, m⟩ = if 0 < (a ++ [x9]).length ∧ x9.2 + 1 = lo then a ++ [(x9.1, hi)] else (a ++ [x9]) ++ [(lo, hi)] := by rw [HST.out, hgl2, hset]
    have HST2 := Yh hst2; have HLN := Yh hln; clear hst2 hgl hgl2 hset HST
    have hbx := vS_true.1 (HOV.out x9 Ys).1
    have hHR : RowS w5 w1.heap.size (.slice (some ⟨g, 0, none⟩) (a.length + 1) c3) (a ++ [x9]) := by have := HR5.out; rwa [HLN.out] at this
    rw [hln] at hol ⊢
    clear HR5 hln m0
    have HR5 := Yh hHR; clear hHR
    obtain ⟨xl, xh⟩ := x9
    dsimp only at hbx d1 d2 HST2
    obtain ⟨q, hq⟩ : ∃ q, q = a.length := ⟨_, rfl⟩
    rw [← hq] at d1 d2 hol ⊢
    rw [← hq] at HR5
    have HM := Yh hq; clear hq
    have wm : IntKind.i64.wrap (((q : Int) + 1) - 1) = (q : Int) := by rw [show (q : Int) + 1 - 1 = (q : Int) by omega]; exact IntWalk.i64_in _ Yo
    have wm2 : IntKind.i64.wrap ((((q + 1 : Nat) : Int)) - 1) = (q : Int) := by rw [show (((q + 1 : Nat) : Int)) - 1 = (q : Int) by omega]; exact IntWalk.i64_in _ Yo
    have g3 : decide (0 < (((q + 1 : Nat)) : Int)) = true := Y2
    have g3b : decide (0 < ((q : Int) + 1)) = true := Y2
    have n7g : g ≠ s7 := by have := hns7 g (by simp [Value.ownBlock]); omega
    have hR9 : RowS w5 w1.heap.size (.slice (some ⟨g, 0, none⟩) (a ++ [(xl, xh)]).length c3) (a ++ [(xl, xh)]) := by have := HR5.out; rw [HLN.out, ← HM.out]; exact this
    have HR9 := Yh hR9; clear hR9
    have wx : IntKind.i64.wrap (xh + 1) = xh + 1 := IntWalk.i64_in _ Yo
    by_cases q2 : xh + 1 = lo
    ·have HQ2 := Yh q2
     have g5 : decide (xh + 1 = lo) = true := decide_eq_true q2
     have g5b : ((xh + 1) == lo) = true := by simpa using q2
     clear q2
     have had : leastP n (ps.take (k + 1)) = a ++ [(xl, hi)] := by rw [HSN.out, HST2.out, if_pos ⟨by simp, HQ2.out⟩]
     have HAD := Yh had; clear had
     have hfz := hgf (q * 2 + 1)
     go_wp2_with fail
     go_quiet (fail)
     have hs9 := World.ownsRow.stored (RowS.drewN HR9.out nq) (q * 2 + 1) (.int .i64 hi)
     have HS9 := Yh hs9; clear hs9
     go_wp2
     go_roundg (ps.length - (k + 1))
     case measure => omega
     case rel =>
      refine ⟨k + 1, Yo, Yo, by go_num, ?_, bl1⟩
      rw [HAD.out]
      have h1 := HS9.out.1
      unfold RowS
      have e1 : (a ++ [(xl, hi)]).length = (a ++ [(xl, xh)]).length := by simp
      rw [e1, ← cellsS_last a xl xh hi, ← HM.out]
      have e2 := HLN.out
      rw [e2, ← HM.out] at h1
      rw [e2, ← HM.out]
      exact h1
    ·have g5 : decide (xh + 1 = lo) = false := decide_eq_false q2
     have g5b : ((xh + 1) == lo) = false := by simpa using q2
     have had : leastP n (ps.take (k + 1)) = (a ++ [(xl, xh)]) ++ [(lo, hi)] := by rw [HSN.out, HST2.out, if_neg (fun h => q2 h.2)]
     have HAD := Yh had; clear had
     go_wp2_with fail
     go_quiet (fail)
     go_wp2_with (at_builtin; refine wpList_append_lies _ rfl _ _ 91 rfl w1.heap.size 40 i0 (.agg #[.int .i64 0, .int .i64 0]) 2 16 Tryz.underlying91 hif hz0 hz1 hz2 rfl Yd _ (a ++ [(xl, xh)]).length (cellsS (a ++ [(xl, xh)])) (by rw [HLN.out, HM.out]; rfl) (RowS.alloc (RowS.drewN HR9.out nq) _) ⟨w5.heap.size, 0, none⟩ 1 1 [.int .i64 lo, .int .i64 hi] rfl rfl (World.news_of_block (t := 40) (fr := (0, 0)) (Blk.new _ _ _)) ?c2 Yd ?c3 ?c4 ?c5 _ rfl ?_)
     case c2 => first | exact ⟨rfl, rfl⟩ | exact ⟨rfl, rfl, trivial⟩ | (intro u hu; simp at hu; rcases hu with rfl | rfl <;> rfl)
     case c3 => rw [HLN.out, ← HM.out]; unfold maxLen; omega
     case c4 => rw [HLN.out, ← HM.out]; first | omega | (simp; omega)
     case c5 => first | omega | (simp; omega)
     intro g9 cp9 w9 hown hgrow hlie hglt
     have K9 : Below w1.heap.size w1 w9 := ((below_drewN K5 nq).alloc (by show w1.heap.size ≤ w5.heap.size; omega) _).grown hgrow (by simp; omega) (fun k hk => (RowS.lt HR9.out k hk).1)
     have hrow9 : RowS w9 w1.heap.size (.slice (some ⟨g9, 0, none⟩) (a.length + 1 + 1) cp9) ((a ++ [(xl, xh)]) ++ [(lo, hi)]) := by
      unfold RowS
      rw [show ((a ++ [(xl, xh)]) ++ [((lo, hi) : Int × Int)]).length = a.length + 1 + 1 from by simp, cellsS_snoc (a ++ [(xl, xh)])]; exact hown
     clear hown hgrow hlie hglt
     have R9 := Yh hrow9; clear hrow9
     go_wp2
     go_roundg (ps.length - (k + 1))
     case measure => omega
     case rel => exact ⟨k + 1, Yo, Yo, by go_num, by rw [HAD.out]; exact R9.out, K9⟩
  ·obtain rfl : ps.length = k := by omega
   have gk : decide ((ps.length : Int) < (ps.length : Int)) = false := Y3
   have ht : ps.take ps.length = ps := List.take_of_length_le (Nat.le_refl _)
   have hol := leastP_length n ps
   rw [ht] at HROW
   obtain ⟨A9, c9, rfl⟩ := RowS.len HROW.out
   have hpc := spans_of_row HROW.out Yo
   have HPC := Yh hpc; clear hpc ht
   go_wp2
   go_ret
   exact ⟨A9, c9, ps, rfl, HPC.out, HCAN.out, HCNT.out, Yo, (Yc (by repeat' (first | (with_reducible exact KR) | (with_reducible refine Below.setCell ?_ ?_ _) | (with_reducible refine Below.alloc ?_ ?_ _))) K1)⟩
theorem ckE_ok {zs : List (Int × Int)} (h : ckE zs = 0) : zs.length ≤ 64 ∧ ∀ z ∈ zs, vS z.1 z.2 = true := by
 by_cases h1 : 64 < zs.length
 ·rw [ckE_8 h1] at h; omega
 ·cases h2 : badS zs with
  | true => rw [ckE_3 h1 h2] at h; omega
  | false => exact ⟨Yo, valid_of h2⟩
theorem ckE_in (zs : List (Int × Int)) : 0 ≤ ckE zs ∧ ckE zs ≤ 8 := by
 unfold ckE; split
 ·omega
 ·split <;> omega
def PX (zs : List (Int × Int)) (ps : List Pc) : Prop := (ckE zs ≠ 0 ∧ ps = []) ∨ (ckE zs = 0 ∧ PCan ps ∧ (∀ t, cntP ps t = cntS zs t) ∧ ps.length ≤ 128)
theorem PX_uniq {zs : List (Int × Int)} {ps qs : List Pc} (h : PX zs ps) (k : PX zs qs) : ps = qs := by
 rcases h with ⟨h, rfl⟩ | ⟨h, h1, h2, -⟩ <;> rcases k with ⟨k, rfl⟩ | ⟨k, k1, k2, -⟩
 ·rfl
 ·exact absurd k h
 ·exact absurd h k
 ·exact pcan_uniq _ _ h1 k1 (fun t => by rw [h2, k2])
def lE (zs : List (Int × Int)) (n : Int) : Int := if ckE zs ≠ 0 then ckE zs else if n < 1 then 4 else 0
theorem lE_bad {zs : List (Int × Int)} {n : Int} (h : ckE zs ≠ 0) : lE zs n = ckE zs := if_pos h
theorem lE_low {zs : List (Int × Int)} {n : Int} (h : ckE zs = 0) (k : n < 1) : lE zs n = 4 := by unfold lE; rw [if_neg (by simp [h]), if_pos k]
theorem lE_ok {zs : List (Int × Int)} {n : Int} (h : ckE zs = 0) (k : ¬ n < 1) : lE zs n = 0 := by unfold lE; rw [if_neg (by simp [h]), if_neg k]
def LX (zs : List (Int × Int)) (n : Int) (us : List (Int × Int)) : Prop := (lE zs n ≠ 0 ∧ us = []) ∨ (lE zs n = 0 ∧ ckE zs = 0 ∧ 1 ≤ n ∧ ∃ ps, PX zs ps ∧ us = leastP n ps)
theorem LX_uniq {zs : List (Int × Int)} {n : Int} {us vs : List (Int × Int)} (h : LX zs n us) (k : LX zs n vs) : us = vs := by
 rcases h with ⟨h, rfl⟩ | ⟨h, -, -, ps, h1, rfl⟩ <;> rcases k with ⟨k, rfl⟩ | ⟨k, -, -, qs, k1, rfl⟩
 ·rfl
 ·exact absurd k h
 ·exact absurd h k
 ·rw [PX_uniq h1 k1]
theorem pc_num {zs : List (Int × Int)} {ps : List Pc} (h : PCan ps) (hc : ∀ t, cntP ps t = cntS zs t) (hz : zs.length ≤ 64) : ∀ p ∈ ps, 1 ≤ p.n ∧ p.n ≤ 64 := fun p hp => by
 have h1 := h.1 p hp
 have h2 := cntP_at h p hp p.lo (Int.le_refl _) h1.1
 have h3 := cntS_nonneg zs p.lo
 rw [hc] at h2
 omega
def PfR (w : World) (zs : List (Int × Int)) (e : Ending) (w' : World) : Prop := ∃ (A : Option Addr) (cap : Nat) (ps : List Pc), e = .returned (.tuple #[.slice A ps.length cap, .int .i64 (ckE zs)]) ∧ PcsAt w' A ps.length ps ∧ PX zs ps ∧ Below w.heap.size w w'
def LsR (w : World) (zs : List (Int × Int)) (n : Int) (e : Ending) (w' : World) : Prop := ∃ (A : Option Addr) (cap : Nat) (us : List (Int × Int)), e = .returned (.tuple #[.slice A us.length cap, .int .i64 (lE zs n)]) ∧ SpansAt w' A us.length us ∧ LX zs n us ∧ Below w.heap.size w w'
def ctV (zs : List (Int × Int)) (t : Int) : Int := if ckE zs = 0 then cntS zs t else 0
theorem pcs_nil {w : World} : PcsAt w none 0 [] := ⟨rfl, Yo, fun h => by omega⟩
theorem sp_nil {w : World} : SpansAt w none 0 [] := ⟨rfl, Yo, fun h => by omega⟩
theorem hdB_inS (z : Int × Int) (t : Int) : hdB z.1 z.2 t = inS t z := by unfold hdB inS; simp
theorem sLeast_any (A : Option Addr) (len cap : Nat) (zs : List (Int × Int)) (n : Int) (w : World) (h : SpansAt w A len zs) :
  Calls Tryz.prog 114 #[.slice A len cap, .int .i64 n] w (LsR w zs n) := by
 have hz := h.1
 have hlm := h.2.1
 subst hz
 have HC := Yh (fun W (hW : Below w.heap.size w W) => swcheck_any A zs.length cap zs W (h.below hW))
 by_cases hc0 : ckE zs = 0
 ·obtain ⟨h64, hv⟩ := ckE_ok hc0
  simp only [hc0] at HC
  have HC0 := Yh hc0; clear hc0
  by_cases hn : n < 1
  ·have gn : decide (n < 1) = true := decide_eq_true hn
   clear h hv
   go_enter Tryz.func114, Tryz.ntmps114
   go_wp2_with fail
   refine (HC.out _ bl0).mono ?_
   rintro e w1 ⟨rfl, hb1⟩
   have K1 : Below w.heap.size w w1 := Yc hb1 bl0
   have Z1 := K1.size
   clear hb1
   go_wp2
   go_ret2
   exact ⟨none, 0, [], by rw [lE_low HC0.out hn]; rfl, sp_nil, .inl ⟨by rw [lE_low HC0.out hn]; decide, rfl⟩, bl1⟩
  ·have gn : decide (n < 1) = false := decide_eq_false hn
   have HP := Yh (fun W (hW : Below w.heap.size w W) => sleast_any A zs.length cap zs n Yo hv h64 W (h.below hW))
   clear h hv
   go_enter Tryz.func114, Tryz.ntmps114
   go_wp2_with fail
   refine (HC.out _ bl0).mono ?_
   rintro e w1 ⟨rfl, hb1⟩
   have K1 : Below w.heap.size w w1 := Yc hb1 bl0
   have Z1 := K1.size
   clear hb1
   go_wp2_with fail
   refine (HP.out _ bl1).mono ?_
   rintro e w2 ⟨A1, c1, ps, rfl, hpp, hcan, hcnt, hl128, hb2⟩
   have K2 : Below w.heap.size w w2 := Yc hb2 bl1
   have Z2 := K2.size
   clear hb2 K1
   have HPP := Yh hpp; have HCAN := Yh hcan; have HCNT := Yh hcnt; clear hpp hcan hcnt
   go_wp2
   go_ret2
   exact ⟨A1, c1, _, by rw [lE_ok HC0.out Yo]; rfl, HPP.out, .inr ⟨lE_ok HC0.out Yo, HC0.out, Yo, ps, .inr ⟨HC0.out, HCAN.out, HCNT.out, hl128⟩, rfl⟩, bl1⟩
 ·obtain ⟨c, hc⟩ : ∃ c, ckE zs = c := ⟨_, rfl⟩
  have hci := ckE_in zs
  have HB := Yh hc0
  rw [hc] at hc0 hci
  simp only [hc] at HC
  have g0 : decide (c = 0) = false := decide_eq_false hc0
  have g0b : (c == 0) = false := by simpa using hc0
  have g0c : (c != 0) = true := by simpa using hc0
  have HCC := Yh hc; clear h hc hc0
  go_enter Tryz.func114, Tryz.ntmps114
  go_wp2_with fail
  refine (HC.out _ bl0).mono ?_
  rintro e w1 ⟨rfl, hb1⟩
  have K1 : Below w.heap.size w w1 := Yc hb1 bl0
  have Z1 := K1.size
  clear hb1
  go_wp2
  go_ret2
  exact ⟨none, 0, [], by rw [lE_bad HB.out, HCC.out]; rfl, sp_nil, .inl ⟨by rw [lE_bad HB.out]; exact HB.out, rfl⟩, bl1⟩
def CtRel (w : World) (zs : List (Int × Int)) (t : Int) (G : Nat) (v i : Value) (wr : World) : Prop := ∃ q : Nat, q ≤ zs.length ∧ G = zs.length - q ∧ i = .int .i64 q ∧ v = .int .i64 (cntS (zs.take q) t) ∧ Below w.heap.size w wr
theorem scount_any (A : Option Addr) (len cap : Nat) (zs : List (Int × Int)) (t : Int) (w : World) (h : SpansAt w A len zs) :
  Calls Tryz.prog 113 #[.slice A len cap, .int .i64 t] w (RB w (.tuple #[.int .i64 (ctV zs t), .int .i64 (ckE zs)])) := by
 have hz := h.1
 have hlm := h.2.1
 subst hz
 have HC := Yh (fun W (hW : Below w.heap.size w W) => swcheck_any A zs.length cap zs W (h.below hW))
 by_cases hc0 : ckE zs = 0
 ·obtain ⟨h64, hv⟩ := ckE_ok hc0
  simp only [hc0] at HC
  have hct : ctV zs t = cntS zs t := if_pos hc0
  have HC0 := Yh hc0; have HCT := Yh hct; have H := Yh h; clear hc0 h hv hct
  go_enter Tryz.func113, Tryz.ntmps113
  go_wp2_with fail
  refine (HC.out _ bl0).mono ?_
  rintro e w1 ⟨rfl, hb1⟩
  have K1 : Below w.heap.size w w1 := Yc hb1 bl0
  have Z1 := K1.size
  clear hb1
  go_wp2
  go_loopg [7, 17] zs.length (fun G v i wr => CtRel w zs t G v i wr)
  case atStart => exact ⟨0, Yo, Yo, rfl, rfl, bl1⟩
  case round =>
   obtain ⟨q, hq, rfl, rfl, rfl, KR⟩ := hrel
   have ZR := KR.size
   have hcb := cntS_nonneg (zs.take q) t
   rw [List.length_take] at hcb
   by_cases hlt : q < zs.length
   ·have gk : decide ((q : Int) < (zs.length : Int)) = true := Y2
    have wq : IntKind.i64.wrap ((q : Int) + 1) = ((q + 1 : Nat) : Int) := Y4
    obtain ⟨bl, off, rfl, hb, hcs⟩ := H.out.2.2 Yo
    obtain ⟨e0, e1⟩ := hcs q hlt
    clear hcs
    have e0 := (KR.cell (p := ⟨bl, off + q * 2, none⟩) hb).trans e0
    have e1 := (KR.cell (p := ⟨bl, off + q * 2 + 1, none⟩) hb).trans e1
    have hbW : bl < wr.heap.size := by omega
    have hsn : cntS (zs.take (q + 1)) t = cntS (zs.take q) t + (if inS t (zs.getD q (0, 0)) then 1 else 0) := by rw [take_snocC (0, 0) zs hlt, cntS_app]; simp [cntS]
    rw [← hdB_inS] at hsn
    generalize zs.getD q (0, 0) = z at *
    obtain ⟨x, y⟩ := z
    dsimp only at e0 e1 hsn
    have HSN := Yh hsn; clear hsn
    obtain ⟨n, hn⟩ : ∃ n, cntS (zs.take q) t = n := ⟨_, rfl⟩
    rw [hn] at hcb HSN ⊢
    have wn : IntKind.i64.wrap (n + 1) = n + 1 := IntWalk.i64_in _ Yo
    have RV := Yh (fun W => iholds_all x y t W)
    cases hb : hdB x y t with
    | true =>
     rw [hb] at RV
     have HBB := Yh hb; clear hb hn
     go_wp2_with fail
     refine (RV.out _).mono ?_
     rintro e w2 ⟨rfl, hb2⟩
     have K2 : Below w.heap.size w w2 := Yc hb2 bl1
     have Z2 := K2.size
     have b2_0 := Yk (g := wr.heap.size) hb2 bn0
     (try simp only [lst, ls0, ls1] at b2_0)
     clear hb2 KR
     obtain ⟨c2_0, f2_0, l2_0, e2_0, k2_0⟩ := Yf b2_0
     have o2_0 := l2_0
     go_wp2
     go_roundg (zs.length - (q + 1))
     case measure => omega
     case rel => exact ⟨q + 1, Yo, Yo, by go_num, (by rw [HSN.out, HBB.out]; simp), bl1⟩
    | false =>
     rw [hb] at RV
     have HBB := Yh hb; clear hb hn
     go_wp2_with fail
     refine (RV.out _).mono ?_
     rintro e w2 ⟨rfl, hb2⟩
     have K2 : Below w.heap.size w w2 := Yc hb2 bl1
     have Z2 := K2.size
     have b2_0 := Yk (g := wr.heap.size) hb2 bn0
     (try simp only [lst, ls0, ls1] at b2_0)
     clear hb2 KR
     obtain ⟨c2_0, f2_0, l2_0, e2_0, k2_0⟩ := Yf b2_0
     have o2_0 := l2_0
     go_wp2
     go_roundg (zs.length - (q + 1))
     case measure => omega
     case rel => exact ⟨q + 1, Yo, Yo, by go_num, (by rw [HSN.out, HBB.out]; simp), bl1⟩
   ·obtain rfl : zs.length = q := by omega
    have gk : decide ((zs.length : Int) < (zs.length : Int)) = false := Y3
    have ht : cntS (zs.take zs.length) t = ctV zs t := by rw [HCT.out, List.take_length]
    rw [ht]
    clear ht
    go_wp2
    go_ret2
    exact ⟨by rw [HC0.out]; rfl, bl1⟩
 ·obtain ⟨c, hc⟩ : ∃ c, ckE zs = c := ⟨_, rfl⟩
  have hci := ckE_in zs
  have hct : ctV zs t = 0 := if_neg hc0
  have HCT := Yh hct; clear hct
  rw [hc] at hc0 hci
  simp only [hc] at HC
  have g0 : decide (c = 0) = false := decide_eq_false hc0
  have g0b : (c == 0) = false := by simpa using hc0
  have g0c : (c != 0) = true := by simpa using hc0
  have HCC := Yh hc; clear h hc hc0
  go_enter Tryz.func113, Tryz.ntmps113
  go_wp2_with fail
  refine (HC.out _ bl0).mono ?_
  rintro e w1 ⟨rfl, hb1⟩
  have K1 : Below w.heap.size w w1 := Yc hb1 bl0
  have Z1 := K1.size
  clear hb1
  go_wp2
  go_ret2
  exact ⟨by rw [HCC.out, HCT.out]; rfl, bl1⟩
theorem anyIn_mem' {t : Int} {a : List (Int × Int)} (h : anyIn t a = true) : ∃ q ∈ a, inS t q = true := List.any_eq_true.1 h
theorem px_parts {zs : List (Int × Int)} {ps : List Pc} (h : PX zs ps) (hc : ckE zs = 0) : PCan ps ∧ (∀ t, cntP ps t = cntS zs t) ∧ ps.length ≤ 128 ∧ ∀ p ∈ ps, vS p.lo p.hi = true := by
 rcases h with ⟨h, -⟩ | ⟨-, h1, h2, h3⟩
 ·exact absurd hc h
 ·exact ⟨h1, h2, h3, pc_in h1 h2⟩
theorem lx_parts {zs us : List (Int × Int)} {n : Int} (h : LX zs n us) (hc : ckE zs = 0) (hn : 1 ≤ n) : ∃ ps, PX zs ps ∧ us = leastP n ps := by
 rcases h with ⟨h, -⟩ | ⟨-, -, -, h⟩
 ·exact absurd (lE_ok hc Yo) h
 ·exact h
theorem lx_law {zs us : List (Int × Int)} {n : Int} (h : LX zs n us) (hc : ckE zs = 0) (hn : 1 ≤ n) : gapsS us ∧ (∀ z ∈ us, vS z.1 z.2 = true) ∧ ∀ t, anyIn t us = decide (n ≤ cntS zs t) := by
 obtain ⟨ps, hp, rfl⟩ := lx_parts h hc hn
 obtain ⟨h1, h2, -, h3⟩ := px_parts hp hc
 obtain ⟨g, v, a⟩ := least_law n hn ps h1 h3
 exact ⟨g, fun z hz => (v z hz).1, fun t => by rw [a, h2]⟩
def qE (zs : List (Int × Int)) (f : Int) : Int := if ckE zs ≠ 0 then ckE zs else if f < 0 ∨ (zs.length : Int) ≤ 2 * f then 4 else 0
theorem qE_bad {zs : List (Int × Int)} {f : Int} (h : ckE zs ≠ 0) : qE zs f = ckE zs := if_pos h
theorem qE_range {zs : List (Int × Int)} {f : Int} (h : ckE zs = 0) (k : f < 0 ∨ (zs.length : Int) ≤ 2 * f) : qE zs f = 4 := by unfold qE; rw [if_neg (by simp [h]), if_pos k]
theorem qE_ok {zs : List (Int × Int)} {f : Int} (h : ckE zs = 0) (k : ¬ (f < 0 ∨ (zs.length : Int) ≤ 2 * f)) : qE zs f = 0 := by unfold qE; rw [if_neg (by simp [h]), if_neg k]
theorem qE_parts {zs : List (Int × Int)} {f : Int} (h : qE zs f = 0) : ckE zs = 0 ∧ 0 ≤ f ∧ 2 * f < zs.length := by
  unfold qE at h
  split at h
  · next c => exact absurd h c
  · next c =>
    split at h
    · simp at h
    · next d => exact ⟨by simpa using c, Yo⟩
def AX (zs : List (Int × Int)) (f x y er : Int) : Prop := (qE zs f ≠ 0 ∧ x = 0 ∧ y = 0 ∧ er = qE zs f) ∨ (qE zs f = 0 ∧ ∃ us, LX zs (zs.length - f) us ∧ ((us = [] ∧ x = 0 ∧ y = 0 ∧ er = 21) ∨ (0 < us.length ∧ x = (us.getD 0 (0, 0)).1 ∧ y = (lastS us).2 ∧ er = 0)))
theorem AX_uniq {zs : List (Int × Int)} {f x y er x' y' er' : Int} (h : AX zs f x y er) (k : AX zs f x' y' er') : x = x' ∧ y = y' ∧ er = er' := by
  rcases h with ⟨h0, rfl, rfl, rfl⟩ | ⟨h0, us, hu, h⟩
  · rcases k with ⟨k0, rfl, rfl, rfl⟩ | ⟨k0, -⟩
    · exact ⟨rfl, rfl, rfl⟩
    · exact absurd k0 h0
  · rcases k with ⟨k0, -⟩ | ⟨k0, vs, hv, k⟩
    · exact absurd h0 k0
    · obtain rfl := LX_uniq hu hv
      rcases h with ⟨rfl, rfl, rfl, rfl⟩ | ⟨hl, rfl, rfl, rfl⟩
      · rcases k with ⟨-, rfl, rfl, rfl⟩ | ⟨kl, -⟩
        · exact ⟨rfl, rfl, rfl⟩
        · simp at kl
      · rcases k with ⟨rfl, -⟩ | ⟨-, rfl, rfl, rfl⟩
        · simp at hl
        · exact ⟨rfl, rfl, rfl⟩
def AgR (w : World) (zs : List (Int × Int)) (f : Int) (e : Ending) (w' : World) : Prop := ∃ x y er : Int, e = .returned (.tuple #[.agg #[.int .i64 x, .int .i64 y], .int .i64 er]) ∧ AX zs f x y er ∧ Below w.heap.size w w'
theorem gaps_mono {us : List (Int × Int)} (g : gapsS us) (hv : ∀ z ∈ us, vS z.1 z.2 = true) : ∀ j i, i ≤ j → j < us.length → (us.getD i (0, 0)).1 ≤ (us.getD j (0, 0)).1 ∧ (us.getD i (0, 0)).2 ≤ (us.getD j (0, 0)).2 := by
  have hval : ∀ j, j < us.length → (us.getD j (0, 0)).1 ≤ (us.getD j (0, 0)).2 := fun j hj => by
    have : us.getD j (0, 0) ∈ us := by rw [Y8, Y9 hj]; exact List.getElem_mem _
    exact (vS_true.1 (hv _ this)).2.1
  intro j
  induction j with
  | zero => intro i hi hj; obtain rfl : i = 0 := by omega
            exact ⟨Int.le_refl _, Int.le_refl _⟩
  | succ j ih =>
    intro i hi hj
    by_cases e : i = j + 1
    · subst e; exact ⟨Int.le_refl _, Int.le_refl _⟩
    · have h1 := ih i Yo Yo
      have h2 := g j hj
      have h3 := hval j Yo
      have h4 := hval (j + 1) hj
      omega
theorem gaps_ends {us : List (Int × Int)} (g : gapsS us) (hv : ∀ z ∈ us, vS z.1 z.2 = true) {q : Int × Int} (hq : q ∈ us) : (us.getD 0 (0, 0)).1 ≤ q.1 ∧ q.2 ≤ (lastS us).2 := by
  obtain ⟨i, hi, e⟩ := List.getElem_of_mem hq
  have e2 : us.getD i (0, 0) = q := by rw [Y8, Y9 hi]; exact e
  have h1 := gaps_mono g hv i 0 Yo hi
  have h2 := gaps_mono g hv (us.length - 1) i Yo Yo
  rw [e2] at h1 h2
  exact ⟨h1.1, h2.2⟩
theorem AX_truth {zs : List (Int × Int)} {f x y er t : Int} (h : AX zs f x y er) (hE : qE zs f = 0) (ht : (zs.length : Int) - f ≤ cntS zs t) : er = 0 ∧ x ≤ t ∧ t ≤ y ∧ vS x y = true := by
  obtain ⟨hc, hf0, hf1⟩ := qE_parts hE
  rcases h with ⟨h0, -⟩ | ⟨-, us, hu, h⟩
  · exact absurd hE h0
  · obtain ⟨g, v, a⟩ := lx_law hu hc Yo
    have ha := a t
    rw [decide_eq_true ht] at ha
    obtain ⟨q, hq, hi⟩ := anyIn_mem' ha
    have h1 := (inS_iff.1 hi).2
    have h2 := gaps_ends g v hq
    rcases h with ⟨rfl, -⟩ | ⟨hl, rfl, rfl, rfl⟩
    · simp at hq
    · have m0 : us.getD 0 (0, 0) ∈ us := by rw [Y8, Y9 hl]; exact List.getElem_mem _
      have m1 := lastS_mem hl
      have v0 := vS_true.1 (v _ m0)
      have v1 := vS_true.1 (v _ m1)
      exact ⟨rfl, Yo, Yo, vS_true.2 Yo⟩
theorem AX_ends {zs : List (Int × Int)} {f x y er : Int} (h : AX zs f x y er) (he : er = 0) : qE zs f = 0 ∧ (zs.length : Int) - f ≤ cntS zs x ∧ (zs.length : Int) - f ≤ cntS zs y ∧ vS x y = true := by
  rcases h with ⟨h0, -, -, h3⟩ | ⟨h0, us, hu, h⟩
  · exact absurd (h3.symm.trans he) h0
  · obtain ⟨hc, hf0, hf1⟩ := qE_parts h0
    obtain ⟨g, v, a⟩ := lx_law hu hc Yo
    rcases h with ⟨-, -, -, h⟩ | ⟨hl, rfl, rfl, -⟩
    · rw [he] at h; simp at h
    · have m0 : us.getD 0 (0, 0) ∈ us := by rw [Y8, Y9 hl]; exact List.getElem_mem _
      have m1 := lastS_mem hl
      have v0 := vS_true.1 (v _ m0)
      have v1 := vS_true.1 (v _ m1)
      have e0 := gaps_ends g v m0
      have e1 := gaps_ends g v m1
      have a0 := a (us.getD 0 (0, 0)).1
      have a1 := a (lastS us).2
      rw [show anyIn (us.getD 0 (0, 0)).1 us = true from List.any_eq_true.2 ⟨_, m0, inS_iff.2 ⟨v _ m0, Yo, Yo⟩⟩] at a0
      rw [show anyIn (lastS us).2 us = true from List.any_eq_true.2 ⟨_, m1, inS_iff.2 ⟨v _ m1, Yo, Yo⟩⟩] at a1
      exact ⟨h0, of_decide_eq_true a0.symm, of_decide_eq_true a1.symm, vS_true.2 Yo⟩
end Go.Proofs.YtiinmhfolfgobaaGreatDoor
