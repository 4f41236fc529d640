/- Texts joined: RSwA, RSwB, RSwC -/
import Derived.Test.YtlnboheahbfgfaaGreatJ21
import Derived.Test.YtlnboheahbfgfaaGreatJ16
namespace Go.Proofs.YtlnboheahbfgfaaGreat
open Go.RowKit Go.Shelf Go.Sort
set_option linter.unusedSimpArgs false
set_option linter.unusedVariables false

def ChRel (w : World) (zs : List (Int × Int)) (G : Nat) (i : Value) (wr : World) : Prop := ∃ q : Nat, q ≤ zs.length ∧ G = zs.length - q ∧ i = .int .i64 q ∧ (∀ j, j < q → vS (zs.getD j (0, 0)).1 (zs.getD j (0, 0)).2 = true) ∧ Below w.heap.size w wr
set_option maxRecDepth 100000 in
set_option maxHeartbeats 1000000 in
theorem rswcheck_any (A : Option Addr) (len cap : Nat) (zs : List (Int × Int)) (w : World) (h : SpansAt w A len zs) :
  Calls Tryz.prog 163 #[.slice A len cap] w (RB w (.int .i64 (ckE zs))) := by
 have hz := h.1
 have hlm := h.2.1
 subst hz
 have H := hYd h; clear h
 by_cases h64 : 64 < zs.length
 ·have g0 : decide (64 < (zs.length : Int)) = true := decide_eq_true (by omega)
  have g0n : decide (64 < zs.length) = true := decide_eq_true h64
  have HV := hYd (ckE_8 h64)
  go_enter Tryz.func163, Tryz.ntmps163
  go_wp2
  go_ret
  exact ⟨by rw [HV.out]; rfl, bl0⟩
 ·have g0 : decide (64 < (zs.length : Int)) = false := decide_eq_false (by omega)
  have g0n : decide (64 < zs.length) = false := decide_eq_false h64
  have H64 := hYd h64; clear h64
  have h64 : zs.length ≤ 64 := by have := H64.out; omega
  go_enter Tryz.func163, Tryz.ntmps163
  go_wp2
  go_loopg [3] zs.length (fun G i wr => ChRel w zs G i wr)
  case atStart => exact ⟨0, by omega, by omega, rfl, fun j hj => by omega, bl0⟩
  case round =>
   obtain ⟨q, hq, rfl, rfl, hs, KR⟩ := hrel
   have ZR := KR.size
   have HS := hYd hs; clear hs
   by_cases hlt : q < zs.length
   ·have gk : decide ((q : Int) < (zs.length : Int)) = true := decide_eq_true (by omega)
    have wq : IntKind.i64.wrap ((q : Int) + 1) = ((q + 1 : Nat) : Int) := by rw [IntWalk.i64_in _ (by omega)]; omega
    obtain ⟨bl, off, rfl, hb, hcs⟩ := H.out.2.2 (by omega)
    obtain ⟨e0, e1⟩ := hcs q hlt
    clear hcs
    have e0 := (KR.cell (p := ⟨bl, off + q * 2, none⟩) hb).trans e0
    have e1 := (KR.cell (p := ⟨bl, off + q * 2 + 1, none⟩) hb).trans e1
    have hbW : bl < wr.heap.size := by omega
    have hmem : zs.getD q (0, 0) ∈ zs := by rw [List.getD_eq_getElem?_getD, List.getElem?_eq_getElem hlt]; exact List.getElem_mem _
    have HME := hYd hmem; clear hmem
    generalize hzz : zs.getD q (0, 0) = z at *
    have HZZ := hYd hzz; clear hzz
    obtain ⟨x, y⟩ := z
    dsimp only at e0 e1
    have RV := hYd (fun W => (show Calls _ _ _ _ (RB W _) from (rsvalid_any x y W).mono (fun _ _ hh => ⟨hh.1, hh.2 ▸ (Below.refl _ _).alloc (Nat.le_refl _) _⟩)))
    cases hv : vS x y with
    | true =>
     rw [hv] at RV
     have HVV := hYd hv; clear hv
     go_wp2_with fail
     refine (RV.out _).mono ?_
     rintro e w2 ⟨rfl, hb2⟩
     have K2 : Below w.heap.size w w2 := kept_call hb2 bl1
     have Z2 := K2.size
     clear hb2 KR
     go_wp2
     go_roundg (zs.length - (q + 1))
     case measure => omega
     case rel => exact ⟨q + 1, by omega, by omega, by go_num, fun j hj => by by_cases e9 : j = q; (subst e9; rw [HZZ.out]; exact HVV.out); (exact HS.out j (by omega)), bl1⟩
    | false =>
     rw [hv] at RV
     have hbad : badS zs = true := by unfold badS anyS; exact List.any_eq_true.2 ⟨_, HME.out, by show (!vS x y) = true; rw [hv]; rfl⟩
     have HV := hYd (ckE_3 H64.out hbad); clear hbad hv
     go_wp2_with fail
     refine (RV.out _).mono ?_
     rintro e w2 ⟨rfl, hb2⟩
     have K2 : Below w.heap.size w w2 := kept_call hb2 bl1
     have Z2 := K2.size
     clear hb2 KR
     go_wp2
     go_ret
     exact ⟨by rw [HV.out]; rfl, bl1⟩
   ·obtain rfl : zs.length = q := by omega
    have gk : decide ((zs.length : Int) < (zs.length : Int)) = false := decide_eq_false (by omega)
    have hok : badS zs = false := by unfold badS; rw [anyS_false]; intro j hj; rw [HS.out j hj]; rfl
    have HV := hYd (ckE_0 H64.out hok); clear hok
    go_wp2
    go_ret
    exact ⟨by rw [HV.out]; rfl, bl1⟩
set_option maxRecDepth 100000 in
set_option maxHeartbeats 1000000 in
theorem rcnt_any (A : Option Addr) (len cap : Nat) (zs : List (Int × Int)) (t : Int) (h64 : len ≤ 64) (w : World) (h : SpansAt w A len zs) :
  Calls Tryz.prog 177 #[.slice A len cap, .int .i64 t] w (RB w (.int .i64 (cntS zs t))) := by
 have hz := h.1
 have hlm := h.2.1
 subst hz
 have H := hYd h; clear h
 go_enter Tryz.func177, Tryz.ntmps177
 go_wp2
 go_loopg [5, 6] zs.length (fun G v i wr => CtRel w zs t G v i wr)
 case atStart => exact ⟨0, by omega, by omega, rfl, rfl, bl0⟩
 case round =>
   obtain ⟨q, hq, rfl, rfl, rfl, KR⟩ := hrel
   have ZR := KR.size
   have hcb := cntS_nonneg (zs.take q) t
   rw [List.length_take] at hcb
   by_cases hlt : q < zs.length
   ·have gk : decide ((q : Int) < (zs.length : Int)) = true := decide_eq_true (by omega)
    have wq : IntKind.i64.wrap ((q : Int) + 1) = ((q + 1 : Nat) : Int) := by rw [IntWalk.i64_in _ (by omega)]; omega
    obtain ⟨bl, off, rfl, hb, hcs⟩ := H.out.2.2 (by omega)
    obtain ⟨e0, e1⟩ := hcs q hlt
    clear hcs
    have e0 := (KR.cell (p := ⟨bl, off + q * 2, none⟩) hb).trans e0
    have e1 := (KR.cell (p := ⟨bl, off + q * 2 + 1, none⟩) hb).trans e1
    have hbW : bl < wr.heap.size := by omega
    have hsn : cntS (zs.take (q + 1)) t = cntS (zs.take q) t + (if inS t (zs.getD q (0, 0)) then 1 else 0) := by rw [take_snocC (0, 0) zs hlt, cntS_app]; simp [cntS]
    rw [← hdB_inS] at hsn
    generalize zs.getD q (0, 0) = z at *
    obtain ⟨x, y⟩ := z
    dsimp only at e0 e1 hsn
    have HSN := hYd hsn; clear hsn
    obtain ⟨n, hn⟩ : ∃ n, cntS (zs.take q) t = n := ⟨_, rfl⟩
    rw [hn] at hcb HSN ⊢
    have wn : IntKind.i64.wrap (n + 1) = n + 1 := IntWalk.i64_in _ (by omega)
    have RV := hYd (fun W => rholds_all x y t W)
    cases hb : hdB x y t with
    | true =>
     rw [hb] at RV
     have HBB := hYd hb; clear hb hn
     go_wp2_with fail
     refine (RV.out _).mono ?_
     rintro e w2 ⟨rfl, hb2⟩
     have K2 : Below w.heap.size w w2 := kept_call hb2 bl1
     have Z2 := K2.size
     clear hb2 KR
     go_wp2
     go_roundg (zs.length - (q + 1))
     case measure => omega
     case rel => exact ⟨q + 1, by omega, by omega, by go_num, (by rw [HSN.out, HBB.out]; simp), bl1⟩
    | false =>
     rw [hb] at RV
     have HBB := hYd hb; clear hb hn
     go_wp2_with fail
     refine (RV.out _).mono ?_
     rintro e w2 ⟨rfl, hb2⟩
     have K2 : Below w.heap.size w w2 := kept_call hb2 bl1
     have Z2 := K2.size
     clear hb2 KR
     go_wp2
     go_roundg (zs.length - (q + 1))
     case measure => omega
     case rel => exact ⟨q + 1, by omega, by omega, by go_num, (by rw [HSN.out, HBB.out]; simp), bl1⟩
   ·obtain rfl : zs.length = q := by omega
    have gk : decide ((zs.length : Int) < (zs.length : Int)) = false := decide_eq_false (by omega)
    have ht : cntS (zs.take zs.length) t = cntS zs t := by rw [List.take_length]
    rw [ht]
    clear ht
    go_wp2
    go_ret
    exact ⟨rfl, bl1⟩
end Go.Proofs.YtlnboheahbfgfaaGreat
namespace Go.Proofs.YtlnboheahbfgfaaGreat
open Go.RowKit Go.Shelf Go.Sort
set_option linter.unusedSimpArgs false
set_option linter.unusedVariables false

def LpR (w : World) (n : Int) (ps : List Pc) (e : Ending) (w' : World) : Prop := ∃ (A : Option Addr) (cap : Nat), e = .returned (.slice A (leastP n ps).length cap) ∧ SpansAt w' A (leastP n ps).length (leastP n ps) ∧ Below w.heap.size w w'
set_option maxRecDepth 100000 in
set_option maxHeartbeats 4000000 in
theorem rleastp_any (A1 : Option Addr) (len c1 : Nat) (ps : List Pc) (n : Int) (hn : 1 ≤ n) (hcan : PCan ps) (hpi : ∀ p ∈ ps, vS p.lo p.hi = true) (hl128 : len ≤ 128) (w : World) (hpp : PcsAt w A1 len ps) :
  Calls Tryz.prog 172 #[.slice A1 len c1, .int .i64 n] w (LpR w n ps) := by
 have hz := hpp.1
 subst hz
 have HN := hYd hn; clear hn
 have hlaw := fun k => least_law n HN.out (ps.take k) (hcan.take k) (fun p hp => hpi p (List.mem_of_mem_take hp))
 have HPI := hYd hpi; have HPP := hYd hpp; have HLAW := hYd hlaw
 clear hpi hpp hlaw

 go_enter Tryz.func172, Tryz.ntmps172
 go_wp2
 go_loopg [5, 6] ps.length (fun G v5 i wr => MRel w n ps G v5 i wr)
 case atStart => exact ⟨0, by omega, by omega, rfl, RowS.nil, bl0⟩
 case round =>
  obtain ⟨k, hk, rfl, rfl, hrow, KR⟩ := hrel
  have ZR := KR.size
  have HROW := hYd hrow; clear hrow
  by_cases hlt : k < ps.length
  ·have gk : decide ((k : Int) < (ps.length : Int)) = true := decide_eq_true (by omega)
   have wk : IntKind.i64.wrap ((k : Int) + 1) = ((k + 1 : Nat) : Int) := by rw [IntWalk.i64_in _ (by omega)]; omega
   obtain ⟨bl, off, rfl, hb, hcs⟩ := HPP.out.2.2 (by omega)
   obtain ⟨e0, e1, e2⟩ := hcs k hlt
   clear hcs
   have e0 := (KR.cell (p := ⟨bl, off + k * 3, none⟩) hb).trans e0
   have e1 := (KR.cell (p := ⟨bl, off + k * 3 + 1, none⟩) hb).trans e1
   have e2 := (KR.cell (p := ⟨bl, off + k * 3 + 2, none⟩) hb).trans e2
   have hbW : bl < wr.heap.size := by omega
   have hpk := HPI.out (ps.getD k ⟨0, 0, 0⟩) (by rw [List.getD_eq_getElem?_getD, List.getElem?_eq_getElem hlt]; exact List.getElem_mem _)
   have hsn : leastP n (ps.take (k + 1)) = stepL n (leastP n (ps.take k)) (ps.getD k ⟨0, 0, 0⟩) := by rw [take_snocC ⟨0, 0, 0⟩ ps hlt, leastP_snoc]
   have hol := leastP_length n (ps.take k)
   rw [List.length_take] at hol
   have hov := (HLAW.out k).2.1
   generalize ps.getD k ⟨0, 0, 0⟩ = p at *
   obtain ⟨lo, hi, m⟩ := p
   dsimp only at e0 e1 e2 hpk
   have HSN := hYd hsn; have HOV := hYd hov; clear hsn hov
   obtain ⟨p1, p2, p3⟩ := vS_true.1 hpk
   clear hpk
   generalize leastP n (ps.take k) = out at *
   obtain ⟨A3, c3, e3⟩ := RowS.len HROW.out
   subst e3
   have K5 : Below w.heap.size w wr := KR
   have Z5 := ZR
   have HR5 := hYd HROW.out
   clear HROW KR ZR
   generalize wr = w5 at *
   by_cases hm : m < n
   ·have gm : decide (m < n) = true := decide_eq_true hm
    have hst : stepL n out ⟨lo, hi, m⟩ = out := if_pos hm
    have HST := hYd hst; clear hst
    go_wp2
    go_roundg (ps.length - (k + 1))
    case measure => omega
    case rel => exact ⟨k + 1, by omega, by omega, by go_num, by rw [HSN.out, HST.out]; exact HR5.out, bl1⟩
   have gm : decide (m < n) = false := decide_eq_false hm
   have hst : stepL n out ⟨lo, hi, m⟩ = if 0 < out.length ∧ (out.getD (out.length - 1) (0, 0)).2 + 1 = lo then out.set (out.length - 1) ((out.getD (out.length - 1) (0, 0)).1, hi) else out ++ [(lo, hi)] := if_neg hm
   have HST := hYd hst; clear hst
   obtain ⟨i0, hif, hz0, hz1, hz2⟩ := info_parts infoSpan
   by_cases m0 : out.length = 0
   ·have g3 : decide (0 < (out.length : Int)) = false := decide_eq_false (by omega)
    have g3n : decide (0 < out.length) = false := decide_eq_false (by omega)
    have w0 : IntKind.i64.wrap ((out.length : Int) - 1) = -1 := by rw [show (out.length : Int) - 1 = -1 by omega]; rfl
    have had : leastP n (ps.take (k + 1)) = out ++ [(lo, hi)] := by rw [HSN.out, HST.out, if_neg (by rintro ⟨h, -⟩; omega)]
    have HM0 := hYd m0; clear m0
    have HAD := hYd had; clear had
    go_wp2_with fail
    go_quiet (fail)
    go_wp2_with (at_builtin; refine wpList_append_lies _ rfl _ _ 27 rfl w.heap.size 29 i0 (.agg #[.int .i64 0, .int .i64 0]) 2 16 Tryz.underlying27 hif hz0 hz1 hz2 rfl (by decide) _ (out).length (cellsS (out)) rfl (RowS.alloc (RowS.drewN HR5.out nq) _) ⟨w5.heap.size, 0, none⟩ 1 1 [.int .i64 lo, .int .i64 hi] rfl rfl (World.news_of_block (t := 29) (fr := (0, 0)) (Blk.new _ _ _)) ?c2 (by decide) ?c3 ?c4 ?c5 _ rfl ?_)
    case c2 => first | exact ⟨rfl, rfl⟩ | exact ⟨rfl, rfl, trivial⟩ | (intro u hu; simp at hu; rcases hu with rfl | rfl <;> rfl)
    case c3 => unfold maxLen; omega
    case c4 => first | omega | (simp; omega)
    case c5 => first | omega | (simp; omega)
    intro g9 cp9 w9 hown hgrow hlie hglt
    have K9 : Below w.heap.size w w9 := ((below_drewN K5 nq).alloc (by show w.heap.size ≤ w5.heap.size; omega) _).grown hgrow (by simp; omega) (fun k hk => (RowS.lt HR5.out k hk).1)
    have hrow9 : RowS w9 w.heap.size (.slice (some ⟨g9, 0, none⟩) (out.length + 1) cp9) ((out) ++ [(lo, hi)]) := by
     unfold RowS
     rw [show ((out) ++ [((lo, hi) : Int × Int)]).length = out.length + 1 from by simp, cellsS_snoc (out)]; exact hown
    clear hown hgrow hlie hglt
    have R9 := hYd hrow9; clear hrow9
    go_wp2
    go_roundg (ps.length - (k + 1))
    case measure => omega
    case rel => exact ⟨k + 1, by omega, by omega, by go_num, by rw [HAD.out]; exact R9.out, K9⟩
   ·obtain ⟨g, cp, eg, hg1, hg2, hgc⟩ := RowS.form HR5.out (by omega)
    obtain ⟨a, x9, rfl⟩ := snoc_of (l := out) (by omega)
    have hln : (a ++ [x9]).length = a.length + 1 := by simp
    cases eg
    have hgf := RowS.fz HR5.out
    obtain ⟨d1, d2⟩ := hgc a.length (by omega)
    have hgl : (a ++ [x9]).getD a.length (0, 0) = x9 := by simp [List.getD_eq_getElem?_getD]
    have hgl2 : (a ++ [x9]).getD ((a ++ [x9]).length - 1) (0, 0) = x9 := by rw [hln]; exact hgl
    have hset : ∀ u : Int × Int, (a ++ [x9]).set ((a ++ [x9]).length - 1) u = a ++ [u] := fun u => by
     rw [hln, Nat.add_sub_cancel, List.set_append, if_neg (by omega), Nat.sub_self]; rfl
    rw [hgl] at d1 d2
    clear hgc
    have hst2 : stepL n (a ++ [x9]) ⟨lo, hi, m⟩ = if 0 < (a ++ [x9]).length ∧ x9.2 + 1 = lo then a ++ [(x9.1, hi)] else (a ++ [x9]) ++ [(lo, hi)] := by rw [HST.out, hgl2, hset]
    have HST2 := hYd hst2; have HLN := hYd hln; clear hst2 hgl hgl2 hset HST
    have hbx := vS_true.1 (HOV.out x9 (by simp)).1
    have hHR : RowS w5 w.heap.size (.slice (some ⟨g, 0, none⟩) (a.length + 1) c3) (a ++ [x9]) := by have := HR5.out; rwa [HLN.out] at this
    rw [hln] at hol ⊢
    clear HR5 hln m0
    have HR5 := hYd hHR; clear hHR
    obtain ⟨xl, xh⟩ := x9
    dsimp only at hbx d1 d2 HST2
    obtain ⟨q, hq⟩ : ∃ q, q = a.length := ⟨_, rfl⟩
    rw [← hq] at d1 d2 hol ⊢
    rw [← hq] at HR5
    have HM := hYd hq; clear hq
    have wm : IntKind.i64.wrap (((q : Int) + 1) - 1) = (q : Int) := by rw [show (q : Int) + 1 - 1 = (q : Int) by omega]; exact IntWalk.i64_in _ (by omega)
    have wm2 : IntKind.i64.wrap ((((q + 1 : Nat) : Int)) - 1) = (q : Int) := by rw [show (((q + 1 : Nat) : Int)) - 1 = (q : Int) by omega]; exact IntWalk.i64_in _ (by omega)
    have g3 : decide (0 < (((q + 1 : Nat)) : Int)) = true := decide_eq_true (by omega)
    have g3b : decide (0 < ((q : Int) + 1)) = true := decide_eq_true (by omega)
    have g3c : decide (0 ≤ (q : Int)) = true := decide_eq_true (by omega)
    have nbg : bl ≠ g := by have := hg1; omega
    have hR9 : RowS w5 w.heap.size (.slice (some ⟨g, 0, none⟩) (a ++ [(xl, xh)]).length c3) (a ++ [(xl, xh)]) := by have := HR5.out; rw [HLN.out, ← HM.out]; exact this
    have HR9 := hYd hR9; clear hR9
    have wx : IntKind.i64.wrap (xh + 1) = xh + 1 := IntWalk.i64_in _ (by omega)
    by_cases q2 : xh + 1 = lo
    ·have HQ2 := hYd q2
     have g5 : decide (xh + 1 = lo) = true := decide_eq_true q2
     have g5b : ((xh + 1) == lo) = true := by simpa using q2
     clear q2
     have had : leastP n (ps.take (k + 1)) = a ++ [(xl, hi)] := by rw [HSN.out, HST2.out, if_pos ⟨by simp, HQ2.out⟩]
     have HAD := hYd had; clear had
     have hfz := hgf (q * 2 + 1)
     go_wp2_with fail
     go_quiet (fail)
     have hs9 := World.ownsRow.stored (RowS.drewN HR9.out nq) (q * 2 + 1) (.int .i64 hi)
     have HS9 := hYd hs9; clear hs9
     go_wp2
     go_roundg (ps.length - (k + 1))
     case measure => omega
     case rel =>
      refine ⟨k + 1, by omega, by omega, by go_num, ?_, bl1⟩
      rw [HAD.out]
      have h1 := HS9.out.1
      unfold RowS
      have e1 : (a ++ [(xl, hi)]).length = (a ++ [(xl, xh)]).length := by simp
      rw [e1, ← cellsS_last a xl xh hi, ← HM.out]
      have e2 := HLN.out
      rw [e2, ← HM.out] at h1
      rw [e2, ← HM.out]
      exact h1
    ·have g5 : decide (xh + 1 = lo) = false := decide_eq_false q2
     have g5b : ((xh + 1) == lo) = false := by simpa using q2
     have had : leastP n (ps.take (k + 1)) = (a ++ [(xl, xh)]) ++ [(lo, hi)] := by rw [HSN.out, HST2.out, if_neg (fun h => q2 h.2)]
     have HAD := hYd had; clear had
     go_wp2_with fail
     go_quiet (fail)
     go_wp2_with (at_builtin; refine wpList_append_lies _ rfl _ _ 27 rfl w.heap.size 29 i0 (.agg #[.int .i64 0, .int .i64 0]) 2 16 Tryz.underlying27 hif hz0 hz1 hz2 rfl (by decide) _ (a ++ [(xl, xh)]).length (cellsS (a ++ [(xl, xh)])) (by rw [HLN.out, HM.out]; rfl) (RowS.alloc (RowS.drewN HR9.out nq) _) ⟨w5.heap.size, 0, none⟩ 1 1 [.int .i64 lo, .int .i64 hi] rfl rfl (World.news_of_block (t := 29) (fr := (0, 0)) (Blk.new _ _ _)) ?c2 (by decide) ?c3 ?c4 ?c5 _ rfl ?_)
     case c2 => first | exact ⟨rfl, rfl⟩ | exact ⟨rfl, rfl, trivial⟩ | (intro u hu; simp at hu; rcases hu with rfl | rfl <;> rfl)
     case c3 => rw [HLN.out, ← HM.out]; unfold maxLen; omega
     case c4 => rw [HLN.out, ← HM.out]; first | omega | (simp; omega)
     case c5 => first | omega | (simp; omega)
     intro g9 cp9 w9 hown hgrow hlie hglt
     have K9 : Below w.heap.size w w9 := ((below_drewN K5 nq).alloc (by show w.heap.size ≤ w5.heap.size; omega) _).grown hgrow (by simp; omega) (fun k hk => (RowS.lt HR9.out k hk).1)
     have hrow9 : RowS w9 w.heap.size (.slice (some ⟨g9, 0, none⟩) (a.length + 1 + 1) cp9) ((a ++ [(xl, xh)]) ++ [(lo, hi)]) := by
      unfold RowS
      rw [show ((a ++ [(xl, xh)]) ++ [((lo, hi) : Int × Int)]).length = a.length + 1 + 1 from by simp, cellsS_snoc (a ++ [(xl, xh)])]; exact hown
     clear hown hgrow hlie hglt
     have R9 := hYd hrow9; clear hrow9
     go_wp2
     go_roundg (ps.length - (k + 1))
     case measure => omega
     case rel => exact ⟨k + 1, by omega, by omega, by go_num, by rw [HAD.out]; exact R9.out, K9⟩
  ·obtain rfl : ps.length = k := by omega
   have gk : decide ((ps.length : Int) < (ps.length : Int)) = false := decide_eq_false (by omega)
   have ht : ps.take ps.length = ps := List.take_of_length_le (Nat.le_refl _)
   have hol := leastP_length n ps
   rw [ht] at HROW
   obtain ⟨A9, c9, rfl⟩ := RowS.len HROW.out
   have hpc := spans_of_row HROW.out (by omega)
   have HPC := hYd hpc; clear hpc ht
   go_wp2
   go_ret
   exact ⟨A9, c9, rfl, HPC.out, bl1⟩
end Go.Proofs.YtlnboheahbfgfaaGreat
namespace Go.Proofs.YtlnboheahbfgfaaGreat
open Go.RowKit Go.Shelf Go.Sort
set_option linter.unusedSimpArgs false
set_option linter.unusedVariables false

theorem PX_cases {zs : List (Int × Int)} {ps : List Pc} (h : PX zs ps) : (ckE zs ≠ 0 ∧ ps = []) ∨ (ckE zs = 0 ∧ zs.length ≤ 64 ∧ PCan ps ∧ (∀ p ∈ ps, vS p.lo p.hi = true) ∧ (∀ p ∈ ps, 1 ≤ p.n ∧ p.n ≤ 64) ∧ ps.length ≤ 128) := by
 rcases h with h | ⟨h, h1, h2, h3⟩
 ·exact .inl h
 ·exact .inr ⟨h, (ckE_ok h).1, h1, pc_in h1 h2, pc_num h1 h2 (ckE_ok h).1, h3⟩
def RPf (A : Option Addr) (len cap : Nat) (zs : List (Int × Int)) (w : World) : Prop := ∀ W, Below w.heap.size w W → Calls Tryz.prog 171 #[.slice A len cap] W (PfR W zs)
set_option maxRecDepth 100000 in
set_option maxHeartbeats 1000000 in
theorem rLeast_of (A : Option Addr) (len cap : Nat) (zs : List (Int × Int)) (n : Int) (w : World) (HP : RPf A len cap zs w) :
  Calls Tryz.prog 164 #[.slice A len cap, .int .i64 n] w (LsR w zs n) := by
 have HPF := hYd HP; clear HP
 go_enter Tryz.func164, Tryz.ntmps164
 go_wp2_with fail
 refine (HPF.out _ bl0).mono ?_
 rintro e w1 ⟨A1, c1, ps, rfl, hpp, hpx, hb1⟩
 have K1 : Below w.heap.size w w1 := kept_call hb1 bl0
 have Z1 := K1.size
 clear hb1
 have HPP := hYd hpp; have HPX := hYd hpx; clear hpp
 rcases PX_cases hpx with ⟨hc0, rfl⟩ | ⟨hc0, h64, hcan, hpv, hpn, h128⟩
 ·have HB := hYd hc0
  have HCI := ckE_in zs
  obtain ⟨c, hc⟩ : ∃ c, ckE zs = c := ⟨_, rfl⟩
  rw [hc] at hc0 HCI ⊢
  have g0 : decide (c = 0) = false := decide_eq_false hc0
  have g0b : (c == 0) = false := by simpa using hc0
  have g0c : (c != 0) = true := by simpa using hc0
  have HCC := hYd hc; clear hc hc0 hpx
  go_wp2
  go_ret2
  exact ⟨none, 0, [], by rw [lE_bad HB.out, HCC.out]; rfl, sp_nil, .inl ⟨by rw [lE_bad HB.out]; exact HB.out, rfl⟩, bl1⟩
 ·rw [hc0]
  have HC0 := hYd hc0; clear hc0 hpx
  by_cases hn : n < 1
  ·have gn : decide (n < 1) = true := decide_eq_true hn
   clear hcan hpv hpn
   go_wp2
   go_ret2
   exact ⟨none, 0, [], by rw [lE_low HC0.out hn]; rfl, sp_nil, .inl ⟨by rw [lE_low HC0.out hn]; decide, rfl⟩, bl1⟩
  ·have gn : decide (n < 1) = false := decide_eq_false hn
   have HL := hYd (fun W (hW : Below w1.heap.size w1 W) => rleastp_any A1 ps.length c1 ps n (by omega) hcan hpv h128 W (HPP.out.below hW))
   clear hcan hpv hpn
   go_wp2_with fail
   refine (HL.out _ bl0).mono ?_
   rintro e w2 ⟨A2, c2, rfl, hqq, hb2⟩
   have K2 : Below w.heap.size w w2 := kept_call hb2 bl1
   have Z2 := K2.size
   clear hb2 K1
   have HQQ := hYd hqq; clear hqq
   go_wp2
   go_ret2
   exact ⟨A2, c2, _, by rw [lE_ok HC0.out (by omega)]; rfl, HQQ.out, .inr ⟨lE_ok HC0.out (by omega), HC0.out, by omega, ps, HPX.out, rfl⟩, bl1⟩
end Go.Proofs.YtlnboheahbfgfaaGreat
