/- Lemmas. -/
import Derived.Laws.RangeAny
import Derived.Laws.RangeString
import Derived.Test.YtiinmhfolfgobaaGreatDoorJ45
import Derived.Test.YtiinmhfolfgobaaGreatDoorJ21
import Derived.Test.YtiinmhfolfgobaaGreatDoorJ44
import Derived.Test.YtiinmhfolfgobaaGreatDoorJ27
set_option linter.unusedVariables false
set_option linter.unusedSimpArgs false
namespace Go.Proofs.YtiinmhfolfgobaaGreatDoor
open Go.RowKit Go.Lib Go.Shelf Go.Sort
set_option maxHeartbeats 160000000
set_option maxRecDepth 100000
theorem KsAt.samek {cs cb : Array Value} {l : List Kw} (h : KsAt cs cb l) {q : Nat} (hq : q < l.length) : setArr cb (q * 6) (l.getD q (false, .zero)).2.cs = cb := by
 have hk : (l.getD q (false, .zero)).2.cs.length = 6 := rfl
 refine Array.ext_getElem? fun i => ?_
 rw [setArr_get _ _ _ _ (by rw [hk, h.2.1]; omega), hk]
 split
 ·rename_i e
  have h9 := (h.2.2 q hq).2 (i - q * 6) Yo
  rw [← h9]; congr 1; omega
 ·rfl
theorem atT_lo (t1 t2 t3 t4 er p : Int) : -9223372036854775807 ≤ (atT t1 t2 t3 t4 er p).1 ∧ -9223372036854775807 ≤ (atT t1 t2 t3 t4 er p).2.1 := by
 unfold atT
 split
 ·split
  ·rename_i h2
   simp only [Bool.and_eq_true] at h2
   have h3 := vT_true.1 h2.1.2; have h4 := vT_true.1 h2.2
   split
   ·exact ⟨show _ ≤ (0 : Int) by decide, show _ ≤ (0 : Int) by decide⟩
   ·exact ⟨by dsimp only; omega, by dsimp only; omega⟩
  ·exact ⟨show _ ≤ (0 : Int) by decide, show _ ≤ (0 : Int) by decide⟩
 ·exact ⟨show _ ≤ (0 : Int) by decide, show _ ≤ (0 : Int) by decide⟩
theorem any_set {l : List Kw} {q : Nat} (h : q < l.length) (k : K6) : (l.set q (true, k)).any (·.1) = true := by
 rw [List.any_eq_true]
 exact ⟨(true, k), List.mem_iff_getElem.2 ⟨q, by simpa using h, by simp⟩, rfl⟩
theorem rsampleB_any (B g : Nat) (b : Bn) (A : Option Addr) (cap : Nat) (n0 t1 t2 t3 t4 er9 : Int) (w : World) (h : RbAt B w g b) (hn : NumsR w A 6 [n0, t1, t2, t3, t4, er9]) (hl : b.out.length ≤ 900000) (hn8 : b.srcs.length ≤ 8) :
  Calls Tryz.prog 82 #[.pointer (some ⟨g, 0, none⟩), .slice A 6 cap] w (RnR B g w (b.sample n0 t1 t2 t3 t4 er9)) := by
 obtain ⟨gm, curN, rfl, hNb0, hNc⟩ := hn.2 Yo
 have hgm := hNb0.lt
 have hc0 : curN[0]? = some (.int .i64 n0) := hNc 0 Yo
 have HC0 := Yh hc0
 have hc1 : curN[1]? = some (.int .i64 t1) := hNc 1 Yo
 have HC1 := Yh hc1
 have hc2 : curN[2]? = some (.int .i64 t2) := hNc 2 Yo
 have HC2 := Yh hc2
 have hc3 : curN[3]? = some (.int .i64 t3) := hNc 3 Yo
 have HC3 := Yh hc3
 have hc4 : curN[4]? = some (.int .i64 t4) := hNc 4 Yo
 have HC4 := Yh hc4
 have hc5 : curN[5]? = some (.int .i64 er9) := hNc 5 Yo
 have HC5 := Yh hc5
 have cA0 := (hNb0.cell 0).trans hc0
 have HNB := Yh hNb0; have HH := Yh h
 obtain ⟨hBg, hz, VS, VK, e1, hrows⟩ := HH.out
 have HZ := Yh hz; have HRW := Yh hrows
 have hmg : gm ≠ g := Blk.ne HNB.out e1 Yd
 have hgl := e1.lt
 have cP := e1.cell
 unfold rbC at cP
 have HE1 := Yh e1
 clear h hn hNc hNb0 hc0 hc1 hc2 hc3 hc4 hc5 e1 hz hrows
 by_cases h0 : n0 < 0
 ·have c0 : decide (n0 < 0) = true := decide_eq_true h0
  have hr : b.sample n0 t1 t2 t3 t4 er9 = (b, 4) := by unfold Bn.sample; rw [if_neg Yo]
  rw [hr]
  clear hr
  go_enter Tryz.func82, Tryz.ntmps82
  go_wp2_with fail
  go_quiet (fail)
  go_wp2
  go_ret
  exact ⟨rfl, HH.out.below (below_drewN Yl _), PastT.below (below_drewN Yl _)⟩
 have c0 : decide (n0 < 0) = false := decide_eq_false h0
 obtain ⟨ns, hns⟩ : ∃ k, b.srcs.length = k := ⟨_, rfl⟩
 simp only [hns] at cP hn8
 by_cases h1 : n0 ≥ (ns : Int)
 ·have c1 : decide (n0 ≥ (ns : Int)) = true := decide_eq_true h1
  have c1' : decide ((ns : Int) ≤ n0) = true := c1
  have hr : b.sample n0 t1 t2 t3 t4 er9 = (b, 4) := by unfold Bn.sample; rw [if_neg Yo]
  rw [hr]
  clear hr
  go_enter Tryz.func82, Tryz.ntmps82
  go_wp2_with fail
  go_quiet (fail)
  go_wp2
  go_ret
  exact ⟨rfl, HH.out.below (below_drewN Yl _), PastT.below (below_drewN Yl _)⟩
 have c1 : decide (n0 ≥ (ns : Int)) = false := decide_eq_false h1
 have c1' : decide ((ns : Int) ≤ n0) = false := c1
 obtain ⟨q, rfl⟩ : ∃ q : Nat, n0 = (q : Int) := ⟨n0.toNat, Yo⟩
 have hql : q < ns := by omega
 have c1n : decide (ns ≤ q) = false := Y3
 have gq : decide ((q : Int) < (ns : Int)) = true := Y2
 have gqn : decide (q < ns) = true := decide_eq_true hql
 rcases HRW.out with ⟨hnil, -, -⟩ | ⟨gs, gk, cs, cb, rfl, rfl, bgs, bgk, hSb, hKb, hks⟩
 ·rw [hnil] at hns; simp at hns; omega
 have HSB := Yh hSb; have HKB := Yh hKb; have HKS := Yh hks
 have hsl := hSb.lt; have hkl := hKb.lt
 have hsm : gs ≠ gm := Blk.ne hSb HNB.out Yd
 have hsg : gs ≠ g := Blk.ne hSb HE1.out Yd
 have hkm : gk ≠ gm := Blk.ne hKb HNB.out Yd
 have hkg : gk ≠ g := Blk.ne hKb HE1.out Yd
 have hsk : gs ≠ gk := Blk.ne hSb hKb Yd
 have hr : b.sample (q : Int) t1 t2 t3 t4 er9 = b.heard q t4 (atT t1 t2 t3 t4 er9 b.p) := by unfold Bn.sample; rw [if_pos Yo]
 have RA := Yh (fun W => atT_V t1 t2 t3 t4 er9 b.p ▸ rat_any t1 t2 t3 t4 er9 b.p W)
 have hab := atT_b t1 t2 t3 t4 er9 b.p
 have hlo := atT_lo t1 t2 t3 t4 er9 b.p
 obtain ⟨a, ha⟩ : ∃ a, atT t1 t2 t3 t4 er9 b.p = a := ⟨_, rfl⟩
 rw [ha] at hr hab hlo
 rw [hr]
 replace RA := Yh (fun W => ha ▸ RA.out W)
 obtain ⟨a0, a1, ae⟩ := a
 obtain ⟨hae, ha0, ha1⟩ := hab
 dsimp only at hae ha0 ha1 hlo
 unfold V3 at RA
 dsimp only at RA
 have HAE := Yh hae; have HA := Yh (Ya (Ya ha0 ha1) hlo)
 have HNS := Yh hns
 clear hr ha hae ha0 ha1 hlo hSb hKb hks HRW
 go_enter Tryz.func82, Tryz.ntmps82
 go_wp2_with fail
 go_quiet (fail)
 go_upto_region 4 with fail
 clear cA0 cP
 have bP := HE1.out; have bN := HNB.out; have bS := HSB.out; have bK := HKB.out
 unfold rbC at bP
 simp only [hns] at bP HSB
 clear hns
 obtain ⟨cP, fP, lP, eP, kP⟩ := Yf bP
 obtain ⟨cN, fN, lN, eN, kN⟩ := Yf bN
 obtain ⟨cS, fS, lS, eS, kS⟩ := Yf bS
 obtain ⟨cK, fK, lK, eK, kK⟩ := Yf bK
 refine' wp_region_calmD Yr (fun D u9 w' => Past [] w w' ∧ Blk w' (g) 100 #[.bool b.begun, .bool (b.srcs.any (·.1)), .int .i64 (ns : Int), .int .i64 b.li, .int .i64 b.p, .slice (some ⟨gs, 0, none⟩) ns ns, .slice (some ⟨gk, 0, none⟩) ns ns, .int .i64 b.ck.aim, .int .i64 b.ck.rate, .bool b.ck.set, .bool b.ck.held, .int .i64 b.ck.at_, .int .i64 b.ck.shown, .string ⟨b.out.toArray⟩] ∧ Blk w' (gm) 3 curN ∧ Blk w' (gs) 4 cs ∧ Blk w' (gk) 44 cb ∧ NewD w.heap.size 40 #[.int .i64 0, .int .i64 0] #[.int .i64 a0, .int .i64 a1] (D 24) (D 25) (u9 24) w' ∧ w.heap.size ≤ w'.heap.size) (fun _ _ => True) [Is _, Is _, Is _, Is _, Is _, Is _, Is _, Is _, Is _, Is _, Is _, Is _, Is _, Is _, Is _, Is _, Is _, Is _, Is _, Is _, Is _, Is _, Is _, Is _, (fun _ _ _ => True), (fun _ _ _ => True), Is _] [[], [0], [1], [], [3], [4], [], [6], [7], [], [9], [10], [], [12], [13], [2, 5, 8, 11, 14], [], [16], [17], [18], [15, 19], [20], [21], [21], [], [24, 22], [23]] rfl (calmB_of Yr) Yp ?_ (Y1 (Y1 (Y1 (Y1 (Y1 (Y1 (Y1 (Y1 (Y1 (Y1 (Y1 (Y1 (Y1 (Y1 (Y1 (Y1 (Y1 (Y1 (Y1 (Y1 (Y1 (Y1 (Y1 (Y1 (Y0 (Y0 (Y1 Yn))))))))))))))))))))))))))) ?_ ?_
 ·exact ⟨pa1, bn1, bn1, bn1, bn1, NewD.start _, (by first | exact Nat.le_refl _ | omega | (simp <;> omega))⟩
 rotate_left 25
 ·skip
  iterate 2 refine zq2 ?_
  iterate 18 refine zq3 (fun _ _ _ _ _ _ ⟨_, mP, mN, mS, mK, _⟩ => Ya ((mN.cell 0).trans HC0.out) (Ya ((mN.cell 1).trans HC1.out) (Ya ((mN.cell 2).trans HC2.out) (Ya ((mN.cell 3).trans HC3.out) (Ya ((mN.cell 4).trans HC4.out) (Ya ((mN.cell 5).trans HC5.out) (Ya (Yq mP) (Ya (Yq mN) (Ya (Yq mS) (Yq mK)))))))))) ?_
  refine dc1 (fun uu wq D hC hk K hK => ?_) ?_
  ·obtain ⟨hP, mP, mN, mS, mK, nA, hZ⟩ := hC
   simp only [calmKnown, lg0, lg1, and_true, Is, Pure, osj, ld0, ld1, lm1, lm0] at hk
   obtain ⟨h15, h19⟩ := hk
   simp only [h15, h19] at hK ⊢
   have H15 := Yh h15; clear h15; have H19 := Yh h19; clear h19
   first
    | (refine' calm_op ?_ ?_; rfl; go_simp; (first | (with_reducible refine (RA.out _).mono ?_)); rintro e w2 ⟨rfl, hbl⟩; exact hK _ _ _ rfl ⟨hP.call hbl, Yk hbl mP, Yk hbl mN, Yk hbl mS, Yk hbl mK, nA.below hbl, Nat.le_trans hZ hbl.size⟩ trivial rfl)
    | (go_simp; exact hK _ _ _ rfl ⟨hP, mP, mN, mS, mK, nA, hZ⟩ trivial rfl)
  iterate 3 refine zq2 ?_
  refine dc2 (fun uu wq D hd hn hn2 hC hk K hK => ?_) ?_
  ·obtain ⟨hP, mP, mN, mS, mK, nA, hZ⟩ := hC
   clear hk
   have d25 := hn.out 25 Yr
   go_simp
   exact hK _ _ _ rfl ⟨hP.allocs _, mP.alloc _, mN.alloc _, mS.alloc _, mK.alloc _, NewD.made hZ d25, Nat.le_trans hZ Ys⟩ trivial trivial
  refine dc2 (fun uu wq D hd hn hn2 hC hk K hK => ?_) ?_
  ·obtain ⟨hP, mP, mN, mS, mK, nA, hZ⟩ := hC
   simp only [calmKnown, lg0, lg1, and_true, Is, Pure, osj, ld0, ld1, lm1, lm0] at hk
   obtain ⟨-, h22⟩ := hk
   simp only [h22] at hK ⊢
   have H22 := Yh h22; clear h22
   have da : D 24 = true := hn2.out 24 Yr
   obtain ⟨gn, hgn, gb, gl, hB⟩ := nA.one da hd
   simp only [hgn] at hK ⊢
   have hc9 := hB.cell; have hf9 := hB.frozen
   have hB2 := setAll_blk [.int .i64 a0, .int .i64 a1] 0 wq _ hB
   simp only [setArr, lst, ls0, ls1, Nat.zero_add, Nat.reduceAdd] at hB2
   go_simp
   exact hK _ undef (setAll wq gn 0 [.int .i64 a0, .int .i64 a1]) rfl ⟨(setAll_past gb [.int .i64 a0, .int .i64 a1] 0 wq hP), setAll_far (show g ≠ gn by first | omega | (simp <;> omega)) [.int .i64 a0, .int .i64 a1] 0 wq mP, setAll_far (show gm ≠ gn by first | omega | (simp <;> omega)) [.int .i64 a0, .int .i64 a1] 0 wq mN, setAll_far (show gs ≠ gn by first | omega | (simp <;> omega)) [.int .i64 a0, .int .i64 a1] 0 wq mS, setAll_far (show gk ≠ gn by first | omega | (simp <;> omega)) [.int .i64 a0, .int .i64 a1] 0 wq mK, (show NewD _ _ _ _ (D 24) true (uu 24) _ from by rw [hgn]; exact NewD.stored gb hB2), (by rw [setAll_size]; exact hZ)⟩ trivial trivial
  refine zq2 ?_
  exact dSteps_nil
 ·intro uu v1 D hD hC hF
  obtain ⟨hP, mP, mN, mS, mK, nA, hZ⟩ := hC
  simp only [calmFacts, Is, and_true, true_and] at hF
  obtain ⟨f0, f1, f2, f3, f4, f5, f6, f7, f8, f9, f10, f11, f12, f13, f14, f15, f16, f17, f18, f19, f20, f21, f22, f23, f26⟩ := hF
  simp only [f0, f1, f2, f3, f4, f5, f6, f7, f8, f9, f10, f11, f12, f13, f14, f15, f16, f17, f18, f19, f20, f21, f22, f23, f26]
  obtain ⟨gA, e9A, gbA, glA, bA'⟩ := nA.last (hD 24 Yd) (hD 25 Yd)
  simp only [e9A]
  clear e9A
  have hq := hP; clear hP
  have Kv1 : Past [] w v1 := Past.trans (Past.refl _ _) hq
  have Zv1 := hZ; clear hZ
  clear hq
  clear bP cP fP lP eP kP; have bP := mP
  clear bN cN fN lN eN kN; have bN := mN
  clear bS cS fS lS eS kS; have bS := mS
  clear bK cK fK lK eK kK; have bK := mK
  clear mP mN mS mK nA hD
  have bA := bA'; clear bA'
  obtain ⟨cP, fP, lP, eP, kP⟩ := Yf bP
  obtain ⟨cN, fN, lN, eN, kN⟩ := Yf bN
  obtain ⟨cS, fS, lS, eS, kS⟩ := Yf bS
  obtain ⟨cK, fK, lK, eK, kK⟩ := Yf bK
  obtain ⟨cA, fA, lA, eA, kA⟩ := Yf bA
  have oA := lA
  clear RA
  by_cases h9ae : ae = 0
  rotate_left 1
  ·skip
   have g1 : (ae == 0) = false := by simpa using h9ae
   have g3 : (ae != 0) = true := by simpa using h9ae
   go_wp2_with fail
   refine (rfailed_any B g b ae _ ((HH.out.below (Past.toBelow Kv1)).below bl0) HAE.out hl).mono ?_
   rintro e9 w6 ⟨rfl, h6, hT6⟩
   go_wp2
   go_ret
   rw [show b.heard q t4 (a0, a1, ae) = b.tell ae from if_neg h9ae]
   exact ⟨rfl, h6, (PastT.below (Yc (show Below v1.heap.size v1 _ from bl0) (Past.toBelow Kv1))).trans hT6⟩
  subst h9ae
  obtain ⟨kv, hkv⟩ : ∃ kv, b.srcs.getD q (false, .zero) = kv := ⟨_, rfl⟩
  have hrr : b.heard q t4 (a0, a1, 0) = b.took q a0 a1 (learnK kv t4 a0 a1 b.p) := by unfold Bn.heard; rw [if_pos rfl]; simp only [Int.toNat_natCast]; rw [hkv]
  have HRR := Yh hrr
  have hlb := learnK_b kv t4 a0 a1 b.p
  obtain ⟨hc1, hc2⟩ := HKS.out.2.2 q (by rw [HNS.out]; exact hql)
  have hput := fun k => HKS.out.put (q := q) (by rw [HNS.out]; exact hql) k
  have hsame := HKS.out.same (q := q) (by rw [HNS.out]; exact hql)
  have hsamek := HKS.out.samek (q := q) (by rw [HNS.out]; exact hql)
  have hzq := HZ.out q
  rw [hkv] at hc1 hc2 hsame hsamek hzq
  have HPUT := Yh hput; have HSAME := Yh hsame; have HSAMEK := Yh hsamek; have HKV := Yh hkv; have HLB := Yh hlb; have HZQ := Yh hzq
  clear hput hsame hsamek hkv hrr hlb hzq
  obtain ⟨kb, na, nlo, nhi, np, nle, nre⟩ := kv
  have q0 := hc2 0 Yo; have q1 := hc2 1 Yo; have q2 := hc2 2 Yo; have q3 := hc2 3 Yo; have q4 := hc2 4 Yo; have q5 := hc2 5 Yo
  simp only [K6.cs, lg0, lg1, Nat.add_zero] at q0 q1 q2 q3 q4 q5
  dsimp only at hc1
  clear hc2
  have HT1 := Yh (show Below w.heap.size w v1 from Past.toBelow Kv1)
  have HP1 := Yh bP; have HS1 := Yh bS; have HK1 := Yh bK
  have HC1 := Yh hc1
  clear Kv1 hc1
  obtain ⟨O, hO⟩ : ∃ O, b.out = O := ⟨_, rfl⟩
  have HO := Yh hO
  have HLO := Yh (hO ▸ hl : O.length ≤ 900000)
  clear hO
  have hOX : b.out = O := HO.out
  simp only [hOX] at bP
  clear hOX
  clear cP fP lP eP kP
  obtain ⟨cP, fP, lP, eP, kP⟩ := Yf bP
  have hcs9 := HC1.out
  go_upto_if 65 with fail
  go_cut [7, 8] (fun e wd wx => ∃ (me : Int) (mok : Bool) (nk : K6), e = .int .i64 me ∧ wd = .string ⟨(if mok then wLearnt else wRefused).toArray⟩ ∧ learnK (kb, ⟨na, nlo, nhi, np, nle, nre⟩) t4 a0 a1 b.p = (me, mok, nk) ∧ Past [g, gs, gk] v1 wx ∧ Blk wx g 100 #[.bool b.begun, .bool (b.srcs.any (·.1)), .int .i64 (ns : Int), .int .i64 b.li, .int .i64 b.p, .slice (some ⟨gs, 0, none⟩) ns ns, .slice (some ⟨gk, 0, none⟩) ns ns, .int .i64 b.ck.aim, .int .i64 b.ck.rate, .bool b.ck.set, .bool b.ck.held, .int .i64 b.ck.at_, .int .i64 b.ck.shown, .string ⟨O.toArray⟩] ∧ Blk wx gs 4 cs ∧ Blk wx gk 44 (if me = 0 then setArr cb (q * 6) nk.cs else cb) ∧ Blk wx gA 40 #[.int .i64 a0, .int .i64 a1])
  case first =>
   cases kb with
   | false =>
    have rb := fun W => begK_V t4 a0 a1 b.p ▸ rbegin_any t4 a0 a1 b.p W
    obtain ⟨e1, he1⟩ : ∃ e, kE t4 a0 a1 b.p 0 0 = e := ⟨_, rfl⟩
    obtain ⟨nk, hnk⟩ : ∃ nk, begK t4 a0 a1 b.p = nk := ⟨_, rfl⟩
    have hzk : e1 ≠ 0 → nk = .zero := fun h => by rw [← hnk]; unfold begK; rw [if_neg (by rw [he1]; exact h)]
    have hlk : learnK (false, ⟨na, nlo, nhi, np, nle, nre⟩) t4 a0 a1 b.p = (e1, true, nk) := by rw [← he1, ← hnk]; rfl
    rw [he1, hnk] at rb
    obtain ⟨m0, m1, m2, m3, m4, m5⟩ := nk
    simp only [K6.cs] at rb
    have RB1 := Yh rb; have HZK := Yh hzk; have HLK := Yh hlk
    clear rb hzk hlk he1 hnk
    simp only [Bool.not_false]
    go_upto_region 9 with fail
    clear hcs9
    refine' wp_region_calmD Yr (fun D u9 w' => Past [g, gs, gk] v1 w' ∧ Blk w' (g) 100 #[.bool b.begun, .bool (b.srcs.any (·.1)), .int .i64 (ns : Int), .int .i64 b.li, .int .i64 b.p, .slice (some ⟨gs, 0, none⟩) ns ns, .slice (some ⟨gk, 0, none⟩) ns ns, .int .i64 b.ck.aim, .int .i64 b.ck.rate, .bool b.ck.set, .bool b.ck.held, .int .i64 b.ck.at_, .int .i64 b.ck.shown, .string ⟨O.toArray⟩] ∧ Blk w' (gm) 3 curN ∧ Blk w' (gs) 4 cs ∧ (D 18 = false → Blk w' (gk) 44 cb) ∧ (D 18 = true → Blk w' (gk) 44 (setArr cb (q * 6) [.int .i64 m0, .int .i64 m1, .int .i64 m2, .int .i64 m3, .int .i64 m4, .int .i64 m5])) ∧ Blk w' (gA) 40 #[.int .i64 a0, .int .i64 a1] ∧ v1.heap.size ≤ w'.heap.size) (fun _ _ => True) [Is _, Is _, Is _, Is _, Is _, Is _, Is _, Is _, Is _, Is _, Is _, Is _, Is _, Is _, Is _, Is _, Is _, Is _, (fun _ _ _ => True), Is _] [[], [0], [1], [2], [], [], [5], [6], [], [], [9], [10], [11], [7, 8, 12], [13], [14], [14], [3, 4], [17, 15], [16]] rfl (calmB_of Yr) Yp ?_ (Y1 (Y1 (Y1 (Y1 (Y1 (Y1 (Y1 (Y1 (Y1 (Y1 (Y1 (Y1 (Y1 (Y1 (Y1 (Y1 (Y1 (Y1 (Y0 (Y1 Yn)))))))))))))))))))) ?_ ?_
    ·exact ⟨pa1, bn1, bn1, bn1, (fun _ => bn1), (fun h => by cases h), bn1, (by first | exact Nat.le_refl _ | omega | (simp <;> omega))⟩
    rotate_left 19
    ·skip
     iterate 3 refine zq2 ?_
     refine zq3 (fun _ _ _ _ hn _ ⟨_, mP, mN, mS, mK, _, mA, _⟩ => have hB := mK (hn 18 Yr); Ya ((mN.cell 4).trans HC4.out) (Ya (Yq mP) (Ya (Yq mN) (Ya (Yq mS) (Ya (Yq mA) (Ya hB (Yq hB))))))) ?_
     iterate 3 refine zq2 ?_
     refine zq3 (fun _ _ _ _ hn _ ⟨_, mP, mN, mS, mK, _, mA, _⟩ => have hB := mK (hn 18 Yr); Ya ((mN.cell 4).trans HC4.out) (Ya (Yq mP) (Ya (Yq mN) (Ya (Yq mS) (Ya (Yq mA) (Ya hB (Yq hB))))))) ?_
     refine zq3 (fun _ _ _ _ hn _ ⟨_, mP, mN, mS, mK, _, mA, _⟩ => have hB := mK (hn 18 Yr); Ya ((mN.cell 4).trans HC4.out) (Ya (Yq mP) (Ya (Yq mN) (Ya (Yq mS) (Ya (Yq mA) (Ya hB (Yq hB))))))) ?_
     iterate 3 refine zq2 ?_
     refine zq3 (fun _ _ _ _ hn _ ⟨_, mP, mN, mS, mK, _, mA, _⟩ => have hB := mK (hn 18 Yr); Ya ((mN.cell 4).trans HC4.out) (Ya (Yq mP) (Ya (Yq mN) (Ya (Yq mS) (Ya (Yq mA) (Ya hB (Yq hB))))))) ?_
     refine dc1 (fun uu wq D hC hk K hK => ?_) ?_
     ·obtain ⟨hP, mP, mN, mS, mK, yK, mA, hZ⟩ := hC
      simp only [calmKnown, lg0, lg1, and_true, Is, Pure, osj, ld0, ld1, lm1, lm0] at hk
      obtain ⟨h7, h8, h12⟩ := hk
      simp only [h7, h8, h12] at hK ⊢
      have H7 := Yh h7; clear h7; have H8 := Yh h8; clear h8; have H12 := Yh h12; clear h12
      first
       | (refine' calm_op ?_ ?_; rfl; go_simp; (first | (with_reducible refine (RB1.out _).mono ?_)); rintro e w2 ⟨rfl, hbl⟩; exact hK _ _ _ rfl ⟨hP.call hbl, Yk hbl mP, Yk hbl mN, Yk hbl mS, (fun h => Yk hbl (mK h)), (fun h => Yk hbl (yK h)), Yk hbl mA, Nat.le_trans hZ hbl.size⟩ trivial rfl)
       | (go_simp; exact hK _ _ _ rfl ⟨hP, mP, mN, mS, mK, yK, mA, hZ⟩ trivial rfl)
     iterate 4 refine zq2 ?_
     refine dSteps_cons (fun uu wq D hd hn hn2 hC hk K hK => ?_) ?_
     ·obtain ⟨hP, mP, mN, mS, mK, yK, mA, hZ⟩ := hC
      clear hn hn2
      simp only [calmKnown, lg0, lg1, and_true, Is, Pure, osj, ld0, ld1, lm1, lm0] at hk
      obtain ⟨h17, h15⟩ := hk
      simp only [h17, h15] at hK ⊢
      have H17 := Yh h17; clear h17; have H15 := Yh h15; clear h15
      have hB := mK hd
      have hc9 := hB.cell; have hf9 := hB.frozen; have hl9 := hB.lt
      have hB2 := setAll_blk [.int .i64 m0, .int .i64 m1, .int .i64 m2, .int .i64 m3, .int .i64 m4, .int .i64 m5] (q * 6) wq _ hB
      go_simp
      exact hK _ undef (setAll wq (gk) (q * 6) [.int .i64 m0, .int .i64 m1, .int .i64 m2, .int .i64 m3, .int .i64 m4, .int .i64 m5]) rfl ⟨(setAll_pastX Ys [.int .i64 m0, .int .i64 m1, .int .i64 m2, .int .i64 m3, .int .i64 m4, .int .i64 m5] (q * 6) wq hP), setAll_far (show g ≠ gk by first | omega | (simp <;> omega)) [.int .i64 m0, .int .i64 m1, .int .i64 m2, .int .i64 m3, .int .i64 m4, .int .i64 m5] (q * 6) wq mP, setAll_far (show gm ≠ gk by first | omega | (simp <;> omega)) [.int .i64 m0, .int .i64 m1, .int .i64 m2, .int .i64 m3, .int .i64 m4, .int .i64 m5] (q * 6) wq mN, setAll_far (show gs ≠ gk by first | omega | (simp <;> omega)) [.int .i64 m0, .int .i64 m1, .int .i64 m2, .int .i64 m3, .int .i64 m4, .int .i64 m5] (q * 6) wq mS, (fun h => by cases h), (fun _ => hB2), setAll_far (show gA ≠ gk by first | omega | (simp <;> omega)) [.int .i64 m0, .int .i64 m1, .int .i64 m2, .int .i64 m3, .int .i64 m4, .int .i64 m5] (q * 6) wq mA, (by rw [setAll_size]; exact hZ)⟩ trivial trivial
     refine zq2 ?_
     exact dSteps_nil
    ·intro uu v2 D hD hC hF
     obtain ⟨hP, mP, mN, mS, mK, yK, mA, hZ⟩ := hC
     simp only [calmFacts, Is, and_true, true_and] at hF
     obtain ⟨f0, f1, f2, f3, f4, f5, f6, f7, f8, f9, f10, f11, f12, f13, f14, f15, f16, f17, f19⟩ := hF
     simp only [f0, f1, f2, f3, f4, f5, f6, f7, f8, f9, f10, f11, f12, f13, f14, f15, f16, f17, f19]
     have bbK := yK (hD 18 Yd)
     have hq := hP; clear hP
     have Kv2 : Past [g, gs, gk] v1 v2 := Past.trans (Past.refl _ _) hq
     have Zv2 := hZ; clear hZ
     clear hq
     clear bP cP fP lP eP kP; have bP := mP
     clear bN cN fN lN eN kN; have bN := mN
     clear bS cS fS lS eS kS; have bS := mS
     clear bK cK fK lK eK kK; have bK := bbK
     clear bA cA fA lA eA kA; have bA := mA
     clear mP mN mS mK mA yK bbK hD
     obtain ⟨cP, fP, lP, eP, kP⟩ := Yf bP
     obtain ⟨cN, fN, lN, eN, kN⟩ := Yf bN
     obtain ⟨cS, fS, lS, eS, kS⟩ := Yf bS
     obtain ⟨cK, fK, lK, eK, kK⟩ := Yf bK
     obtain ⟨cA, fA, lA, eA, kA⟩ := Yf bA
     have bK9 : Blk v2 gk 44 (if e1 = 0 then setArr cb (q * 6) (⟨m0, m1, m2, m3, m4, m5⟩ : K6).cs else cb) := by
      by_cases h9 : e1 = 0
      ·rw [if_pos h9]; exact bK
      ·rw [if_neg h9]
       have h7 := HSAMEK.out
       rw [HZQ.out rfl] at h7
       have h8 : (⟨m0, m1, m2, m3, m4, m5⟩ : K6) = .zero := HZK.out h9
       have h6 : Blk v2 gk 44 (setArr cb (q * 6) (⟨m0, m1, m2, m3, m4, m5⟩ : K6).cs) := bK
       rw [h8] at h6
       rw [h7] at h6
       exact h6
     go_wp2
     go_meet
     exact ⟨e1, true, (⟨m0, m1, m2, m3, m4, m5⟩ : K6), rfl, rfl, HLK.out, pa1, bP, bS, bK9, bA⟩
   | true =>
    have rl := rlearn_any na nlo nhi np nle nre t4 a0 a1
    obtain ⟨nk, hnk⟩ : ∃ nk, lrn na nlo nhi np nle nre t4 a0 a1 = nk := ⟨_, rfl⟩
    have hlk : learnK (true, ⟨na, nlo, nhi, np, nle, nre⟩) t4 a0 a1 b.p = (nk.e, nk.ok, kOf nk) := by rw [← hnk]; rfl
    rw [hnk] at rl
    obtain ⟨m0, m1, m2, m3, m4, m5, mok, me⟩ := nk
    simp only [Lrn.V, V6] at rl
    dsimp only [kOf] at hlk
    have RL := Yh rl; have HLK := Yh hlk
    clear rl hlk hnk
    have HQ := Yh (Ya q0 (Ya q1 (Ya q2 (Ya q3 (Ya q4 q5)))))
    clear q0 q1 q2 q3 q4 q5
    simp only [Bool.not_true]
    go_upto_region 10 with fail
    clear hcs9
    refine' wp_region_calmD Yr (fun D u9 w' => Past [g, gs, gk] v1 w' ∧ Blk w' (g) 100 #[.bool b.begun, .bool (b.srcs.any (·.1)), .int .i64 (ns : Int), .int .i64 b.li, .int .i64 b.p, .slice (some ⟨gs, 0, none⟩) ns ns, .slice (some ⟨gk, 0, none⟩) ns ns, .int .i64 b.ck.aim, .int .i64 b.ck.rate, .bool b.ck.set, .bool b.ck.held, .int .i64 b.ck.at_, .int .i64 b.ck.shown, .string ⟨O.toArray⟩] ∧ Blk w' (gm) 3 curN ∧ Blk w' (gs) 4 cs ∧ Blk w' (gk) 44 cb ∧ Blk w' (gA) 40 #[.int .i64 a0, .int .i64 a1] ∧ NewD v1.heap.size 44 #[.int .i64 0, .int .i64 0, .int .i64 0, .int .i64 0, .int .i64 0, .int .i64 0] #[.int .i64 m0, .int .i64 m1, .int .i64 m2, .int .i64 m3, .int .i64 m4, .int .i64 m5] (D 16) (D 17) (u9 16) w' ∧ v1.heap.size ≤ w'.heap.size) (fun _ _ => True) [Is _, Is _, Is _, Is _, Is _, Is _, Is _, Is _, Is _, Is _, Is _, Is _, Is _, Is _, Is _, Is _, (fun _ _ _ => True), (fun _ _ _ => True), Is _, Is _] [[], [0], [1], [2], [], [3, 4], [5], [], [7], [8], [], [6, 9, 10], [11], [12], [12], [12], [], [16, 13], [14], [15]] rfl (calmB_of Yr) Yp ?_ (Y1 (Y1 (Y1 (Y1 (Y1 (Y1 (Y1 (Y1 (Y1 (Y1 (Y1 (Y1 (Y1 (Y1 (Y1 (Y1 (Y0 (Y0 (Y1 (Y1 Yn)))))))))))))))))))) ?_ ?_
    ·exact ⟨pa1, bn1, bn1, bn1, bn1, bn1, NewD.start _, (by first | exact Nat.le_refl _ | omega | (simp <;> omega))⟩
    rotate_left 18
    ·skip
     iterate 3 refine zq2 ?_
     refine dc1 (fun uu wq D hC hk K hK => ?_) ?_
     ·obtain ⟨hP, mP, mN, mS, mK, mA, nT9, hZ⟩ := hC
      simp only [calmKnown, lg0, lg1, and_true, Is, Pure, osj, ld0, ld1, lm1, lm0] at hk
      have h2 := hk; clear hk
      simp only [h2] at hK ⊢
      have H2 := Yh h2; clear h2
      have z4 := (mN.cell 4).trans HC4.out
      obtain ⟨q0, q1, q2, q3, q4, q5⟩ := HQ.out; have d0 := (mK.cell (q * 6)).trans q0; have d1 := (mK.cell (q * 6 + 1)).trans q1; have d2 := (mK.cell (q * 6 + 2)).trans q2; have d3 := (mK.cell (q * 6 + 3)).trans q3; have d4 := (mK.cell (q * 6 + 4)).trans q4; have d5 := (mK.cell (q * 6 + 5)).trans q5; clear q0 q1 q2 q3 q4 q5
      have cP := mP.cell; have lP := mP.lt
      have cN := mN.cell; have lN := mN.lt
      have cS := mS.cell; have lS := mS.lt
      have cK := mK.cell; have lK := mK.lt
      have cA := mA.cell; have lA := mA.lt
      go_simp
      exact hK _ _ _ rfl ⟨hP, mP, mN, mS, mK, mA, nT9, hZ⟩ trivial rfl
     iterate 2 refine zq2 ?_
     refine dc1 (fun uu wq D hC hk K hK => ?_) ?_
     ·obtain ⟨hP, mP, mN, mS, mK, mA, nT9, hZ⟩ := hC
      simp only [calmKnown, lg0, lg1, and_true, Is, Pure, osj, ld0, ld1, lm1, lm0] at hk
      have h5 := hk; clear hk
      simp only [h5] at hK ⊢
      have H5 := Yh h5; clear h5
      have z4 := (mN.cell 4).trans HC4.out
      obtain ⟨q0, q1, q2, q3, q4, q5⟩ := HQ.out; have d0 := (mK.cell (q * 6)).trans q0; have d1 := (mK.cell (q * 6 + 1)).trans q1; have d2 := (mK.cell (q * 6 + 2)).trans q2; have d3 := (mK.cell (q * 6 + 3)).trans q3; have d4 := (mK.cell (q * 6 + 4)).trans q4; have d5 := (mK.cell (q * 6 + 5)).trans q5; clear q0 q1 q2 q3 q4 q5
      have cP := mP.cell; have lP := mP.lt
      have cN := mN.cell; have lN := mN.lt
      have cS := mS.cell; have lS := mS.lt
      have cK := mK.cell; have lK := mK.lt
      have cA := mA.cell; have lA := mA.lt
      go_simp
      exact hK _ _ _ rfl ⟨hP, mP, mN, mS, mK, mA, nT9, hZ⟩ trivial rfl
     iterate 2 refine zq2 ?_
     refine dc1 (fun uu wq D hC hk K hK => ?_) ?_
     ·obtain ⟨hP, mP, mN, mS, mK, mA, nT9, hZ⟩ := hC
      simp only [calmKnown, lg0, lg1, and_true, Is, Pure, osj, ld0, ld1, lm1, lm0] at hk
      have h8 := hk; clear hk
      simp only [h8] at hK ⊢
      have H8 := Yh h8; clear h8
      have z4 := (mN.cell 4).trans HC4.out
      obtain ⟨q0, q1, q2, q3, q4, q5⟩ := HQ.out; have d0 := (mK.cell (q * 6)).trans q0; have d1 := (mK.cell (q * 6 + 1)).trans q1; have d2 := (mK.cell (q * 6 + 2)).trans q2; have d3 := (mK.cell (q * 6 + 3)).trans q3; have d4 := (mK.cell (q * 6 + 4)).trans q4; have d5 := (mK.cell (q * 6 + 5)).trans q5; clear q0 q1 q2 q3 q4 q5
      have cP := mP.cell; have lP := mP.lt
      have cN := mN.cell; have lN := mN.lt
      have cS := mS.cell; have lS := mS.lt
      have cK := mK.cell; have lK := mK.lt
      have cA := mA.cell; have lA := mA.lt
      go_simp
      exact hK _ _ _ rfl ⟨hP, mP, mN, mS, mK, mA, nT9, hZ⟩ trivial rfl
     refine dc0 (fun uu wq D hC K hK => ?_) ?_
     ·obtain ⟨hP, mP, mN, mS, mK, mA, nT9, hZ⟩ := hC
      have z4 := (mN.cell 4).trans HC4.out
      obtain ⟨q0, q1, q2, q3, q4, q5⟩ := HQ.out; have d0 := (mK.cell (q * 6)).trans q0; have d1 := (mK.cell (q * 6 + 1)).trans q1; have d2 := (mK.cell (q * 6 + 2)).trans q2; have d3 := (mK.cell (q * 6 + 3)).trans q3; have d4 := (mK.cell (q * 6 + 4)).trans q4; have d5 := (mK.cell (q * 6 + 5)).trans q5; clear q0 q1 q2 q3 q4 q5
      have cP := mP.cell; have lP := mP.lt
      have cN := mN.cell; have lN := mN.lt
      have cS := mS.cell; have lS := mS.lt
      have cK := mK.cell; have lK := mK.lt
      have cA := mA.cell; have lA := mA.lt
      go_simp
      exact hK _ _ _ rfl ⟨hP, mP, mN, mS, mK, mA, nT9, hZ⟩ trivial rfl
     refine dc1 (fun uu wq D hC hk K hK => ?_) ?_
     ·obtain ⟨hP, mP, mN, mS, mK, mA, nT9, hZ⟩ := hC
      simp only [calmKnown, lg0, lg1, and_true, Is, Pure, osj, ld0, ld1, lm1, lm0] at hk
      obtain ⟨h6, h9, h10⟩ := hk
      simp only [h6, h9, h10] at hK ⊢
      have H6 := Yh h6; clear h6; have H9 := Yh h9; clear h9; have H10 := Yh h10; clear h10
      first
       | (refine' calm_op ?_ ?_; rfl; go_simp; (first | (with_reducible refine (RL.out _).mono ?_)); rintro e w2 ⟨rfl, hbl⟩; exact hK _ _ _ rfl ⟨hP.call hbl, Yk hbl mP, Yk hbl mN, Yk hbl mS, Yk hbl mK, Yk hbl mA, nT9.below hbl, Nat.le_trans hZ hbl.size⟩ trivial rfl)
       | (go_simp; exact hK _ _ _ rfl ⟨hP, mP, mN, mS, mK, mA, nT9, hZ⟩ trivial rfl)
     iterate 4 refine zq2 ?_
     refine dc2 (fun uu wq D hd hn hn2 hC hk K hK => ?_) ?_
     ·obtain ⟨hP, mP, mN, mS, mK, mA, nT9, hZ⟩ := hC
      clear hk
      have d17 := hn.out 17 Yr
      go_simp
      exact hK _ _ _ rfl ⟨hP.allocs _, mP.alloc _, mN.alloc _, mS.alloc _, mK.alloc _, mA.alloc _, NewD.made hZ d17, Nat.le_trans hZ Ys⟩ trivial trivial
     refine dc2 (fun uu wq D hd hn hn2 hC hk K hK => ?_) ?_
     ·obtain ⟨hP, mP, mN, mS, mK, mA, nT9, hZ⟩ := hC
      simp only [calmKnown, lg0, lg1, and_true, Is, Pure, osj, ld0, ld1, lm1, lm0] at hk
      obtain ⟨-, h13⟩ := hk
      simp only [h13] at hK ⊢
      have H13 := Yh h13; clear h13
      have da : D 16 = true := hn2.out 16 Yr
      obtain ⟨gn, hgn, gb, gl, hB⟩ := nT9.one da hd
      simp only [hgn] at hK ⊢
      have hc9 := hB.cell; have hf9 := hB.frozen
      have hB2 := setAll_blk [.int .i64 m0, .int .i64 m1, .int .i64 m2, .int .i64 m3, .int .i64 m4, .int .i64 m5] 0 wq _ hB
      simp only [setArr, lst, ls0, ls1, Nat.zero_add, Nat.reduceAdd] at hB2
      go_simp
      exact hK _ undef (setAll wq gn 0 [.int .i64 m0, .int .i64 m1, .int .i64 m2, .int .i64 m3, .int .i64 m4, .int .i64 m5]) rfl ⟨(setAll_past gb [.int .i64 m0, .int .i64 m1, .int .i64 m2, .int .i64 m3, .int .i64 m4, .int .i64 m5] 0 wq hP), setAll_far (show g ≠ gn by first | omega | (simp <;> omega)) [.int .i64 m0, .int .i64 m1, .int .i64 m2, .int .i64 m3, .int .i64 m4, .int .i64 m5] 0 wq mP, setAll_far (show gm ≠ gn by first | omega | (simp <;> omega)) [.int .i64 m0, .int .i64 m1, .int .i64 m2, .int .i64 m3, .int .i64 m4, .int .i64 m5] 0 wq mN, setAll_far (show gs ≠ gn by first | omega | (simp <;> omega)) [.int .i64 m0, .int .i64 m1, .int .i64 m2, .int .i64 m3, .int .i64 m4, .int .i64 m5] 0 wq mS, setAll_far (show gk ≠ gn by first | omega | (simp <;> omega)) [.int .i64 m0, .int .i64 m1, .int .i64 m2, .int .i64 m3, .int .i64 m4, .int .i64 m5] 0 wq mK, setAll_far (show gA ≠ gn by first | omega | (simp <;> omega)) [.int .i64 m0, .int .i64 m1, .int .i64 m2, .int .i64 m3, .int .i64 m4, .int .i64 m5] 0 wq mA, (show NewD _ _ _ _ (D 16) true (uu 16) _ from by rw [hgn]; exact NewD.stored gb hB2), (by rw [setAll_size]; exact hZ)⟩ trivial trivial
     iterate 2 refine zq2 ?_
     exact dSteps_nil
    ·intro uu v2 D hD hC hF
     obtain ⟨hP, mP, mN, mS, mK, mA, nT9, hZ⟩ := hC
     simp only [calmFacts, Is, and_true, true_and] at hF
     obtain ⟨f0, f1, f2, f3, f4, f5, f6, f7, f8, f9, f10, f11, f12, f13, f14, f15, f18, f19⟩ := hF
     simp only [f0, f1, f2, f3, f4, f5, f6, f7, f8, f9, f10, f11, f12, f13, f14, f15, f18, f19]
     obtain ⟨gT9, e9T9, gbT9, glT9, bT9'⟩ := nT9.last (hD 16 Yd) (hD 17 Yd)
     simp only [e9T9]
     clear e9T9
     have hq := hP; clear hP
     have Kv2 : Past [g, gs, gk] v1 v2 := Past.trans (Past.refl _ _) hq
     have Zv2 := hZ; clear hZ
     clear hq
     clear bP cP fP lP eP kP; have bP := mP
     clear bN cN fN lN eN kN; have bN := mN
     clear bS cS fS lS eS kS; have bS := mS
     clear bK cK fK lK eK kK; have bK := mK
     clear bA cA fA lA eA kA; have bA := mA
     clear mP mN mS mK mA nT9 hD
     have bT9 := bT9'; clear bT9'
     obtain ⟨cP, fP, lP, eP, kP⟩ := Yf bP
     obtain ⟨cN, fN, lN, eN, kN⟩ := Yf bN
     obtain ⟨cS, fS, lS, eS, kS⟩ := Yf bS
     obtain ⟨cK, fK, lK, eK, kK⟩ := Yf bK
     obtain ⟨cA, fA, lA, eA, kA⟩ := Yf bA
     obtain ⟨cT9, fT9, lT9, eT9, kT9⟩ := Yf bT9
     have oT9 := lT9
     by_cases h9me : me = 0
     rotate_left 1
     ·have g1 : (me == 0) = false := by simpa using h9me
      have g2 : decide (me = 0) = false := decide_eq_false h9me
      have bK9 : Blk v2 gk 44 (if me = 0 then setArr cb (q * 6) (⟨m0, m1, m2, m3, m4, m5⟩ : K6).cs else cb) := by rw [if_neg h9me]; exact bK
      cases mok with
      | false =>
       go_wp2
       go_meet
       exact ⟨me, false, (⟨m0, m1, m2, m3, m4, m5⟩ : K6), rfl, rfl, HLK.out, pa1, bP, bS, bK9, bA⟩
      | true =>
       go_wp2
       go_meet
       exact ⟨me, true, (⟨m0, m1, m2, m3, m4, m5⟩ : K6), rfl, rfl, HLK.out, pa1, bP, bS, bK9, bA⟩
     subst h9me
     go_upto_region 13 with fail
     obtain ⟨q0, q1, q2, q3, q4, q5⟩ := HQ.out
     refine' wp_region_calmD Yr (fun D u9 w' => Past [g, gs, gk] v2 w' ∧ Blk w' (g) 100 #[.bool b.begun, .bool (b.srcs.any (·.1)), .int .i64 (ns : Int), .int .i64 b.li, .int .i64 b.p, .slice (some ⟨gs, 0, none⟩) ns ns, .slice (some ⟨gk, 0, none⟩) ns ns, .int .i64 b.ck.aim, .int .i64 b.ck.rate, .bool b.ck.set, .bool b.ck.held, .int .i64 b.ck.at_, .int .i64 b.ck.shown, .string ⟨O.toArray⟩] ∧ Blk w' (gm) 3 curN ∧ Blk w' (gs) 4 cs ∧ (D 7 = false → Blk w' (gk) 44 cb) ∧ (D 7 = true → Blk w' (gk) 44 (setArr cb (q * 6) [.int .i64 m0, .int .i64 m1, .int .i64 m2, .int .i64 m3, .int .i64 m4, .int .i64 m5])) ∧ Blk w' (gA) 40 #[.int .i64 a0, .int .i64 a1] ∧ Blk w' (gT9) 44 #[.int .i64 m0, .int .i64 m1, .int .i64 m2, .int .i64 m3, .int .i64 m4, .int .i64 m5] ∧ v2.heap.size ≤ w'.heap.size) (fun _ _ => True) [Is _, Is _, Is _, Is _, Is _, Is _, Is _, (fun _ _ _ => True)] [[], [0], [1], [2], [], [], [3, 4], [6, 5]] rfl (calmB_of Yr) Yp ?_ (Y1 (Y1 (Y1 (Y1 (Y1 (Y1 (Y1 (Y0 Yn)))))))) ?_ ?_
     ·exact ⟨pa1, bn1, bn1, bn1, (fun _ => bn1), (fun h => by cases h), bn1, bn1, (by first | exact Nat.le_refl _ | omega | (simp <;> omega))⟩
     rotate_left 7
     ·skip
      iterate 3 refine zq2 ?_
      refine zq3 (fun _ _ _ _ hn _ ⟨_, mP, mN, mS, mK, _, mA, mT9, _⟩ => have hB := mK (hn 7 Yr); Ya (Yq mP) (Ya (Yq mN) (Ya (Yq mS) (Ya (Yq mA) (Ya (Yq mT9) (Ya hB (Yq hB))))))) ?_
      refine zq2 ?_
      refine zq3 (fun _ _ _ _ hn _ ⟨_, mP, mN, mS, mK, _, mA, mT9, _⟩ => have hB := mK (hn 7 Yr); Ya (Yq mP) (Ya (Yq mN) (Ya (Yq mS) (Ya (Yq mA) (Ya (Yq mT9) (Ya hB (Yq hB))))))) ?_
      refine zq2 ?_
      refine dSteps_cons (fun uu wq D hd hn hn2 hC hk K hK => ?_) ?_
      ·obtain ⟨hP, mP, mN, mS, mK, yK, mA, mT9, hZ⟩ := hC
       clear hn hn2
       simp only [calmKnown, lg0, lg1, and_true, Is, Pure, osj, ld0, ld1, lm1, lm0] at hk
       obtain ⟨h6, h5⟩ := hk
       simp only [h6, h5] at hK ⊢
       have H6 := Yh h6; clear h6; have H5 := Yh h5; clear h5
       have hB := mK hd
       have hc9 := hB.cell; have hf9 := hB.frozen; have hl9 := hB.lt
       have hB2 := setAll_blk [.int .i64 m0, .int .i64 m1, .int .i64 m2, .int .i64 m3, .int .i64 m4, .int .i64 m5] (q * 6) wq _ hB
       go_simp
       exact hK _ undef (setAll wq (gk) (q * 6) [.int .i64 m0, .int .i64 m1, .int .i64 m2, .int .i64 m3, .int .i64 m4, .int .i64 m5]) rfl ⟨(setAll_pastX Ys [.int .i64 m0, .int .i64 m1, .int .i64 m2, .int .i64 m3, .int .i64 m4, .int .i64 m5] (q * 6) wq hP), setAll_far (show g ≠ gk by first | omega | (simp <;> omega)) [.int .i64 m0, .int .i64 m1, .int .i64 m2, .int .i64 m3, .int .i64 m4, .int .i64 m5] (q * 6) wq mP, setAll_far (show gm ≠ gk by first | omega | (simp <;> omega)) [.int .i64 m0, .int .i64 m1, .int .i64 m2, .int .i64 m3, .int .i64 m4, .int .i64 m5] (q * 6) wq mN, setAll_far (show gs ≠ gk by first | omega | (simp <;> omega)) [.int .i64 m0, .int .i64 m1, .int .i64 m2, .int .i64 m3, .int .i64 m4, .int .i64 m5] (q * 6) wq mS, (fun h => by cases h), (fun _ => hB2), setAll_far (show gA ≠ gk by first | omega | (simp <;> omega)) [.int .i64 m0, .int .i64 m1, .int .i64 m2, .int .i64 m3, .int .i64 m4, .int .i64 m5] (q * 6) wq mA, setAll_far (show gT9 ≠ gk by first | omega | (simp <;> omega)) [.int .i64 m0, .int .i64 m1, .int .i64 m2, .int .i64 m3, .int .i64 m4, .int .i64 m5] (q * 6) wq mT9, (by rw [setAll_size]; exact hZ)⟩ trivial trivial
      exact dSteps_nil
     ·intro uu v3 D hD hC hF
      obtain ⟨hP, mP, mN, mS, mK, yK, mA, mT9, hZ⟩ := hC
      simp only [calmFacts, Is, and_true, true_and] at hF
      obtain ⟨f0, f1, f2, f3, f4, f5, f6⟩ := hF
      simp only [f0, f1, f2, f3, f4, f5, f6]
      have bbK := yK (hD 7 Yd)
      have hq := hP; clear hP
      have Kv3 : Past [g, gs, gk] v1 v3 := Past.trans Kv2 hq
      have Zv3 := hZ; clear hZ
      clear hq Kv2
      clear bP cP fP lP eP kP; have bP := mP
      clear bN cN fN lN eN kN; have bN := mN
      clear bS cS fS lS eS kS; have bS := mS
      clear bK cK fK lK eK kK; have bK := bbK
      clear bA cA fA lA eA kA; have bA := mA
      clear bT9 cT9 fT9 lT9 eT9 kT9; have bT9 := mT9
      clear mP mN mS mK mA mT9 yK bbK hD
      obtain ⟨cP, fP, lP, eP, kP⟩ := Yf bP
      obtain ⟨cN, fN, lN, eN, kN⟩ := Yf bN
      obtain ⟨cS, fS, lS, eS, kS⟩ := Yf bS
      obtain ⟨cK, fK, lK, eK, kK⟩ := Yf bK
      obtain ⟨cA, fA, lA, eA, kA⟩ := Yf bA
      obtain ⟨cT9, fT9, lT9, eT9, kT9⟩ := Yf bT9
      clear q0 q1 q2 q3 q4 q5
      have bK9 : Blk v3 gk 44 (if (0 : Int) = 0 then setArr cb (q * 6) (⟨m0, m1, m2, m3, m4, m5⟩ : K6).cs else cb) := by rw [if_pos rfl]; exact bK
      cases mok with
      | false =>
       go_wp2
       go_meet
       exact ⟨0, false, (⟨m0, m1, m2, m3, m4, m5⟩ : K6), rfl, rfl, HLK.out, pa1, bP, bS, bK9, bA⟩
      | true =>
       go_wp2
       go_meet
       exact ⟨0, true, (⟨m0, m1, m2, m3, m4, m5⟩ : K6), rfl, rfl, HLK.out, pa1, bP, bS, bK9, bA⟩
  case rest =>
   obtain ⟨me, mok, nk, rfl, rfl, hlk, hqc, bP9, bS9, bK9, bA9⟩ := hcut
   clear bP cP fP lP eP kP bS cS fS lS eS kS bK cK fK lK eK kK bA cA fA lA eA kA bN cN fN lN eN kN
   have bP := bP9; have bS := bS9; have bK := bK9; have bA := bA9; clear bP9 bS9 bK9 bA9
   have hrr := HRR.out; have hlb := HLB.out
   rw [hlk] at hrr hlb
   dsimp only at hlb
   have HRR2 := Yh hrr; have HLB2 := Yh hlb
   clear hrr hlb hlk HRR HLB hcs9
   have hwl : (if mok then wLearnt else wRefused).length ≤ 10 := by cases mok <;> decide
   obtain ⟨wd, hwd⟩ : ∃ wd, (if mok then wLearnt else wRefused) = wd := ⟨_, rfl⟩
   rw [hwd] at hwl ⊢
   have HWD := Yh hwd; clear hwd
   have ZC := hqc.1
   obtain ⟨cP, fP, lP, eP, kP⟩ := Yf bP
   obtain ⟨cS, fS, lS, eS, kS⟩ := Yf bS
   obtain ⟨cA, fA, lA, eA, kA⟩ := Yf bA
   by_cases h9me : me = 0
   rotate_left 1
   ·rw [if_neg h9me] at bK
    obtain ⟨cK, fK, lK, eK, kK⟩ := Yf bK
    have HB9 : Hid (RbAt B wc g b) := Yh ⟨hBg, HZ.out, .slice (some ⟨gs, 0, none⟩) ns ns, .slice (some ⟨gk, 0, none⟩) ns ns, (by unfold rbC; rw [HNS.out, HO.out]; exact bP), .inr ⟨gs, gk, cs, cb, by rw [HNS.out], by rw [HNS.out], bgs, bgk, bS, bK, HKS.out⟩⟩
    have HPT : Hid (PastT B [100, 4, 44] w wc) := Yh ((PastT.below HT1.out).trans (PastT.of_past pa1 (fun k9 hk9 => by simp only [List.mem_cons, List.mem_nil_iff, or_false] at hk9; rcases hk9 with rfl | rfl | rfl; exact ⟨hBg, _, _, _, HP1.out, by simp⟩; exact ⟨bgs, _, _, _, HS1.out, by simp⟩; exact ⟨bgk, _, _, _, HK1.out, by simp⟩)))
    have g1 : (me == 0) = false := by simpa using h9me
    have g3 : (me != 0) = true := by simpa using h9me
    go_wp2_with fail
    refine (rfailed_any B g b me _ (HB9.out.below bl0) HLB2.out hl).mono ?_
    rintro e9 w6 ⟨rfl, h6, hT6⟩
    go_wp2
    go_ret
    rw [HRR2.out, show b.took (q : Int) a0 a1 (me, mok, nk) = b.tell me from if_neg h9me]
    exact ⟨rfl, h6, (HPT.out.trans (PastT.below (show Below wc.heap.size wc _ from bl0))).trans hT6⟩
   subst h9me
   rw [if_pos rfl] at bK
   obtain ⟨cK, fK, lK, eK, kK⟩ := Yf bK
   obtain ⟨L, hL, nL, rL⟩ := rline_c wd wd.toArray rfl hwl [(q : Int), a0, a1] 3 rfl Yd (fun m hm => by simp only [List.mem_cons, List.mem_nil_iff, or_false] at hm; rcases hm with rfl | rfl | rfl; exact ⟨⟨Yo, Yo⟩, Yo⟩; exact ⟨HA.out.1.1, HA.out.2.1⟩; exact ⟨HA.out.1.2, HA.out.2.2⟩)
   have RL9 := Yh rL; have HL := Yh hL; clear rL hL
   obtain ⟨O2, hO2⟩ : ∃ M, O ++ L = M := ⟨_, rfl⟩
   have HO2 := Yh hO2; clear hO2
   have hcs9 := HC1.out
   go_upto_region 20 with fail
   obtain ⟨wt, hX9⟩ : ∃ x9 : World, x9 = ((wc.setCell ⟨gs, q, none⟩ (.bool true)).setCell ⟨g, 1, none⟩ (.bool true)) := ⟨_, rfl⟩
   have hqX : Past [g, gs, gk] v1 wt := by rw [hX9]; exact pa1
   have bP' : Blk wt (g) 100 #[.bool b.begun, .bool true, .int .i64 (ns : Int), .int .i64 b.li, .int .i64 b.p, .slice (some ⟨gs, 0, none⟩) ns ns, .slice (some ⟨gk, 0, none⟩) ns ns, .int .i64 b.ck.aim, .int .i64 b.ck.rate, .bool b.ck.set, .bool b.ck.held, .int .i64 b.ck.at_, .int .i64 b.ck.shown, .string ⟨O.toArray⟩] := by rw [hX9]; exact (by have h9 := (bP.far (p := ⟨gs, q, none⟩) (show g ≠ gs from fun h => hsg h.symm) (.bool true)).set_ 1 (.bool true); simp only [lst, ls0, ls1] at h9; exact h9)
   have bS' : Blk wt (gs) 4 (cs.setIfInBounds q (.bool true)) := by rw [hX9]; exact ((bS.set_ q (.bool true)).far (p := ⟨g, 1, none⟩) (by simpa using hsg) _)
   have bA' : Blk wt (gA) 40 #[.int .i64 a0, .int .i64 a1] := by rw [hX9]; exact bn1
   have bK' : Blk wt (gk) 44 (setArr cb (q * 6) nk.cs) := by rw [hX9]; exact bn1
   have Zwt : wc.heap.size ≤ wt.heap.size := by rw [hX9]; first | omega | (simp; done) | (simp [setAll_size]; done) | (simp <;> omega)
   rw [← hX9]
   clear hX9 hqc
   clear bP cP fP lP eP kP; have bP := bP'; clear bP'
   clear bS cS fS lS eS kS; have bS := bS'; clear bS'
   clear bA cA fA lA eA kA; have bA := bA'; clear bA'
   clear bK cK fK lK eK kK; have bK := bK'; clear bK'
   have hqXwt := hqX; clear hqX
   obtain ⟨cP, fP, lP, eP, kP⟩ := Yf bP
   obtain ⟨cS, fS, lS, eS, kS⟩ := Yf bS
   obtain ⟨cA, fA, lA, eA, kA⟩ := Yf bA
   obtain ⟨cK, fK, lK, eK, kK⟩ := Yf bK
   have bB := bP; have bA9 := bA; have hl := HLO.out
   have hgA9 : gA ≠ g := Blk.ne bA bP Yd
   refine' wp_region_calm Yr (fun n _ w' => Past [g] wt w' ∧ (n = 0 → Blk w' g 100 #[.bool b.begun, .bool true, .int .i64 (ns : Int), .int .i64 b.li, .int .i64 b.p, .slice (some ⟨gs, 0, none⟩) ns ns, .slice (some ⟨gk, 0, none⟩) ns ns, .int .i64 b.ck.aim, .int .i64 b.ck.rate, .bool b.ck.set, .bool b.ck.held, .int .i64 b.ck.at_, .int .i64 b.ck.shown, .string ⟨O.toArray⟩]) ∧ (n = 1 → Blk w' g 100 #[.bool b.begun, .bool true, .int .i64 (ns : Int), .int .i64 b.li, .int .i64 b.p, .slice (some ⟨gs, 0, none⟩) ns ns, .slice (some ⟨gk, 0, none⟩) ns ns, .int .i64 b.ck.aim, .int .i64 b.ck.rate, .bool b.ck.set, .bool b.ck.held, .int .i64 b.ck.at_, .int .i64 b.ck.shown, .string ⟨O2.toArray⟩]) ∧ Blk w' (gA) 40 #[.int .i64 a0, .int .i64 a1]) (fun a b => Past [g] a b) [Is _, Is _, Is _, Is _, Is _, Is _, Is _, Is _, Is _, Is _, (SliceN [g] 3 3 #[.int .i64 q, .int .i64 a0, .int .i64 a1]), Is _, (Is (.string ⟨O2.toArray⟩)), Is _, Is _, (fun _ _ _ => True)] [[], [0], [1], [2], [], [], [], [6], [], [8], [5, 7, 9], [4, 10], [3, 11], [0], [13], [14, 12]] [15] [] rfl (calmB_of Yr) Yp ?_ (Y1 (Y1 (Y1 (Y1 (Y1 (Y1 (Y1 (Y1 (Y1 (Y1 (kcc keep_sliceP (Y1 (Y1 (Y1 (Y1 (Y0 Yn)))))))))))))))) ?_ ?_
   ·intro _
    exact ⟨(Past.refl _ _).drew, (fun _ => (bB.drew)), Ye, (bA9.drew)⟩
   rotate_left 13
   ·skip
    iterate 3 refine zq0 ?_
    refine zq1 (fun _ _ _ _ hn2 ⟨_, h0, _, mA9⟩ => have hB := h0 (Nat.le_zero.1 (hn2 0 15 rfl Yr)); Ya hB (Ya (Yq hB) (Yq mA9))) ?_
    iterate 3 refine zq0 ?_
    refine zq1 (fun _ _ _ _ hn2 ⟨_, h0, _, mA9⟩ => have hB := h0 (Nat.le_zero.1 (hn2 0 15 rfl Yr)); Ya hB (Ya (Yq hB) (Yq mA9))) ?_
    refine zq0 ?_
    refine zq1 (fun _ _ _ _ hn2 ⟨_, h0, _, mA9⟩ => have hB := h0 (Nat.le_zero.1 (hn2 0 15 rfl Yr)); Ya hB (Ya (Yq hB) (Yq mA9))) ?_
    refine Yz (fun u wq n hn hn2 hC hk K hK => ?_) ?_
    ·obtain ⟨hP, h0, h1, mA9⟩ := hC
     simp only [calmKnown, lg0, lg1, and_true, Is, Pure, osj, ld0, ld1, lm1, lm0] at hk
     obtain ⟨h5, h7, h9⟩ := hk
     simp only [h5, h7, h9] at hK ⊢
     have H5 := Yh h5; clear h5; have H7 := Yh h7; clear h7; have H9 := Yh h9; clear h9
     have hz9 := hP.1
     go_simp
     exact hK _ _ _ rfl ⟨hP.allocs _, (fun h => (h0 h).alloc _), (fun h => (h1 h).alloc _), mA9.alloc _⟩ ((Past.refl _ _).allocs _) ⟨_, rfl, Y7, Blk.new _ _ _⟩
    refine Yz (fun u wq n hn hn2 hC hk K hK => ?_) ?_
    ·obtain ⟨hP, h0, h1, mA9⟩ := hC
     simp only [calmKnown, lg0, lg1, and_true, Is, Pure, osj, ld0, ld1, lm1, lm0] at hk
     obtain ⟨h4, ⟨g10, h10, -, q10⟩⟩ := hk
     simp only [h4, h10] at hK ⊢
     have H4 := Yh h4; clear h4; have H10 := Yh h10; clear h10
     refine calm_op (by rfl) ?_
     go_simp
     refine (RL9.out _ _ (NumsR.of (zs := [(q : Int), a0, a1]) q10)).mono ?_
     rintro e w9 ⟨rfl, hbl⟩
     exact hK _ _ _ rfl ⟨hP.call hbl, (fun h => Yk hbl (h0 h)), (fun h => Yk hbl (h1 h)), Yk hbl mA9⟩ (Past.below hbl) rfl
    refine Yz (fun u wq n hn hn2 hC hk K hK => ?_) ?_
    ·obtain ⟨hP, h0, h1, mA9⟩ := hC
     simp only [calmKnown, lg0, lg1, and_true, Is, Pure, osj, ld0, ld1, lm1, lm0] at hk
     obtain ⟨h3, h11⟩ := hk
     simp only [h3, h11] at hK ⊢
     have H3 := Yh h3; clear h3; have H11 := Yh h11; clear h11
     have ea : ({ data := O.toArray } : ByteArray) ++ { data := L.toArray } = { data := O2.toArray } := by rw [← HO2.out]; simp [ByteArray.mk_append_mk]
     go_simp
     (try simp only [ea])
     (try simp only [HO2.out])
     rw [if_neg Yo, Oper.upon_value]
     exact hK _ _ _ rfl ⟨hP, h0, h1, mA9⟩ (Past.refl _ _) rfl
    iterate 2 refine zq0 ?_
    refine Yz (fun u wq n hn hn2 hC hk K hK => ?_) ?_
    ·obtain ⟨hP, h0, h1, mA9⟩ := hC
     simp only [calmKnown, lg0, lg1, and_true, Is, Pure, osj, ld0, ld1, lm1, lm0] at hk
     obtain ⟨h14, h12⟩ := hk
     simp only [h14, h12] at hK ⊢
     have H14 := Yh h14; clear h14; have H12 := Yh h12; clear h12
     obtain rfl := hn 0 rfl
     have hB := h0 rfl
     have cB := hB.cell; have lB := hB.lt; have fB := hB.frozen
     have hB2 := hB.set_ 13 (.string ⟨O2.toArray⟩)
     try unfold rbC at cB
     try unfold rbC at hB2
     (try simp only [lst, ls0, ls1] at hB2)
     go_simp
     exact hK _ undef _ rfl ⟨hP.trans (Past.set Ys _), Ye, (fun _ => (by exact hB2)), mA9.setO Y7 _⟩ (Past.set Ys _) trivial
    exact Yw
   ·intro u w9 hC hF
    obtain ⟨hP, -, h1, mA9⟩ := hC
    have hB := h1 rfl
    clear h1 hF
    have H9 : RbAt B w9 g (Bn.say { b with srcs := b.srcs.set q ((true, nk) : Kw) } wd [(q : Int), a0, a1]) ∧ PastT B [100, 4, 44] w w9 := by
     refine ⟨⟨hBg, ?_, .slice (some ⟨gs, 0, none⟩) ns ns, .slice (some ⟨gk, 0, none⟩) ns ns, ?_, .inr ⟨gs, gk, _, _, ?_, ?_, bgs, bgk, hP.blk bS (by simpa using hsg), hP.blk bK (by simpa using hkg), HPUT.out nk⟩⟩, ((PastT.below HT1.out).trans (PastT.of_past (Past.trans pa1 (Past.more Ys hP)) (fun k9 hk9 => by simp only [List.mem_cons, List.mem_nil_iff, or_false] at hk9; rcases hk9 with rfl | rfl | rfl; exact ⟨hBg, _, _, _, HP1.out, by simp⟩; exact ⟨bgs, _, _, _, HS1.out, by simp⟩; exact ⟨bgk, _, _, _, HK1.out, by simp⟩)))⟩
     ·intro j9
      show ((b.srcs.set q ((true, nk) : Kw)).getD j9 (false, .zero)).1 = false → _
      show _ → ((b.srcs.set q ((true, nk) : Kw)).getD j9 (false, .zero)).2 = .zero
      rw [getD_set']
      split
      ·intro h9; cases h9
      ·exact HZ.out j9
     ·have e3 : rbC (Bn.say { b with srcs := b.srcs.set q ((true, nk) : Kw) } wd [(q : Int), a0, a1]) (.slice (some ⟨gs, 0, none⟩) ns ns) (.slice (some ⟨gk, 0, none⟩) ns ns) = #[.bool b.begun, .bool true, .int .i64 (ns : Int), .int .i64 b.li, .int .i64 b.p, .slice (some ⟨gs, 0, none⟩) ns ns, .slice (some ⟨gk, 0, none⟩) ns ns, .int .i64 b.ck.aim, .int .i64 b.ck.rate, .bool b.ck.set, .bool b.ck.held, .int .i64 b.ck.at_, .int .i64 b.ck.shown, .string ⟨O2.toArray⟩] := by
       unfold rbC Bn.say
       dsimp only
       rw [any_set (by rw [HNS.out]; exact hql), List.length_set, HNS.out, HO.out, HL.out, HO2.out]
      rw [e3]; exact hB
     ·show Value.slice _ ns ns = .slice _ (b.srcs.set q _).length (b.srcs.set q _).length; rw [List.length_set, HNS.out]
     ·show Value.slice _ ns ns = .slice _ (b.srcs.set q _).length (b.srcs.set q _).length; rw [List.length_set, HNS.out]
    have H9 := Yh H9
    go_wp2
    go_ret
    have htk : b.took (q : Int) a0 a1 (0, mok, nk) = ((Bn.say { b with srcs := b.srcs.set q ((true, nk) : Kw) } wd [(q : Int), a0, a1]), 0) := by
     unfold Bn.took
     rw [if_pos rfl]
     simp only [Int.toNat_natCast]
     rw [HWD.out]
    rw [HRR2.out, htk]
    exact ⟨rfl, H9.out.1, H9.out.2⟩
theorem rdo_drift (B g : Nat) (b : Bn) (A : Option Addr) (cap : Nat) (q : Int) (w : World) (h : RbAt B w g b) (hn : NumsR w A 1 [q]) (hl : b.out.length ≤ 900000) :
  Calls Tryz.prog 58 #[.pointer (some ⟨g, 0, none⟩), .string ⟨#[100, 114, 105, 102, 116]⟩, .slice A 1 cap] w (RnR B g w (b.drift q)) := by
 have HH := Yh h; have HN := Yh hn
 obtain ⟨gm, curN, rfl, hNb0, hNc⟩ := hn.2 Yo
 have hgm := hNb0.lt; have hgl := (show g < w.heap.size from by obtain ⟨-, -, _, _, e1, -⟩ := h; exact e1.lt)
 have cN0 := (hNb0.cell 0).trans (hNc 0 Yo)
 clear h hn
 go_enter Tryz.func58, Tryz.ntmps58
 go_wp2_with fail
 refine (rdrift_any B g b q _ HH.out hl).mono ?_
 rintro e w1 ⟨rfl, h1, hT⟩
 go_wp2
 go_ret
 exact ⟨rfl, h1, hT⟩
theorem rdo_sample (B g : Nat) (b : Bn) (A : Option Addr) (cap : Nat) (n0 t1 t2 t3 t4 er9 : Int) (w : World) (h : RbAt B w g b) (hn : NumsR w A 6 [n0, t1, t2, t3, t4, er9]) (hl : b.out.length ≤ 900000) (hb : b.begun = true) (hn8 : b.srcs.length ≤ 8) :
  Calls Tryz.prog 58 #[.pointer (some ⟨g, 0, none⟩), .string ⟨#[115, 97, 109, 112, 108, 101]⟩, .slice A 6 cap] w (RnR B g w (b.sample n0 t1 t2 t3 t4 er9)) := by
 have HH := Yh h; have HN := Yh hn
 obtain ⟨gm, curN, rfl, hNb0, hNc⟩ := hn.2 Yo
 have hgm := hNb0.lt; have hgl := (show g < w.heap.size from by obtain ⟨-, -, _, _, e1, -⟩ := h; exact e1.lt)
 have cN0 := (hNb0.cell 0).trans (hNc 0 Yo)
 have cN1 := (hNb0.cell 1).trans (hNc 1 Yo)
 have cN2 := (hNb0.cell 2).trans (hNc 2 Yo)
 have cN3 := (hNb0.cell 3).trans (hNc 3 Yo)
 have cN4 := (hNb0.cell 4).trans (hNc 4 Yo)
 have cN5 := (hNb0.cell 5).trans (hNc 5 Yo)
 obtain ⟨-, -, VS, VK, e1, -⟩ := HH.out
 have cP := e1.cell
 unfold rbC at cP
 simp only [hb] at cP
 clear h hn e1 hb
 go_enter Tryz.func58, Tryz.ntmps58
 go_wp2_with fail
 refine (rsampleB_any B g b (some ⟨gm, _, none⟩) cap n0 t1 t2 t3 t4 er9 _ HH.out HN.out hl hn8).mono ?_
 rintro e w1 ⟨rfl, h1, hT⟩
 clear cP
 go_wp2
 go_ret
 exact ⟨rfl, h1, hT⟩
theorem rdo_sources (B g : Nat) (b : Bn) (A : Option Addr) (cap : Nat) (n f : Int) (w : World) (h : RbAt B w g b) (hn : NumsR w A 2 [n, f]) (hl : b.out.length ≤ 900000) :
  Calls Tryz.prog 58 #[.pointer (some ⟨g, 0, none⟩), .string ⟨#[115, 111, 117, 114, 99, 101, 115]⟩, .slice A 2 cap] w (RnR B g w (b.sources n f)) := by
 have HH := Yh h; have HN := Yh hn
 obtain ⟨gm, curN, rfl, hNb0, hNc⟩ := hn.2 Yo
 have hgm := hNb0.lt; have hgl := (show g < w.heap.size from by obtain ⟨-, -, _, _, e1, -⟩ := h; exact e1.lt)
 have cN0 := (hNb0.cell 0).trans (hNc 0 Yo)
 have cN1 := (hNb0.cell 1).trans (hNc 1 Yo)
 clear h hn
 go_enter Tryz.func58, Tryz.ntmps58
 go_upto_region 3 with fail
 refine' wp_region_calm Yr (fun n9 _ w' => (n9 = 0 → w' = w.drew) ∧ (n9 = 1 → RbAt B w' g (b.sources n f).1 ∧ PastT B [100, 4, 44] w w')) (fun _ _ => True) [Is _, Is _, Is _, Is _, Is _, Is _, Is _, (Is (.int .i64 (b.sources n f).2)), (Is (.int .i64 (b.sources n f).2))] [[], [], [1], [2], [], [4], [5], [0, 3, 6], [7]] [7] [] rfl (calmB_of Yr) Yp ?_ (Y1 (Y1 (Y1 (Y1 (Y1 (Y1 (Y1 (Y1 (Y1 Yn))))))))) ?_ ?_
 ·intro _
  exact ⟨(fun _ => rfl), Ye⟩
 rotate_left 7
 ·skip
  refine Yz (fun u wq n hn hn2 hC hk K hK => ?_) ?_
  ·obtain ⟨h0, h1⟩ := hC
   clear hk
   obtain rfl := h0 (Nat.le_zero.1 (hn2 0 7 rfl Yr))
   go_simp
   exact hK _ _ _ rfl ⟨(fun _ => rfl), h1⟩ trivial rfl
  refine Yz (fun u wq n hn hn2 hC hk K hK => ?_) ?_
  ·obtain ⟨h0, h1⟩ := hC
   clear hk
   obtain rfl := h0 (Nat.le_zero.1 (hn2 0 7 rfl Yr))
   go_simp
   exact hK _ _ _ rfl ⟨(fun _ => rfl), h1⟩ trivial rfl
  refine Yz (fun u wq n hn hn2 hC hk K hK => ?_) ?_
  ·obtain ⟨h0, h1⟩ := hC
   simp only [calmKnown, lg0, lg1, and_true, Is] at hk
   have h1 := hk; clear hk
   simp only [h1] at hK ⊢
   have H1 := Yh h1; clear h1
   obtain rfl := h0 (Nat.le_zero.1 (hn2 0 7 rfl Yr))
   go_simp
   exact hK _ _ _ rfl ⟨(fun _ => rfl), h1⟩ trivial rfl
  refine Yz (fun u wq n hn hn2 hC hk K hK => ?_) ?_
  ·obtain ⟨h0, h1⟩ := hC
   simp only [calmKnown, lg0, lg1, and_true, Is] at hk
   have h2 := hk; clear hk
   simp only [h2] at hK ⊢
   have H2 := Yh h2; clear h2
   obtain rfl := h0 (Nat.le_zero.1 (hn2 0 7 rfl Yr))
   go_simp
   exact hK _ _ _ rfl ⟨(fun _ => rfl), h1⟩ trivial rfl
  refine Yz (fun u wq n hn hn2 hC hk K hK => ?_) ?_
  ·obtain ⟨h0, h1⟩ := hC
   clear hk
   obtain rfl := h0 (Nat.le_zero.1 (hn2 0 7 rfl Yr))
   go_simp
   exact hK _ _ _ rfl ⟨(fun _ => rfl), h1⟩ trivial rfl
  refine Yz (fun u wq n hn hn2 hC hk K hK => ?_) ?_
  ·obtain ⟨h0, h1⟩ := hC
   simp only [calmKnown, lg0, lg1, and_true, Is] at hk
   have h4 := hk; clear hk
   simp only [h4] at hK ⊢
   have H4 := Yh h4; clear h4
   obtain rfl := h0 (Nat.le_zero.1 (hn2 0 7 rfl Yr))
   go_simp
   exact hK _ _ _ rfl ⟨(fun _ => rfl), h1⟩ trivial rfl
  refine Yz (fun u wq n hn hn2 hC hk K hK => ?_) ?_
  ·obtain ⟨h0, h1⟩ := hC
   simp only [calmKnown, lg0, lg1, and_true, Is] at hk
   have h5 := hk; clear hk
   simp only [h5] at hK ⊢
   have H5 := Yh h5; clear h5
   obtain rfl := h0 (Nat.le_zero.1 (hn2 0 7 rfl Yr))
   go_simp
   exact hK _ _ _ rfl ⟨(fun _ => rfl), h1⟩ trivial rfl
  refine Yz (fun u wq n hn hn2 hC hk K hK => ?_) ?_
  ·obtain ⟨h0, h1⟩ := hC
   simp only [calmKnown, lg0, lg1, and_true, Is] at hk
   obtain ⟨h0, h3, h6⟩ := hk
   simp only [h0, h3, h6] at hK ⊢
   have H0 := Yh h0; clear h0; have H3 := Yh h3; clear h3; have H6 := Yh h6; clear h6
   obtain rfl := hn 0 rfl
   obtain rfl := h0 rfl
   refine calm_op (by rfl) ?_
   go_simp
   refine (rsources_any B g b n f _ (HH.out.below (Yl.drew)) hl).mono ?_
   rintro e w9 ⟨rfl, hr1, hr2⟩
   exact hK _ _ _ rfl ⟨Ye, (fun _ => ⟨hr1, (PastT.below (Yl.drew)).trans hr2⟩)⟩ trivial rfl
  refine zq0 ?_
  exact Yw
 ·intro u w9 hC hF
  have H9 := Yh (hC.2 rfl)
  simp only [calmFacts, Is, and_true, true_and] at hF
  obtain ⟨-, -, -, -, -, -, -, -, f_8⟩ := hF
  simp only [f_8]
  clear hC
  go_wp2
  go_ret
  exact ⟨rfl, H9.out.1, H9.out.2⟩
theorem rdo_read (B g : Nat) (b : Bn) (A : Option Addr) (cap : Nat) (aim u0 : Int) (w : World) (h : RbAt B w g b) (hn : NumsR w A 2 [aim, u0]) (hl : b.out.length ≤ 900000) (hb : b.begun = true) (hn8 : b.srcs.length ≤ 8) :
  Calls Tryz.prog 58 #[.pointer (some ⟨g, 0, none⟩), .string ⟨#[114, 101, 97, 100]⟩, .slice A 2 cap] w (RnR B g w (b.read aim u0)) := by
 have HH := Yh h; have HN := Yh hn
 obtain ⟨gm, curN, rfl, hNb0, hNc⟩ := hn.2 Yo
 have hgm := hNb0.lt; have hgl := (show g < w.heap.size from by obtain ⟨-, -, _, _, e1, -⟩ := h; exact e1.lt)
 have cN0 := (hNb0.cell 0).trans (hNc 0 Yo)
 have cN1 := (hNb0.cell 1).trans (hNc 1 Yo)
 obtain ⟨-, -, VS, VK, e1, -⟩ := HH.out
 have cP := e1.cell
 unfold rbC at cP
 simp only [hb] at cP
 clear h hn e1 hb
 go_enter Tryz.func58, Tryz.ntmps58
 go_upto_region 15 with fail
 clear cP
 refine' wp_region_calm Yr (fun n9 _ w' => (n9 = 0 → w' = w.drew) ∧ (n9 = 1 → RbAt B w' g (b.read aim u0).1 ∧ PastT B [100, 4, 44] w w')) (fun _ _ => True) [Is _, Is _, Is _, Is _, Is _, Is _, Is _, (Is (.int .i64 (b.read aim u0).2)), (Is (.int .i64 (b.read aim u0).2))] [[], [], [1], [2], [], [4], [5], [0, 3, 6], [7]] [7] [] rfl (calmB_of Yr) Yp ?_ (Y1 (Y1 (Y1 (Y1 (Y1 (Y1 (Y1 (Y1 (Y1 Yn))))))))) ?_ ?_
 ·intro _
  exact ⟨(fun _ => rfl), Ye⟩
 rotate_left 7
 ·skip
  refine Yz (fun u wq n hn hn2 hC hk K hK => ?_) ?_
  ·obtain ⟨h0, h1⟩ := hC
   clear hk
   obtain rfl := h0 (Nat.le_zero.1 (hn2 0 7 rfl Yr))
   go_simp
   exact hK _ _ _ rfl ⟨(fun _ => rfl), h1⟩ trivial rfl
  refine Yz (fun u wq n hn hn2 hC hk K hK => ?_) ?_
  ·obtain ⟨h0, h1⟩ := hC
   clear hk
   obtain rfl := h0 (Nat.le_zero.1 (hn2 0 7 rfl Yr))
   go_simp
   exact hK _ _ _ rfl ⟨(fun _ => rfl), h1⟩ trivial rfl
  refine Yz (fun u wq n hn hn2 hC hk K hK => ?_) ?_
  ·obtain ⟨h0, h1⟩ := hC
   simp only [calmKnown, lg0, lg1, and_true, Is] at hk
   have h1 := hk; clear hk
   simp only [h1] at hK ⊢
   have H1 := Yh h1; clear h1
   obtain rfl := h0 (Nat.le_zero.1 (hn2 0 7 rfl Yr))
   go_simp
   exact hK _ _ _ rfl ⟨(fun _ => rfl), h1⟩ trivial rfl
  refine Yz (fun u wq n hn hn2 hC hk K hK => ?_) ?_
  ·obtain ⟨h0, h1⟩ := hC
   simp only [calmKnown, lg0, lg1, and_true, Is] at hk
   have h2 := hk; clear hk
   simp only [h2] at hK ⊢
   have H2 := Yh h2; clear h2
   obtain rfl := h0 (Nat.le_zero.1 (hn2 0 7 rfl Yr))
   go_simp
   exact hK _ _ _ rfl ⟨(fun _ => rfl), h1⟩ trivial rfl
  refine Yz (fun u wq n hn hn2 hC hk K hK => ?_) ?_
  ·obtain ⟨h0, h1⟩ := hC
   clear hk
   obtain rfl := h0 (Nat.le_zero.1 (hn2 0 7 rfl Yr))
   go_simp
   exact hK _ _ _ rfl ⟨(fun _ => rfl), h1⟩ trivial rfl
  refine Yz (fun u wq n hn hn2 hC hk K hK => ?_) ?_
  ·obtain ⟨h0, h1⟩ := hC
   simp only [calmKnown, lg0, lg1, and_true, Is] at hk
   have h4 := hk; clear hk
   simp only [h4] at hK ⊢
   have H4 := Yh h4; clear h4
   obtain rfl := h0 (Nat.le_zero.1 (hn2 0 7 rfl Yr))
   go_simp
   exact hK _ _ _ rfl ⟨(fun _ => rfl), h1⟩ trivial rfl
  refine Yz (fun u wq n hn hn2 hC hk K hK => ?_) ?_
  ·obtain ⟨h0, h1⟩ := hC
   simp only [calmKnown, lg0, lg1, and_true, Is] at hk
   have h5 := hk; clear hk
   simp only [h5] at hK ⊢
   have H5 := Yh h5; clear h5
   obtain rfl := h0 (Nat.le_zero.1 (hn2 0 7 rfl Yr))
   go_simp
   exact hK _ _ _ rfl ⟨(fun _ => rfl), h1⟩ trivial rfl
  refine Yz (fun u wq n hn hn2 hC hk K hK => ?_) ?_
  ·obtain ⟨h0, h1⟩ := hC
   simp only [calmKnown, lg0, lg1, and_true, Is] at hk
   obtain ⟨h0, h3, h6⟩ := hk
   simp only [h0, h3, h6] at hK ⊢
   have H0 := Yh h0; clear h0; have H3 := Yh h3; clear h3; have H6 := Yh h6; clear h6
   obtain rfl := hn 0 rfl
   obtain rfl := h0 rfl
   refine calm_op (by rfl) ?_
   go_simp
   refine (rreadB_any B g b aim u0 _ (HH.out.below (Yl.drew)) hl hn8).mono ?_
   rintro e w9 ⟨rfl, hr1, hr2⟩
   exact hK _ _ _ rfl ⟨Ye, (fun _ => ⟨hr1, (PastT.below (Yl.drew)).trans hr2⟩)⟩ trivial rfl
  refine zq0 ?_
  exact Yw
 ·intro u w9 hC hF
  have H9 := Yh (hC.2 rfl)
  simp only [calmFacts, Is, and_true, true_and] at hF
  obtain ⟨-, -, -, -, -, -, -, -, f_8⟩ := hF
  simp only [f_8]
  clear hC
  go_wp2
  go_ret
  exact ⟨rfl, H9.out.1, H9.out.2⟩
end Go.Proofs.YtiinmhfolfgobaaGreatDoor
namespace Go.Proofs.YtiinmhfolfgobaaGreatDoor
open Go.RowKit
end Go.Proofs.YtiinmhfolfgobaaGreatDoor
