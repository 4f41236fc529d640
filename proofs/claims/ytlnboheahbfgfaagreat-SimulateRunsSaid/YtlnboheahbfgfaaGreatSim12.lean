/- SimulateRuns: the walk. -/
import Derived.Test.YtlnboheahbfgfaaGreatJ51
namespace Go.Proofs.YtlnboheahbfgfaaGreat
open Go.RowKit Go.Shelf Go.Sort
set_option linter.unusedSimpArgs false
set_option linter.unusedVariables false

set_option maxHeartbeats 1000000 in
theorem light_any (R : Sch) (RA RSA : Option Addr) (rc rsc : Nat) (w : World) :
  Calls Tryz.prog 28 #[.agg #[.int .i64 R.sta, .int .i64 R.loc, .int .i64 R.p, .int .i64 R.li, .int .i64 R.ai, .slice RA R.es.length rc, .slice RSA R.xs.length rsc]] w (RB w (.bool (decide (R.es.length ≤ 10 ∧ R.xs.length ≤ 20)))) := by
 obtain ⟨sta, loc, p, li, ai, es, xs⟩ := R
 dsimp only
 obtain ⟨n, hn⟩ : ∃ n, n = es.length := ⟨_, rfl⟩
 obtain ⟨m, hm⟩ : ∃ m, m = xs.length := ⟨_, rfl⟩
 simp only [← hn, ← hm]
 clear hn hm
 by_cases h1 : n ≤ 10
 ·have g1 : decide ((n : Int) ≤ 10) = true := decide_eq_true (by omega)
  have g1n : decide (n ≤ 10) = true := decide_eq_true h1
  by_cases h2 : m ≤ 20
  ·have g2 : decide ((m : Int) ≤ 20) = true := decide_eq_true (by omega)
   have g2n : decide (m ≤ 20) = true := decide_eq_true h2
   rw [show decide (n ≤ 10 ∧ m ≤ 20) = true from decide_eq_true ⟨h1, h2⟩]
   go_enter Tryz.func28, Tryz.ntmps28
   go_wp2
   exact bodyPost_ret (v := .bool true) (by simp [results, Tryz.results28, go_sem, *]) rfl ⟨rfl, bl0⟩
  ·have g2 : decide ((m : Int) ≤ 20) = false := decide_eq_false (by omega)
   have g2n : decide (m ≤ 20) = false := decide_eq_false h2
   rw [show decide (n ≤ 10 ∧ m ≤ 20) = false from decide_eq_false (fun h => h2 h.2)]
   go_enter Tryz.func28, Tryz.ntmps28
   go_wp2
   exact bodyPost_ret (v := .bool false) (by simp [results, Tryz.results28, go_sem, *]) rfl ⟨rfl, bl0⟩
 ·have g1 : decide ((n : Int) ≤ 10) = false := decide_eq_false (by omega)
  have g1n : decide (n ≤ 10) = false := decide_eq_false h1
  rw [show decide (n ≤ 10 ∧ m ≤ 20) = false from decide_eq_false (fun h => h1 h.1)]
  go_enter Tryz.func28, Tryz.ntmps28
  go_wp2
  exact bodyPost_ret (v := .bool false) (by simp [results, Tryz.results28, go_sem, *]) rfl ⟨rfl, bl0⟩
set_option maxRecDepth 100000 in
set_option maxHeartbeats 8000000 in
theorem runs41_walk (R : Sch) (RA RSA : Option Addr) (rc rsc : Nat) (LA : Option Addr) (llen lcap : Nat) (ls : List Int) (w : World) (hR : SchAt w R RA RSA) (k : IntsAt w LA llen ls) :
  Calls Tryz.prog 6 #[.agg #[.int .i64 R.sta, .int .i64 R.loc, .int .i64 R.p, .int .i64 R.li, .int .i64 R.ai, .slice RA R.es.length rc, .slice RSA R.xs.length rsc], .slice LA llen lcap] w (RB w (.bool true)) := by
 have HL := hYd k; have HR := hYd hR; clear k hR
 obtain ⟨lg, hlg⟩ : ∃ b, decide (R.es.length ≤ 10 ∧ R.xs.length ≤ 20) = b := ⟨_, rfl⟩
 have RLG := hYd (fun W => hlg ▸ light_any R RA RSA rc rsc W)
 clear hlg
 obtain ⟨r0, r1, r2, r3, r4, r5, r6⟩ := R
 dsimp only at RLG ⊢
 obtain ⟨rn, hrn⟩ : ∃ n, n = r5.length := ⟨_, rfl⟩
 obtain ⟨rm, hrm⟩ : ∃ n, n = r6.length := ⟨_, rfl⟩
 rw [← hrn, ← hrm] at RLG ⊢
 have HRN := hYd hrn; have HRM := hYd hrm; clear hrn hrm
 cases lg with
 | false =>
  go_enter Tryz.func6, Tryz.ntmps6
  go_wp2_with fail
  refine (RLG.out _).mono ?_
  rintro e v1 ⟨rfl, hb⟩
  have hq : Past [] _ v1 := Past.below hb
  have hq0 : Past [] _ v1 := Past.below hb
  clear hb
  have Kv1 : Past [] w v1 := Past.trans pa1 hq
  have Zv1 : w.heap.size ≤ v1.heap.size := Nat.le_trans (by first | exact Nat.le_refl _ | omega | (simp <;> omega)) hq.1
  have bR' : Blk v1 (w.heap.size) 54 #[.int .i64 r0, .int .i64 r1, .int .i64 r2, .int .i64 r3, .int .i64 r4, .slice RA rn rc, .slice RSA rm rsc] := hq0.blk (bn0) (by simp <;> omega)
  clear hq
  have bR := bR'; clear bR'
  obtain ⟨cR, fR, lR, eR, kR⟩ := Blk.facts bR
  have oR := lR
  clear hq0
  go_wp2_with fail
  refine (known41_any _).mono ?_
  rintro e v2 ⟨rfl, hb⟩
  have hq : Past [] _ v2 := Past.below hb
  have hq0 : Past [] _ v2 := Past.below hb
  clear hb
  have Kv2 : Past [] w v2 := Past.trans pa1 hq
  have Zv2 : v1.heap.size ≤ v2.heap.size := Nat.le_trans (by first | exact Nat.le_refl _ | omega | (simp <;> omega)) hq.1
  have bR' : Blk v2 (w.heap.size) 54 #[.int .i64 r0, .int .i64 r1, .int .i64 r2, .int .i64 r3, .int .i64 r4, .slice RA rn rc, .slice RSA rm rsc] := hq0.blk (bn1) (by simp <;> omega)
  clear hq Kv1
  clear bR cR fR lR eR kR; have bR := bR'; clear bR'
  obtain ⟨cR, fR, lR, eR, kR⟩ := Blk.facts bR
  clear hq0
  go_wp2
  go_ret
  exact ⟨rfl, Past.toBelow pa1⟩
 | true =>
  go_enter Tryz.func6, Tryz.ntmps6
  go_wp2_with fail
  refine (RLG.out _).mono ?_
  rintro e v1 ⟨rfl, hb⟩
  have hq : Past [] _ v1 := Past.below hb
  have hq0 : Past [] _ v1 := Past.below hb
  clear hb
  have Kv1 : Past [] w v1 := Past.trans pa1 hq
  have Zv1 : w.heap.size ≤ v1.heap.size := Nat.le_trans (by first | exact Nat.le_refl _ | omega | (simp <;> omega)) hq.1
  have bR' : Blk v1 (w.heap.size) 54 #[.int .i64 r0, .int .i64 r1, .int .i64 r2, .int .i64 r3, .int .i64 r4, .slice RA rn rc, .slice RSA rm rsc] := hq0.blk (bn0) (by simp <;> omega)
  clear hq
  have bR := bR'; clear bR'
  obtain ⟨cR, fR, lR, eR, kR⟩ := Blk.facts bR
  have oR := lR
  clear hq0
  clear RLG
  go_upto_region 3 with fail
  have HKv := hYd (Past.toBelow Kv1); clear Kv1
  clear cR fR lR eR kR oR
  refine' wp_region_calmD (by kernel_rfl) (fun D u9 w' => Below w.heap.size w w' ∧ Blk w' w.heap.size 54 #[.int .i64 r0, .int .i64 r1, .int .i64 r2, .int .i64 r3, .int .i64 r4, .slice RA rn rc, .slice RSA rm rsc] ∧ (D 2 = true → D 3 = false → ∃ b, u9 2 = .pointer (some ⟨b, 0, none⟩) ∧ w.heap.size < b ∧ TapeAt w' b) ∧ (D 3 = true → ∃ (S : Sch) (EA SA : Option Addr) (ec sc : Nat), u9 3 = .agg #[.int .i64 S.sta, .int .i64 S.loc, .int .i64 S.p, .int .i64 S.li, .int .i64 S.ai, .slice EA S.es.length ec, .slice SA S.xs.length sc] ∧ SchAt w' S EA SA) ∧ (D 4 = true → ∃ (S : Sch) (EA SA : Option Addr) (ec sc g : Nat), u9 4 = .slice (some ⟨g, 0, none⟩) 2 2 ∧ Blk w' g 54 #[.int .i64 r0, .int .i64 r1, .int .i64 r2, .int .i64 r3, .int .i64 r4, .slice RA rn rc, .slice RSA rm rsc, .int .i64 S.sta, .int .i64 S.loc, .int .i64 S.p, .int .i64 S.li, .int .i64 S.ai, .slice EA S.es.length ec, .slice SA S.xs.length sc] ∧ SchAt w' S EA SA)) (fun _ _ => True) [(Is _), (Is _), (fun _ _ _ => True), (fun _ _ _ => True), (fun _ _ _ => True), (Is _), (Is _)] [[], [], [1], [2], [0, 3], [4], []] rfl (calmB_of (by kernel_rfl)) (fun u => by (simp only [calmPut, Act.put, lst, ls0, ls1, Nat.zero_add, Nat.reduceAdd]; rfl)) ?_ (kcc keep_is' (kcc keep_is' (kcc keep_triv (kcc keep_triv (kcc keep_triv (kcc keep_is' (kcc keep_is' (calmKeep_nil)))))))) ?_ ?_
  ·exact ⟨HKv.out.drew, bR.drew, (fun h => by cases h), (fun h => by cases h), (fun h => by cases h)⟩
  rotate_left 4
  ·skip
   refine dc0 (fun uu wq D hC K hK => ?_) ?_
   ·obtain ⟨hP, mB, xT, xS, x4⟩ := hC
    have cR := mB.cell; have lR := mB.lt
    go_simp
    exact hK _ _ _ rfl ⟨hP, mB, xT, xS, x4⟩ trivial rfl
   refine dc0 (fun uu wq D hC K hK => ?_) ?_
   ·obtain ⟨hP, mB, xT, xS, x4⟩ := hC
    go_simp
    exact hK _ _ _ rfl ⟨hP, mB, xT, xS, x4⟩ trivial rfl
   refine dSteps_cons (fun uu wq D hd hn hn2 hC hk K hK => ?_) ?_
   ·obtain ⟨hP, mB, xT, xS, x4⟩ := hC
    replace hn := hYd hn; replace hn2 := hYd hn2
    simp only [calmKnown, lg0, lg1, and_true, Is] at hk
    have h1 := hk; clear hk
    simp only [h1] at hK ⊢
    have H1 := hYd h1; clear h1
    refine' calm_op ?_ ?_; rfl; go_simp; refine (new_any LA llen lcap ls _ (IntsAt.below HL.out hP)).mono ?_; rintro e w9 ⟨rfl, ht1, hbl⟩
    have hsz := hP.size; have hl2 := mB.lt
    exact hK _ _ _ rfl ⟨kept_call hbl hP, Blk.keep hbl mB, (fun _ _ => ⟨_, rfl, by omega, ht1⟩), (fun h => absurd (h.symm.trans (hn.out 3 (calmReach_of (by decide) (by kernel_rfl)))) (by decide)), (fun h => absurd (h.symm.trans (hn.out 4 (calmReach_of (by decide) (by kernel_rfl)))) (by decide))⟩ trivial trivial
   refine dSteps_cons (fun uu wq D hd hn hn2 hC hk K hK => ?_) ?_
   ·obtain ⟨hP, mB, xT, xS, x4⟩ := hC
    replace hn := hYd hn; replace hn2 := hYd hn2
    simp only [calmKnown, lg0, lg1, and_true, Is] at hk
    clear hk
    obtain ⟨b, e2, hbw, ht⟩ := xT (hn2.out 2 (calmReach_of (by decide) (by kernel_rfl))) hd
    simp only [e2] at hK ⊢
    have hsz := hP.size
    refine' calm_op ?_ ?_; rfl; go_simp; refine (sched_any b 16 true _ ht (by omega) (by omega)).mono ?_; rintro e w9 ⟨sta, loc, p, li, ai, EA, SA, ecap, scap, es, xs, rfl, hok, hnum, hst, -, hg2⟩
    exact hK _ _ _ rfl ⟨below_grown hP hg2 (by omega) hsz, Blk.keepG hg2 mB (by omega), (fun _ h => by cases h), (fun _ => ⟨⟨sta, loc, p, li, ai, es, xs⟩, EA, SA, ecap, scap, rfl, NsAt.nums hnum (by show es.length ≤ _; have := hok.2.2.2.2.2.2.2.2.2.2.2.1; omega), StpsAt.steps hst (by show xs.length ≤ _; have := hok.2.2.2.2.2.2.2.2.2.2.2.2.2.2.1; omega)⟩), (fun h => absurd (h.symm.trans (hn.out 4 (calmReach_of (by decide) (by kernel_rfl)))) (by decide))⟩ trivial trivial
   refine dSteps_cons (fun uu wq D hd hn hn2 hC hk K hK => ?_) ?_
   ·obtain ⟨hP, mB, xT, xS, x4⟩ := hC
    replace hn := hYd hn; replace hn2 := hYd hn2
    simp only [calmKnown, lg0, lg1, and_true, Is] at hk
    have h0 := hk; clear hk
    simp only [h0] at hK ⊢
    have H0 := hYd h0; clear h0
    obtain ⟨S, EA, SA, ec, sc, e3, hs⟩ := xS (hn2.out 3 (calmReach_of (by decide) (by kernel_rfl)))
    simp only [e3] at hK ⊢
    have hsz := hP.size
    go_simp
    exact hK _ _ _ rfl ⟨hP.alloc hsz _, mB.alloc _, (fun _ h => absurd (h.symm.trans (hn2.out 3 (calmReach_of (by decide) (by kernel_rfl)))) (by decide)), (fun _ => ⟨S, EA, SA, ec, sc, e3, hs.below ((Below.refl _ _).alloc (Nat.le_refl _) _)⟩), (fun _ => ⟨S, EA, SA, ec, sc, wq.heap.size, rfl, Blk.new _ _ _, hs.below ((Below.refl _ _).alloc (Nat.le_refl _) _)⟩)⟩ trivial trivial
   refine dSteps_cons (fun uu wq D hd hn hn2 hC hk K hK => ?_) ?_
   ·obtain ⟨hP, mB, xT, xS, x4⟩ := hC
    replace hn := hYd hn; replace hn2 := hYd hn2
    simp only [calmKnown, lg0, lg1, and_true, Is] at hk
    clear hk
    obtain ⟨S, EA, SA, ec, sc, g, e4, -, -⟩ := x4 (hn2.out 4 (calmReach_of (by decide) (by kernel_rfl)))
    simp only [e4] at hK ⊢
    go_simp
    exact hK _ _ _ rfl ⟨hP, mB, xT, xS, x4⟩ trivial rfl
   refine dc0 (fun uu wq D hC K hK => ?_) ?_
   ·obtain ⟨hP, mB, xT, xS, x4⟩ := hC
    go_simp
    exact hK _ _ _ rfl ⟨hP, mB, xT, xS, x4⟩ trivial rfl
   exact dSteps_nil
  ·intro uu wW D hD hC hF
   obtain ⟨hP, mB, xT, xS, x4⟩ := hC
   simp only [calmFacts, Is, and_true, true_and] at hF
   obtain ⟨f0, f1, f5, f6⟩ := hF
   simp only [f0, f1, f5, f6]
   obtain ⟨S, EA, SA, ec, sc, g, e4, bL, hs⟩ := x4 (hD 4 (by decide))
   simp only [e4]
   have HKW := hYd hP; have HSA := hYd hs; have HRW := hYd (HR.out.below hP); have HBL := hYd bL
   have lL := bL.lt
   clear xT xS x4 hs hP mB hD e4 bR HKv HL bL HR
   go_wp2
   go_loopg [25] 2 (fun G i wr => SmQRel wW 2 i G wr)
   case atStart => exact ⟨0, by omega, by omega, rfl, Below.refl _ _⟩
   case round =>
    obtain ⟨q, hq, rfl, rfl, KR⟩ := hrel
    have ZR := KR.size
    by_cases hlt : q < 2
    ·have gq : decide ((q : Int) < 2) = true := decide_eq_true (by omega)
     have gqn : decide (q < 2) = true := decide_eq_true hlt
     have gqp : (q : Int) < 2 := by omega
     have wq1 : IntKind.i64.wrap ((q : Int) + 1) = ((q + 1 : Nat) : Int) := by rw [IntWalk.i64_in _ (by omega)]; omega
     have bL := HBL.out.below KR
     have hcs : ∃ (T : Sch) (A0 A1 : Option Addr) (c0 c1 : Nat), (∀ i, i < 7 → wr.cell? ⟨g, q * 7 + i, none⟩ = (#[.int .i64 T.sta, .int .i64 T.loc, .int .i64 T.p, .int .i64 T.li, .int .i64 T.ai, .slice A0 T.es.length c0, .slice A1 T.xs.length c1] : Array Value)[i]?) ∧ SchAt wr T A0 A1 := by
      obtain rfl | rfl : q = 0 ∨ q = 1 := by omega
      ·refine ⟨⟨r0, r1, r2, r3, r4, r5, r6⟩, RA, RSA, rc, rsc, fun i hi => ?_, HRW.out.below KR⟩
       rw [bL.cell]
       dsimp only
       rw [← HRN.out, ← HRM.out]
       obtain rfl | rfl | rfl | rfl | rfl | rfl | rfl : i = 0 ∨ i = 1 ∨ i = 2 ∨ i = 3 ∨ i = 4 ∨ i = 5 ∨ i = 6 := by omega
       all_goals rfl
      ·refine ⟨S, EA, SA, ec, sc, fun i hi => ?_, HSA.out.below KR⟩
       rw [bL.cell]
       obtain rfl | rfl | rfl | rfl | rfl | rfl | rfl : i = 0 ∨ i = 1 ∨ i = 2 ∨ i = 3 ∨ i = 4 ∨ i = 5 ∨ i = 6 := by omega
       all_goals rfl
     obtain ⟨T, A0, A1, c0, c1, hcs, hat⟩ := hcs
     have HAT := hYd hat; clear hat
     have RI := hYd (fun W h => ilies_u T A0 A1 c0 c1 W h); have RJ := hYd (fun W h => rlies_u T A0 A1 c0 c1 W h)
     have RK := hYd (fun W h => irun_u T A0 A1 c0 c1 W h); have RL := hYd (fun W h => rrun_u T A0 A1 c0 c1 W h)
     have RM := hYd (fun W h => icheck_any T A0 A1 c0 c1 W h); have RN := hYd (fun W h => rcheck_any T A0 A1 c0 c1 W h)
     have hzl := lz_len T
     obtain ⟨nl, hnl⟩ : ∃ n, (lz T).length = n := ⟨_, rfl⟩
     obtain ⟨er, her⟩ : ∃ er, chkE T = er := ⟨_, rfl⟩
     unfold LieU at RI RJ
     unfold RunU at RK RL
     simp only [hnl, her] at RI RJ RK RL RM RN
     rw [hnl] at hzl
     have HNL := hYd hnl; clear hnl her
     have d0 := hcs 0 (by omega); have d1 := hcs 1 (by omega); have d2 := hcs 2 (by omega); have d3 := hcs 3 (by omega); have d4 := hcs 4 (by omega); have d5 := hcs 5 (by omega); have d6 := hcs 6 (by omega)
     simp only [List.getElem?_toArray, lg0, lg1, Nat.add_zero] at d0 d1 d2 d3 d4 d5 d6
     have lgr : g < wr.heap.size := by omega
     obtain ⟨t0, t1, t2, t3, t4, t5, t6⟩ := T
     dsimp only at d0 d1 d2 d3 d4 d5 d6 RI RJ RK RL RM RN
     obtain ⟨tn, htn⟩ : ∃ n, t5.length = n := ⟨_, rfl⟩
     obtain ⟨tm, htm⟩ : ∃ n, t6.length = n := ⟨_, rfl⟩
     rw [htn] at d5 RI RJ RK RL RM RN
     rw [htm] at d6 RI RJ RK RL RM RN
     clear htn htm hcs bL
     go_wp2_with fail
     refine (RI.out _ (HAT.out.below (show Below wr.heap.size wr _ from bl0))).mono ?_
     rintro e v11 ⟨B1, e1, rfl, ns1, hb⟩
     have hq : Past [] _ v11 := Past.below hb
     have hq0 : Past [] _ v11 := Past.below hb
     clear hb
     have HN1 := hYd ns1; replace HAT := hYd (HAT.out.below (Past.toBelow (Past.trans pa1 hq0)))
     clear ns1 d0 d1 d2 d3 d4 d5 d6
     have Kv11 : Past [] wr v11 := Past.trans pa1 hq
     have Zv11 : wr.heap.size ≤ v11.heap.size := Nat.le_trans (by first | exact Nat.le_refl _ | omega | (simp <;> omega)) hq.1
     have bS' : Blk v11 (wr.heap.size) 54 #[.int .i64 t0, .int .i64 t1, .int .i64 t2, .int .i64 t3, .int .i64 t4, .slice A0 tn c0, .slice A1 tm c1] := hq0.blk (bn0) (by simp <;> omega)
     clear hq
     have bS := bS'; clear bS'
     obtain ⟨cS, fS, lS, eS, kS⟩ := Blk.facts bS
     have oS := lS
     clear hq0
     go_wp2_with fail
     refine (RJ.out _ (HAT.out.below bl0)).mono ?_
     rintro e v12 ⟨B2, e2, rfl, ns2, hb⟩
     have hq : Past [] _ v12 := Past.below hb
     have hq0 : Past [] _ v12 := Past.below hb
     clear hb
     have HN2 := hYd ns2; clear ns2
     replace HAT := hYd (HAT.out.below (Past.toBelow hq0))
     replace HN1 := hYd (HN1.out.below (Past.toBelow hq0))
     have Kv12 : Past [] wr v12 := Past.trans pa1 hq
     have Zv12 : v11.heap.size ≤ v12.heap.size := Nat.le_trans (by first | exact Nat.le_refl _ | omega | (simp <;> omega)) hq.1
     have bS' : Blk v12 (wr.heap.size) 54 #[.int .i64 t0, .int .i64 t1, .int .i64 t2, .int .i64 t3, .int .i64 t4, .slice A0 tn c0, .slice A1 tm c1] := hq0.blk (bn1) (by simp <;> omega)
     clear hq Kv11
     clear bS cS fS lS eS kS; have bS := bS'; clear bS'
     obtain ⟨cS, fS, lS, eS, kS⟩ := Blk.facts bS
     clear hq0
     go_wp2_with fail
     refine (RK.out _ (HAT.out.below bl0)).mono ?_
     rintro e v13 ⟨rs, B3, e3, hz3, rfl, ns3, hb⟩
     have hq : Past [] _ v13 := Past.below hb
     have hq0 : Past [] _ v13 := Past.below hb
     clear hb
     have HN3 := hYd ns3; have HZ3 := hYd hz3; clear ns3 hz3
     replace HAT := hYd (HAT.out.below (Past.toBelow hq0))
     replace HN1 := hYd (HN1.out.below (Past.toBelow hq0))
     replace HN2 := hYd (HN2.out.below (Past.toBelow hq0))
     have Kv13 : Past [] wr v13 := Past.trans pa1 hq
     have Zv13 : v12.heap.size ≤ v13.heap.size := Nat.le_trans (by first | exact Nat.le_refl _ | omega | (simp <;> omega)) hq.1
     have bS' : Blk v13 (wr.heap.size) 54 #[.int .i64 t0, .int .i64 t1, .int .i64 t2, .int .i64 t3, .int .i64 t4, .slice A0 tn c0, .slice A1 tm c1] := hq0.blk (bn1) (by simp <;> omega)
     clear hq Kv12
     clear bS cS fS lS eS kS; have bS := bS'; clear bS'
     obtain ⟨cS, fS, lS, eS, kS⟩ := Blk.facts bS
     clear hq0
     go_wp2_with fail
     refine (RL.out _ (HAT.out.below bl0)).mono ?_
     rintro e v14 ⟨rs', B4, e4, hz4, rfl, ns4, hb⟩
     have hq : Past [] _ v14 := Past.below hb
     have hq0 : Past [] _ v14 := Past.below hb
     clear hb
     have HN4 := hYd ns4
     replace HAT := hYd (HAT.out.below (Past.toBelow hq0))
     replace HN1 := hYd (HN1.out.below (Past.toBelow hq0))
     replace HN2 := hYd (HN2.out.below (Past.toBelow hq0))
     replace HN3 := hYd (HN3.out.below (Past.toBelow hq0))
     obtain rfl := RunZ.uniq HZ3.out hz4
     clear hz4 ns4
     have Kv14 : Past [] wr v14 := Past.trans pa1 hq
     have Zv14 : v13.heap.size ≤ v14.heap.size := Nat.le_trans (by first | exact Nat.le_refl _ | omega | (simp <;> omega)) hq.1
     have bS' : Blk v14 (wr.heap.size) 54 #[.int .i64 t0, .int .i64 t1, .int .i64 t2, .int .i64 t3, .int .i64 t4, .slice A0 tn c0, .slice A1 tm c1] := hq0.blk (bn1) (by simp <;> omega)
     clear hq Kv13
     clear bS cS fS lS eS kS; have bS := bS'; clear bS'
     obtain ⟨cS, fS, lS, eS, kS⟩ := Blk.facts bS
     clear hq0
     have hrl := HZ3.out.len
     obtain ⟨nr, hnr⟩ : ∃ n, rs.length = n := ⟨_, rfl⟩
     rw [hnr] at hrl ⊢
     have HNR := hYd hnr; clear hnr RI RJ RK RL
     have RS1 := hYd (fun W h k => nsame41_yes B1 B2 e1 e2 _ nl HNL.out (by omega) W h k)
     have RS2 := hYd (fun W h k => rsame41_yes B3 B4 e3 e4 rs nr HNR.out (by omega) W h k)
     have HM1 := HN1; have HM2 := HN2; clear HN1 HN2
     go_upto_region 10 with fail
     refine' wp_region_calmD (by kernel_rfl) (fun D u9 w' => Below v14.heap.size v14 w' ∧ Blk w' wr.heap.size 54 #[.int .i64 t0, .int .i64 t1, .int .i64 t2, .int .i64 t3, .int .i64 t4, .slice A0 tn c0, .slice A1 tm c1]) (fun _ _ => True) [(Is _), (Is _), (Is _), (Is _), (Is _), (Is _), (Is _), (Is _), (Is _), (Is _), (Is _), (Is _), (Is _), (Is _), (Is _), (Is _), (Is _), (Is _), (Is _), (Is _), (Is _), (Is _), (Is _), (Is _), (Is _), (Is _), (Is _)] [[], [0], [], [2], [1, 3], [4], [5], [5], [6, 7, 5], [8, 5], [5, 9], [10], [11], [11], [12, 13, 11], [11, 14], [15], [16], [16], [17, 18, 16], [19, 16], [16, 20], [21], [22], [22], [23, 24, 22], [22, 25]] rfl (calmB_of (by kernel_rfl)) (fun u => by (simp only [calmPut, Act.put, lst, ls0, ls1, Nat.zero_add, Nat.reduceAdd]; rfl)) ?_ (kcc keep_is' (kcc keep_is' (kcc keep_is' (kcc keep_is' (kcc keep_is' (kcc keep_is' (kcc keep_is' (kcc keep_is' (kcc keep_is' (kcc keep_is' (kcc keep_is' (kcc keep_is' (kcc keep_is' (kcc keep_is' (kcc keep_is' (kcc keep_is' (kcc keep_is' (kcc keep_is' (kcc keep_is' (kcc keep_is' (kcc keep_is' (kcc keep_is' (kcc keep_is' (kcc keep_is' (kcc keep_is' (kcc keep_is' (kcc keep_is' (calmKeep_nil)))))))))))))))))))))))))))) ?_ ?_
     ·exact ⟨(Below.refl _ _).drew, bS.drew⟩
     rotate_left 27
     ·skip
      refine dc0 (fun uu wq D hC K hK => ?_) ?_
      ·obtain ⟨hP, mS⟩ := hC
       have cS := mS.cell; have lS := mS.lt
       go_simp
       exact hK _ _ _ rfl ⟨hP, mS⟩ trivial rfl
      refine dc1 (fun uu wq D hC hk K hK => ?_) ?_
      ·obtain ⟨hP, mS⟩ := hC
       simp only [calmKnown, lg0, lg1, and_true, Is] at hk
       have h0 := hk; clear hk
       simp only [h0] at hK ⊢
       have H0 := hYd h0; clear h0
       first
        | (refine' calm_op ?_ ?_; rfl; go_simp; (first | (with_reducible refine (RM.out _ (HAT.out.below hP)).mono ?_) | (with_reducible refine (RN.out _ (HAT.out.below hP)).mono ?_) | (with_reducible refine (RS1.out _ (HM1.out.below hP) (HM2.out.below hP)).mono ?_) | (with_reducible refine (RS2.out _ (HN3.out.below hP) (HN4.out.below hP)).mono ?_)); rintro e w2 ⟨rfl, hbl⟩; exact hK _ _ _ rfl ⟨kept_call hbl hP, Blk.keep hbl mS⟩ trivial rfl)
        | (go_simp; exact hK _ _ _ rfl ⟨hP, mS⟩ trivial rfl)
      refine dc0 (fun uu wq D hC K hK => ?_) ?_
      ·obtain ⟨hP, mS⟩ := hC
       have cS := mS.cell; have lS := mS.lt
       go_simp
       exact hK _ _ _ rfl ⟨hP, mS⟩ trivial rfl
      refine dc1 (fun uu wq D hC hk K hK => ?_) ?_
      ·obtain ⟨hP, mS⟩ := hC
       simp only [calmKnown, lg0, lg1, and_true, Is] at hk
       have h2 := hk; clear hk
       simp only [h2] at hK ⊢
       have H2 := hYd h2; clear h2
       first
        | (refine' calm_op ?_ ?_; rfl; go_simp; (first | (with_reducible refine (RM.out _ (HAT.out.below hP)).mono ?_) | (with_reducible refine (RN.out _ (HAT.out.below hP)).mono ?_) | (with_reducible refine (RS1.out _ (HM1.out.below hP) (HM2.out.below hP)).mono ?_) | (with_reducible refine (RS2.out _ (HN3.out.below hP) (HN4.out.below hP)).mono ?_)); rintro e w2 ⟨rfl, hbl⟩; exact hK _ _ _ rfl ⟨kept_call hbl hP, Blk.keep hbl mS⟩ trivial rfl)
        | (go_simp; exact hK _ _ _ rfl ⟨hP, mS⟩ trivial rfl)
      refine dc1 (fun uu wq D hC hk K hK => ?_) ?_
      ·obtain ⟨hP, mS⟩ := hC
       simp only [calmKnown, lg0, lg1, and_true, Is] at hk
       obtain ⟨h1, h3⟩ := hk
       simp only [h1, h3] at hK ⊢
       have H1 := hYd h1; clear h1; have H3 := hYd h3; clear h3
       go_simp
       exact hK _ _ _ rfl ⟨hP, mS⟩ trivial rfl
      refine dc1 (fun uu wq D hC hk K hK => ?_) ?_
      ·obtain ⟨hP, mS⟩ := hC
       simp only [calmKnown, lg0, lg1, and_true, Is] at hk
       have h4 := hk; clear hk
       simp only [h4] at hK ⊢
       have H4 := hYd h4; clear h4
       go_simp
       exact hK _ _ _ rfl ⟨hP, mS⟩ trivial rfl
      refine dc1 (fun uu wq D hC hk K hK => ?_) ?_
      ·obtain ⟨hP, mS⟩ := hC
       simp only [calmKnown, lg0, lg1, and_true, Is] at hk
       have h5 := hk; clear hk
       simp only [h5] at hK ⊢
       have H5 := hYd h5; clear h5
       go_simp
       exact hK _ _ _ rfl ⟨hP, mS⟩ trivial rfl
      refine dc1 (fun uu wq D hC hk K hK => ?_) ?_
      ·obtain ⟨hP, mS⟩ := hC
       simp only [calmKnown, lg0, lg1, and_true, Is] at hk
       have h5 := hk; clear hk
       simp only [h5] at hK ⊢
       have H5 := hYd h5; clear h5
       go_simp
       exact hK _ _ _ rfl ⟨hP, mS⟩ trivial rfl
      refine dc1 (fun uu wq D hC hk K hK => ?_) ?_
      ·obtain ⟨hP, mS⟩ := hC
       simp only [calmKnown, lg0, lg1, and_true, Is] at hk
       obtain ⟨h6, h7, h5⟩ := hk
       simp only [h6, h7, h5] at hK ⊢
       have H6 := hYd h6; clear h6; have H7 := hYd h7; clear h7; have H5 := hYd h5; clear h5
       first
        | (refine' calm_op ?_ ?_; rfl; go_simp; (first | (with_reducible refine (RM.out _ (HAT.out.below hP)).mono ?_) | (with_reducible refine (RN.out _ (HAT.out.below hP)).mono ?_) | (with_reducible refine (RS1.out _ (HM1.out.below hP) (HM2.out.below hP)).mono ?_) | (with_reducible refine (RS2.out _ (HN3.out.below hP) (HN4.out.below hP)).mono ?_)); rintro e w2 ⟨rfl, hbl⟩; exact hK _ _ _ rfl ⟨kept_call hbl hP, Blk.keep hbl mS⟩ trivial rfl)
        | (go_simp; exact hK _ _ _ rfl ⟨hP, mS⟩ trivial rfl)
      refine dc1 (fun uu wq D hC hk K hK => ?_) ?_
      ·obtain ⟨hP, mS⟩ := hC
       simp only [calmKnown, lg0, lg1, and_true, Is] at hk
       obtain ⟨h8, h5⟩ := hk
       simp only [h8, h5] at hK ⊢
       have H8 := hYd h8; clear h8; have H5 := hYd h5; clear h5
       go_simp
       exact hK _ _ _ rfl ⟨hP, mS⟩ trivial rfl
      refine dc1 (fun uu wq D hC hk K hK => ?_) ?_
      ·obtain ⟨hP, mS⟩ := hC
       simp only [calmKnown, lg0, lg1, and_true, Is] at hk
       obtain ⟨h5, h9⟩ := hk
       simp only [h5, h9] at hK ⊢
       have H5 := hYd h5; clear h5; have H9 := hYd h9; clear h9
       go_simp
       exact hK _ _ _ rfl ⟨hP, mS⟩ trivial rfl
      refine dc1 (fun uu wq D hC hk K hK => ?_) ?_
      ·obtain ⟨hP, mS⟩ := hC
       simp only [calmKnown, lg0, lg1, and_true, Is] at hk
       have h10 := hk; clear hk
       simp only [h10] at hK ⊢
       have H10 := hYd h10; clear h10
       go_simp
       exact hK _ _ _ rfl ⟨hP, mS⟩ trivial rfl
      refine dc1 (fun uu wq D hC hk K hK => ?_) ?_
      ·obtain ⟨hP, mS⟩ := hC
       simp only [calmKnown, lg0, lg1, and_true, Is] at hk
       have h11 := hk; clear hk
       simp only [h11] at hK ⊢
       have H11 := hYd h11; clear h11
       go_simp
       exact hK _ _ _ rfl ⟨hP, mS⟩ trivial rfl
      refine dc1 (fun uu wq D hC hk K hK => ?_) ?_
      ·obtain ⟨hP, mS⟩ := hC
       simp only [calmKnown, lg0, lg1, and_true, Is] at hk
       have h11 := hk; clear hk
       simp only [h11] at hK ⊢
       have H11 := hYd h11; clear h11
       go_simp
       exact hK _ _ _ rfl ⟨hP, mS⟩ trivial rfl
      refine dc1 (fun uu wq D hC hk K hK => ?_) ?_
      ·obtain ⟨hP, mS⟩ := hC
       simp only [calmKnown, lg0, lg1, and_true, Is] at hk
       obtain ⟨h12, h13, h11⟩ := hk
       simp only [h12, h13, h11] at hK ⊢
       have H12 := hYd h12; clear h12; have H13 := hYd h13; clear h13; have H11 := hYd h11; clear h11
       go_simp
       exact hK _ _ _ rfl ⟨hP, mS⟩ trivial rfl
      refine dc1 (fun uu wq D hC hk K hK => ?_) ?_
      ·obtain ⟨hP, mS⟩ := hC
       simp only [calmKnown, lg0, lg1, and_true, Is] at hk
       obtain ⟨h11, h14⟩ := hk
       simp only [h11, h14] at hK ⊢
       have H11 := hYd h11; clear h11; have H14 := hYd h14; clear h14
       go_simp
       exact hK _ _ _ rfl ⟨hP, mS⟩ trivial rfl
      refine dc1 (fun uu wq D hC hk K hK => ?_) ?_
      ·obtain ⟨hP, mS⟩ := hC
       simp only [calmKnown, lg0, lg1, and_true, Is] at hk
       have h15 := hk; clear hk
       simp only [h15] at hK ⊢
       have H15 := hYd h15; clear h15
       go_simp
       exact hK _ _ _ rfl ⟨hP, mS⟩ trivial rfl
      refine dc1 (fun uu wq D hC hk K hK => ?_) ?_
      ·obtain ⟨hP, mS⟩ := hC
       simp only [calmKnown, lg0, lg1, and_true, Is] at hk
       have h16 := hk; clear hk
       simp only [h16] at hK ⊢
       have H16 := hYd h16; clear h16
       go_simp
       exact hK _ _ _ rfl ⟨hP, mS⟩ trivial rfl
      refine dc1 (fun uu wq D hC hk K hK => ?_) ?_
      ·obtain ⟨hP, mS⟩ := hC
       simp only [calmKnown, lg0, lg1, and_true, Is] at hk
       have h16 := hk; clear hk
       simp only [h16] at hK ⊢
       have H16 := hYd h16; clear h16
       go_simp
       exact hK _ _ _ rfl ⟨hP, mS⟩ trivial rfl
      refine dc1 (fun uu wq D hC hk K hK => ?_) ?_
      ·obtain ⟨hP, mS⟩ := hC
       simp only [calmKnown, lg0, lg1, and_true, Is] at hk
       obtain ⟨h17, h18, h16⟩ := hk
       simp only [h17, h18, h16] at hK ⊢
       have H17 := hYd h17; clear h17; have H18 := hYd h18; clear h18; have H16 := hYd h16; clear h16
       first
        | (refine' calm_op ?_ ?_; rfl; go_simp; (first | (with_reducible refine (RM.out _ (HAT.out.below hP)).mono ?_) | (with_reducible refine (RN.out _ (HAT.out.below hP)).mono ?_) | (with_reducible refine (RS1.out _ (HM1.out.below hP) (HM2.out.below hP)).mono ?_) | (with_reducible refine (RS2.out _ (HN3.out.below hP) (HN4.out.below hP)).mono ?_)); rintro e w2 ⟨rfl, hbl⟩; exact hK _ _ _ rfl ⟨kept_call hbl hP, Blk.keep hbl mS⟩ trivial rfl)
        | (go_simp; exact hK _ _ _ rfl ⟨hP, mS⟩ trivial rfl)
      refine dc1 (fun uu wq D hC hk K hK => ?_) ?_
      ·obtain ⟨hP, mS⟩ := hC
       simp only [calmKnown, lg0, lg1, and_true, Is] at hk
       obtain ⟨h19, h16⟩ := hk
       simp only [h19, h16] at hK ⊢
       have H19 := hYd h19; clear h19; have H16 := hYd h16; clear h16
       go_simp
       exact hK _ _ _ rfl ⟨hP, mS⟩ trivial rfl
      refine dc1 (fun uu wq D hC hk K hK => ?_) ?_
      ·obtain ⟨hP, mS⟩ := hC
       simp only [calmKnown, lg0, lg1, and_true, Is] at hk
       obtain ⟨h16, h20⟩ := hk
       simp only [h16, h20] at hK ⊢
       have H16 := hYd h16; clear h16; have H20 := hYd h20; clear h20
       go_simp
       exact hK _ _ _ rfl ⟨hP, mS⟩ trivial rfl
      refine dc1 (fun uu wq D hC hk K hK => ?_) ?_
      ·obtain ⟨hP, mS⟩ := hC
       simp only [calmKnown, lg0, lg1, and_true, Is] at hk
       have h21 := hk; clear hk
       simp only [h21] at hK ⊢
       have H21 := hYd h21; clear h21
       go_simp
       exact hK _ _ _ rfl ⟨hP, mS⟩ trivial rfl
      refine dc1 (fun uu wq D hC hk K hK => ?_) ?_
      ·obtain ⟨hP, mS⟩ := hC
       simp only [calmKnown, lg0, lg1, and_true, Is] at hk
       have h22 := hk; clear hk
       simp only [h22] at hK ⊢
       have H22 := hYd h22; clear h22
       go_simp
       exact hK _ _ _ rfl ⟨hP, mS⟩ trivial rfl
      refine dc1 (fun uu wq D hC hk K hK => ?_) ?_
      ·obtain ⟨hP, mS⟩ := hC
       simp only [calmKnown, lg0, lg1, and_true, Is] at hk
       have h22 := hk; clear hk
       simp only [h22] at hK ⊢
       have H22 := hYd h22; clear h22
       go_simp
       exact hK _ _ _ rfl ⟨hP, mS⟩ trivial rfl
      refine dc1 (fun uu wq D hC hk K hK => ?_) ?_
      ·obtain ⟨hP, mS⟩ := hC
       simp only [calmKnown, lg0, lg1, and_true, Is] at hk
       obtain ⟨h23, h24, h22⟩ := hk
       simp only [h23, h24, h22] at hK ⊢
       have H23 := hYd h23; clear h23; have H24 := hYd h24; clear h24; have H22 := hYd h22; clear h22
       go_simp
       exact hK _ _ _ rfl ⟨hP, mS⟩ trivial rfl
      refine dc1 (fun uu wq D hC hk K hK => ?_) ?_
      ·obtain ⟨hP, mS⟩ := hC
       simp only [calmKnown, lg0, lg1, and_true, Is] at hk
       obtain ⟨h22, h25⟩ := hk
       simp only [h22, h25] at hK ⊢
       have H22 := hYd h22; clear h22; have H25 := hYd h25; clear h25
       go_simp
       exact hK _ _ _ rfl ⟨hP, mS⟩ trivial rfl
      exact dSteps_nil
     ·intro uu wz D hD hC hF
      obtain ⟨hP, mS⟩ := hC
      simp only [calmFacts, Is, and_true, true_and] at hF
      obtain ⟨f0, f1, f2, f3, f4, f5, f6, f7, f8, f9, f10, f11, f12, f13, f14, f15, f16, f17, f18, f19, f20, f21, f22, f23, f24, f25, f26⟩ := hF
      simp only [f0, f1, f2, f3, f4, f5, f6, f7, f8, f9, f10, f11, f12, f13, f14, f15, f16, f17, f18, f19, f20, f21, f22, f23, f24, f25, f26]
      have KZ := kept_call hP (kept_call (Past.toBelow pa1) KR)
      have HKZ := hYd KZ; clear KZ hP mS hD
      go_wp2
      go_roundg (2 - (q + 1))
      case measure => omega
      case rel => exact ⟨q + 1, by omega, by omega, by go_num, HKZ.out⟩
    ·obtain rfl : q = 2 := by omega
     have gq : decide (((2 : Nat) : Int) < 2) = false := by decide
     go_wp2_with fail
     refine (known41_any _).mono ?_
     rintro e w9 ⟨rfl, hb9⟩
     go_wp2
     go_ret
     exact ⟨rfl, kept_call (kept_call hb9 KR) HKW.out⟩
end Go.Proofs.YtlnboheahbfgfaaGreat
