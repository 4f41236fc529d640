/- The walk of the law CertifiedContainsTruth. -/
import Derived.Test.YteodoehhkhacoaaSched
import Derived.Test.YteodoehhkhacoaaFitsP
import Derived.Test.YteodoehhkhacoaaLawCert
import Derived.Test.YteodoehhkhacoaaR11
import Derived.Deep.DeepCutAuto
import Derived.BigQuiet
namespace Go.Proofs.Yteodoehhkhacoaa
open Go.RowKit
set_option linter.unusedSimpArgs false
set_option linter.unusedVariables false

theorem now_gen {P u ka klo khi le re : Int} (p0 : 0 ≤ P) (p1 : P ≤ 1000000) (a0 : -1000000000 ≤ ka) (a1 : ka ≤ u) (hu : u ≤ 1000000000) (h0 : -1000000000 ≤ klo) (h1 : klo ≤ khi) (h2 : khi ≤ 1000000000) (le0 : 0 ≤ le) (le1 : le ≤ 100000) (re0 : 0 ≤ re) (re1 : re ≤ 100000) :
    nowT ka klo khi P le re u = (klo + elLo (u - ka) P, khi + elHi (u - ka) P, 0) ∧ vS (klo + elLo (u - ka) P) (khi + elHi (u - ka) P) = true ∧ klo ≤ klo + elLo (u - ka) P ∧ khi ≤ khi + elHi (u - ka) P ∧ khi + elHi (u - ka) P ≤ khi + 2 * (u - ka) ∧ klo + elLo (u - ka) P ≤ khi + elHi (u - ka) P := by
  have d0 : 0 ≤ u - ka := by omega
  have X1 := lo_pos d0 p0 p1
  have X2 := hi_two d0 p0 p1
  have X3 := le_hi d0 p0 p1
  have X4 := lo_le d0 p0 p1
  have hv : vS klo khi = true := vS_true.2 ⟨by omega, by omega, by omega⟩
  have hv2 : vS (klo + elLo (u - ka) P) (khi + elHi (u - ka) P) = true := vS_true.2 ⟨by omega, by omega, by omega⟩
  have hk : kE ka klo khi P le re = 0 := kE_0 hv (vT_true.2 ⟨by omega, by omega⟩) p0 p1 (by simp [ctB]; omega) (by simp [ctB]; omega)
  refine ⟨?_, hv2, by omega, by omega, by omega, by omega⟩
  rw [nowT_ok hk (by omega) (vT_true.2 ⟨by omega, by omega⟩), hv]
  unfold opT
  rw [inD_true.2 ⟨by omega, by omega, p0, p1⟩, hv2]
  rfl
/-- The head of the loop. -/
def CRel (w : World) (B gk gS gs : Nat) (cur : Array Value) (P : Int) (m : Nat) (sc : Array Value) (G : Nat) (n a i : Value) (wr : World) : Prop := ∃ (k : Nat) (now u ka klo khi le : Int), k ≤ m ∧ G = m - k ∧ i = .int .i64 k ∧ n = .int .i64 now ∧ a = .int .i64 u ∧
  -1000 ≤ now ∧ now ≤ 1000 + 6000000 * k ∧ -500 ≤ u ∧ u ≤ 500 + 6006002 * k ∧ -500 ≤ ka ∧ ka ≤ u ∧ -2000 ≤ klo ∧ klo ≤ khi ∧ khi ≤ 100000000 ∧ 0 ≤ le ∧ le ≤ k ∧ TInv P u now ka klo khi ∧
  Blk wr gk 25 #[.int .i64 ka, .int .i64 klo, .int .i64 khi, .int .i64 P, .int .i64 le, .int .i64 0] ∧ Blk wr gS 41 sc ∧ Blk wr gs 45 cur ∧ TapeAt wr B ∧ Below w.heap.size w wr
set_option maxRecDepth 100000 in
set_option maxHeartbeats 4000000 in
theorem true37_core (A : Option Addr) (len cap : Nat) (zs : List Int) (w : World) (hA : IntsAt w A len zs) :
    Calls Try.prog 4 #[.slice A len cap] w (RB w (.bool true)) := by
  have H := Lib.hid hA; clear hA
  go_enter Try.func4, Try.ntmps4
  go_wp2_with fail
  refine (new_any A len cap zs _ H.out).mono ?_
  rintro e w1 ⟨rfl, ht1, hb1⟩
  have K1 : Below w.heap.size w w1 := kept_call hb1 (by (repeat' (first | (with_reducible exact Below.refl _ _) | (with_reducible refine Below.setCell ?_ ?_ _) | (with_reducible refine Below.alloc ?_ ?_ _) | (with_reducible refine Below.drew ?_) | (with_reducible refine below_drewN ?_ _))) <;> (first | omega | (simp <;> omega)))
  have Z1 : w.heap.size ≤ w1.heap.size := K1.size
  clear hb1
  have T1 := ht1.lt
  have HT := Lib.hid ht1; clear ht1
  clear H
  skip
  have HB : w.heap.size ≤ w.heap.size := Nat.le_refl _
  go_wp2_with fail
  refine (sched_any _ 10 false _ (by (repeat' (first | (with_reducible exact HT.out) | (with_reducible refine' TapeAt.alloc ?_ _) | (with_reducible refine' TapeAt.drew ?_) | (with_reducible refine' TapeAt.drewN ?_ _) | (with_reducible refine' TapeAt.set ?_ ?_ _))) <;> (first | omega | (simp <;> omega))) (by omega) (by omega)).mono ?_
  rintro e w2 ⟨sta, loc, P, li, ai, EA, SA, ecap, scap, es, xs, rfl, hok, hnum, hst, ht2, hg2⟩
  have K2 : Below w.heap.size w w2 := below_grown2 (by (repeat' (first | (with_reducible exact K1) | (with_reducible refine Below.setCell ?_ ?_ _) | (with_reducible refine Below.alloc ?_ ?_ _) | (with_reducible refine Below.drew ?_) | (with_reducible refine below_drewN ?_ _))) <;> (first | omega | (simp <;> omega))) hg2 (by first | omega | (simp <;> omega))
  have Z2 : w.heap.size ≤ w2.heap.size := K2.size
  clear HT; have T2 := ht2.lt; have HT := Lib.hid ht2; clear ht2
  clear hg2 K1
  clear hnum
  obtain ⟨gs, cur, rfl, hgs, bT, hcur⟩ := hst
  obtain ⟨s0, s1, s2, s3, p0, p1, -, -, -, -, -, -, -, m0, m1, hxs⟩ := hok
  obtain ⟨cT, fT, lT, eT, kT⟩ := Blk.facts bT
  obtain ⟨el, hel⟩ : ∃ el, el = es.length := ⟨_, rfl⟩
  rw [← hel]
  clear hel
  obtain ⟨m, hm⟩ : ∃ m, m = xs.length := ⟨_, rfl⟩
  rw [← hm] at m0 m1 hcur
  rw [← hm]
  have HM := Lib.hid hm.symm; clear hm
  have HXS := Lib.hid hxs; have HCUR := Lib.hid hcur; clear hxs hcur
  go_wp2_with fail
  go_quiet (fail)
  go_wp2_with fail
  generalize hWX : ((w2.alloc (.cells #[.int .i64 sta, .int .i64 loc, .int .i64 P, .int .i64 li, .int .i64 ai, .slice EA el ecap, .slice (some ⟨gs, 0, none⟩) m scap] 41)).drewN nq) = W1
  have KW1 : Below w.heap.size w W1 := by rw [← hWX]; exact (by (repeat' (first | (with_reducible exact K2) | (with_reducible refine Below.setCell ?_ ?_ _) | (with_reducible refine Below.alloc ?_ ?_ _) | (with_reducible refine Below.drew ?_) | (with_reducible refine below_drewN ?_ _))) <;> (first | omega | (simp <;> omega)))
  have ZW1 : w.heap.size ≤ W1.heap.size := KW1.size
  have bT' : Blk W1 (gs) 45 cur := by rw [← hWX]; exact (by (repeat' (first | (with_reducible refine' Blk.alloc ?_ _) | (with_reducible refine' Blk.drew ?_) | (with_reducible refine' Blk.drewN ?_ _) | (with_reducible refine' Blk.put ?_ ?_) | (with_reducible refine' Blk.far ?_ ?_ _) | exact bT | exact rfl)) <;> (first | omega | (simp <;> omega)))
  have bS : Blk W1 (w2.heap.size) 41 #[.int .i64 sta, .int .i64 loc, .int .i64 P, .int .i64 li, .int .i64 ai, .slice EA el ecap, .slice (some ⟨gs, 0, none⟩) m scap] := by rw [← hWX]; exact (by (repeat' (first | ((with_reducible refine' Blk.newE ?_); first | rfl | (simp; done)) | (with_reducible refine' Blk.alloc ?_ _) | (with_reducible refine' Blk.drew ?_) | (with_reducible refine' Blk.drewN ?_ _) | (with_reducible refine' Blk.put ?_ ?_) | (with_reducible refine' Blk.far ?_ ?_ _) | exact rfl)) <;> (first | omega | (simp <;> omega)))
  have ht' : TapeAt W1 w.heap.size := by rw [← hWX]; exact (by (repeat' (first | (with_reducible exact HT.out) | (with_reducible refine' TapeAt.alloc ?_ _) | (with_reducible refine' TapeAt.drew ?_) | (with_reducible refine' TapeAt.drewN ?_ _) | (with_reducible refine' TapeAt.set ?_ ?_ _))) <;> (first | omega | (simp <;> omega)))
  clear hWX HT; have TW1 := ht'.lt; have HT := Lib.hid ht'; clear ht'
  clear bT cT fT lT eT kT; have bT := bT'; clear bT'
  clear K2
  obtain ⟨cT, fT, lT, eT, kT⟩ := Blk.facts bT
  obtain ⟨cS, fS, lS, eS, kS⟩ := Blk.facts bS
  have oT := lT
  have oS := lS
  refine wp_region_calm (by kernel_rfl) (fun n us w' => TapeAt w' w.heap.size ∧ Past [w.heap.size] W1 w' ∧ NewC W1.heap.size 25 #[.int .i64 0, .int .i64 0, .int .i64 0, .int .i64 0, .int .i64 0, .int .i64 0] n us w' ∧ Blk w' w2.heap.size 41 #[.int .i64 sta, .int .i64 loc, .int .i64 P, .int .i64 li, .int .i64 ai, .slice EA el ecap, .slice (some ⟨gs, 0, none⟩) m scap]) (fun _ _ => True) [(Is (.int .i64 loc)), (Is (.int .i64 sta)), (Is (.pointer (some ⟨w.heap.size, 0, none⟩))), (InR 0 50), (InR (sta - 49) (sta + 1)), (Is (.int .i64 sta)), (Is (.pointer (some ⟨w.heap.size, 0, none⟩))), (InR 0 50), (InR (sta) (sta + 50)), (Pure fun _ v => ∃ c d : Int, v = .agg #[.int .i64 c, .int .i64 d] ∧ sta - 49 ≤ c ∧ c ≤ sta ∧ sta ≤ d ∧ d ≤ sta + 49), (Is (.pointer (some ⟨w2.heap.size, 2, none⟩))), (Is (.int .i64 P)), (Pure fun _ v => ∃ c d : Int, v = .tuple #[.agg #[.int .i64 loc, .int .i64 c, .int .i64 d, .int .i64 P, .int .i64 0, .int .i64 0], .int .i64 0] ∧ sta - 49 ≤ c ∧ c ≤ sta ∧ sta ≤ d ∧ d ≤ sta + 49), (Pure fun _ v => ∃ c d : Int, v = .tuple #[.agg #[.int .i64 loc, .int .i64 c, .int .i64 d, .int .i64 P, .int .i64 0, .int .i64 0], .int .i64 0] ∧ sta - 49 ≤ c ∧ c ≤ sta ∧ sta ≤ d ∧ d ≤ sta + 49), (Pure fun _ v => ∃ c d : Int, v = .agg #[.int .i64 loc, .int .i64 c, .int .i64 d, .int .i64 P, .int .i64 0, .int .i64 0] ∧ sta - 49 ≤ c ∧ c ≤ sta ∧ sta ≤ d ∧ d ≤ sta + 49), (Is (.int .i64 0)), (fun _ _ _ => True), (fun _ _ _ => True), (Is (.int .i64 0))] [[], [], [], [2], [1, 3], [], [], [6], [5, 7], [4, 8], [], [10], [0, 9, 11], [12], [13], [13], [], [14], [15]] [16, 17] [16, 14] rfl (by kernel_rfl) (fun u => by (simp only [calmPut, Act.put, List.setIfInBounds_toArray, List.set_cons_zero, List.set_cons_succ, Nat.zero_add, Nat.reduceAdd]; rfl)) ?_ (calmKeep_cons keep_is' (calmKeep_cons keep_is' (calmKeep_cons keep_is' (calmKeep_cons keep_inR (calmKeep_cons keep_inR (calmKeep_cons keep_is' (calmKeep_cons keep_is' (calmKeep_cons keep_inR (calmKeep_cons keep_inR (calmKeep_cons keep_pure (calmKeep_cons keep_is' (calmKeep_cons keep_is' (calmKeep_cons keep_pure (calmKeep_cons keep_pure (calmKeep_cons keep_pure (calmKeep_cons keep_is' (calmKeep_cons keep_triv (calmKeep_cons keep_triv (calmKeep_cons keep_is' (calmKeep_nil)))))))))))))))))))) ?_ ?_
  · intro _
    exact ⟨HT.out.drew, (Past.refl _ _).drew, .inl rfl, bS.drew⟩
  · skip
    refine calmSteps_cons (fun u wq n hn hn2 hC hk K hK => ?_) ?_
    · obtain ⟨hT, hP, hN, hS⟩ := hC
      clear hk
      have HT := Lib.hid hT; have HP := Lib.hid hP; have hsz := hP.1; clear hT hP
      go_simp
      exact hK _ _ _ rfl ⟨HT.out, HP.out, hN, hS⟩ trivial rfl
    refine calmSteps_cons (fun u wq n hn hn2 hC hk K hK => ?_) ?_
    · obtain ⟨hT, hP, hN, hS⟩ := hC
      clear hk
      have HT := Lib.hid hT; have HP := Lib.hid hP; have hsz := hP.1; clear hT hP
      go_simp
      exact hK _ _ _ rfl ⟨HT.out, HP.out, hN, hS⟩ trivial rfl
    refine calmSteps_cons (fun u wq n hn hn2 hC hk K hK => ?_) ?_
    · obtain ⟨hT, hP, hN, hS⟩ := hC
      clear hk
      have HT := Lib.hid hT; have HP := Lib.hid hP; have hsz := hP.1; clear hT hP
      go_simp
      exact hK _ _ _ rfl ⟨HT.out, HP.out, hN, hS⟩ trivial rfl
    refine calmSteps_cons (fun u wq n hn hn2 hC hk K hK => ?_) ?_
    · obtain ⟨hT, hP, hN, hS⟩ := hC
      simp only [calmKnown, List.getElem?_cons_zero, List.getElem?_cons_succ, and_true, Is, Pure, Option.some.injEq, List.getD_cons_zero, List.getD_cons_succ, List.map_cons, List.map_nil] at hk
      have h2 := hk; clear hk
      simp only [h2] at hK ⊢
      have H2 := Lib.hid h2; clear h2
      have HT := Lib.hid hT; have HP := Lib.hid hP; have hsz := hP.1; clear hT hP
      go_wp2_with fail
      refine (int_any _ 50 _ HT.out (by omega) (by omega)).mono ?_
      rintro e wz ⟨v, rfl, v0, v1, ht, hgr⟩
      have hq := Past.grown (X := [w.heap.size]) hgr (by simp)
      exact hK _ _ _ rfl ⟨ht, HP.out.trans hq, hN.keep hq (by first | omega | (simp <;> omega)), Past.blk hq hS (by first | omega | (simp <;> omega))⟩ trivial ⟨v, rfl, v0, v1⟩
    refine calmSteps_cons (fun u wq n hn hn2 hC hk K hK => ?_) ?_
    · obtain ⟨hT, hP, hN, hS⟩ := hC
      simp only [calmKnown, List.getElem?_cons_zero, List.getElem?_cons_succ, and_true, Is, Pure, Option.some.injEq, List.getD_cons_zero, List.getD_cons_succ, List.map_cons, List.map_nil] at hk
      obtain ⟨h1, ⟨x3, h3, p3, q3⟩⟩ := hk
      simp only [h1, h3] at hK ⊢
      have H1 := Lib.hid h1; clear h1; have H3 := Lib.hid h3; clear h3
      have HT := Lib.hid hT; have HP := Lib.hid hP; have hsz := hP.1; clear hT hP
      have wx : IntKind.i64.wrap (sta - x3) = sta - x3 := IntWalk.i64_in _ (by omega)
      go_simp
      exact hK _ _ _ rfl ⟨HT.out, HP.out, hN, hS⟩ trivial ⟨_, rfl, by omega, by omega⟩
    refine calmSteps_cons (fun u wq n hn hn2 hC hk K hK => ?_) ?_
    · obtain ⟨hT, hP, hN, hS⟩ := hC
      clear hk
      have HT := Lib.hid hT; have HP := Lib.hid hP; have hsz := hP.1; clear hT hP
      go_simp
      exact hK _ _ _ rfl ⟨HT.out, HP.out, hN, hS⟩ trivial rfl
    refine calmSteps_cons (fun u wq n hn hn2 hC hk K hK => ?_) ?_
    · obtain ⟨hT, hP, hN, hS⟩ := hC
      clear hk
      have HT := Lib.hid hT; have HP := Lib.hid hP; have hsz := hP.1; clear hT hP
      go_simp
      exact hK _ _ _ rfl ⟨HT.out, HP.out, hN, hS⟩ trivial rfl
    refine calmSteps_cons (fun u wq n hn hn2 hC hk K hK => ?_) ?_
    · obtain ⟨hT, hP, hN, hS⟩ := hC
      simp only [calmKnown, List.getElem?_cons_zero, List.getElem?_cons_succ, and_true, Is, Pure, Option.some.injEq, List.getD_cons_zero, List.getD_cons_succ, List.map_cons, List.map_nil] at hk
      have h6 := hk; clear hk
      simp only [h6] at hK ⊢
      have H6 := Lib.hid h6; clear h6
      have HT := Lib.hid hT; have HP := Lib.hid hP; have hsz := hP.1; clear hT hP
      go_wp2_with fail
      refine (int_any _ 50 _ HT.out (by omega) (by omega)).mono ?_
      rintro e wz ⟨v, rfl, v0, v1, ht, hgr⟩
      have hq := Past.grown (X := [w.heap.size]) hgr (by simp)
      exact hK _ _ _ rfl ⟨ht, HP.out.trans hq, hN.keep hq (by first | omega | (simp <;> omega)), Past.blk hq hS (by first | omega | (simp <;> omega))⟩ trivial ⟨v, rfl, v0, v1⟩
    refine calmSteps_cons (fun u wq n hn hn2 hC hk K hK => ?_) ?_
    · obtain ⟨hT, hP, hN, hS⟩ := hC
      simp only [calmKnown, List.getElem?_cons_zero, List.getElem?_cons_succ, and_true, Is, Pure, Option.some.injEq, List.getD_cons_zero, List.getD_cons_succ, List.map_cons, List.map_nil] at hk
      obtain ⟨h5, ⟨x7, h7, p7, q7⟩⟩ := hk
      simp only [h5, h7] at hK ⊢
      have H5 := Lib.hid h5; clear h5; have H7 := Lib.hid h7; clear h7
      have HT := Lib.hid hT; have HP := Lib.hid hP; have hsz := hP.1; clear hT hP
      have wx : IntKind.i64.wrap (sta + x7) = sta + x7 := IntWalk.i64_in _ (by omega)
      go_simp
      exact hK _ _ _ rfl ⟨HT.out, HP.out, hN, hS⟩ trivial ⟨_, rfl, by omega, by omega⟩
    refine calmSteps_cons (fun u wq n hn hn2 hC hk K hK => ?_) ?_
    · obtain ⟨hT, hP, hN, hS⟩ := hC
      simp only [calmKnown, List.getElem?_cons_zero, List.getElem?_cons_succ, and_true, Is, Pure, Option.some.injEq, List.getD_cons_zero, List.getD_cons_succ, List.map_cons, List.map_nil] at hk
      obtain ⟨⟨x4, h4, p4, q4⟩, ⟨x8, h8, p8, q8⟩⟩ := hk
      simp only [h4, h8] at hK ⊢
      have H4 := Lib.hid h4; clear h4; have H8 := Lib.hid h8; clear h8
      have HT := Lib.hid hT; have HP := Lib.hid hP; have hsz := hP.1; clear hT hP
      go_simp
      exact hK _ _ _ rfl ⟨HT.out, HP.out, hN, hS⟩ trivial ⟨x4, x8, rfl, by omega, by omega, by omega, by omega⟩
    refine calmSteps_cons (fun u wq n hn hn2 hC hk K hK => ?_) ?_
    · obtain ⟨hT, hP, hN, hS⟩ := hC
      clear hk
      have HT := Lib.hid hT; have HP := Lib.hid hP; have hsz := hP.1; clear hT hP
      go_simp
      exact hK _ _ _ rfl ⟨HT.out, HP.out, hN, hS⟩ trivial rfl
    refine calmSteps_cons (fun u wq n hn hn2 hC hk K hK => ?_) ?_
    · obtain ⟨hT, hP, hN, hS⟩ := hC
      simp only [calmKnown, List.getElem?_cons_zero, List.getElem?_cons_succ, and_true, Is, Pure, Option.some.injEq, List.getD_cons_zero, List.getD_cons_succ, List.map_cons, List.map_nil] at hk
      have h10 := hk; clear hk
      simp only [h10] at hK ⊢
      have H10 := Lib.hid h10; clear h10
      have HT := Lib.hid hT; have HP := Lib.hid hP; have hsz := hP.1; clear hT hP
      have cS := hS.cell
      go_simp
      exact hK _ _ _ rfl ⟨HT.out, HP.out, hN, hS⟩ trivial rfl
    refine calmSteps_cons (fun u wq n hn hn2 hC hk K hK => ?_) ?_
    · obtain ⟨hT, hP, hN, hS⟩ := hC
      simp only [calmKnown, List.getElem?_cons_zero, List.getElem?_cons_succ, and_true, Is, Pure, Option.some.injEq, List.getD_cons_zero, List.getD_cons_succ, List.map_cons, List.map_nil] at hk
      obtain ⟨h0, ⟨c9, d9, h9, y0, y1, y2, y3⟩, h11⟩ := hk
      simp only [h0, h9, h11] at hK ⊢
      have H0 := Lib.hid h0; clear h0; have H9 := Lib.hid h9; clear h9; have H11 := Lib.hid h11; clear h11
      have HT := Lib.hid hT; have HP := Lib.hid hP; have hsz := hP.1; clear hT hP
      have hke : kE loc c9 d9 P 0 0 = 0 := kE_0 (vS_true.2 ⟨by omega, by omega, by omega⟩) (vT_true.2 ⟨by omega, by omega⟩) p0 p1 (by simp [ctB]) (by simp [ctB])
      have rb := ibegin_any loc c9 d9 P wq
      rw [begV_ok hke] at rb
      clear hke
      go_wp2_with fail
      refine rb.mono ?_
      rintro e wz ⟨rfl, hbl⟩
      have hq := Past.below (X := [w.heap.size]) hbl
      exact hK _ _ _ rfl ⟨HT.out.below hbl, HP.out.trans hq, hN.keep hq (by first | omega | (simp <;> omega)), Blk.keep hbl hS⟩ trivial ⟨c9, d9, rfl, y0, y1, y2, y3⟩
    refine calmSteps_cons (fun u wq n hn hn2 hC hk K hK => ?_) ?_
    · obtain ⟨hT, hP, hN, hS⟩ := hC
      simp only [calmKnown, List.getElem?_cons_zero, List.getElem?_cons_succ, and_true, Is, Pure, Option.some.injEq, List.getD_cons_zero, List.getD_cons_succ, List.map_cons, List.map_nil] at hk
      obtain ⟨c12, d12, h12, y0, y1, y2, y3⟩ := hk
      simp only [h12] at hK ⊢
      have H12 := Lib.hid h12; clear h12
      have HT := Lib.hid hT; have HP := Lib.hid hP; have hsz := hP.1; clear hT hP
      go_simp
      exact hK _ _ _ rfl ⟨HT.out, HP.out, hN, hS⟩ trivial ⟨c12, d12, rfl, y0, y1, y2, y3⟩
    refine calmSteps_cons (fun u wq n hn hn2 hC hk K hK => ?_) ?_
    · obtain ⟨hT, hP, hN, hS⟩ := hC
      simp only [calmKnown, List.getElem?_cons_zero, List.getElem?_cons_succ, and_true, Is, Pure, Option.some.injEq, List.getD_cons_zero, List.getD_cons_succ, List.map_cons, List.map_nil] at hk
      obtain ⟨c13, d13, h13, y0, y1, y2, y3⟩ := hk
      simp only [h13] at hK ⊢
      have H13 := Lib.hid h13; clear h13
      have HT := Lib.hid hT; have HP := Lib.hid hP; have hsz := hP.1; clear hT hP
      have hn1 := hn2 1 17 rfl (by kernel_rfl)
      go_simp
      exact hK _ _ _ rfl ⟨HT.out, HP.out, NewC.val (show NewC _ _ _ n [u 16, u 14] wq from hN) hn1, hS⟩ trivial ⟨c13, d13, rfl, y0, y1, y2, y3⟩
    refine calmSteps_cons (fun u wq n hn hn2 hC hk K hK => ?_) ?_
    · obtain ⟨hT, hP, hN, hS⟩ := hC
      simp only [calmKnown, List.getElem?_cons_zero, List.getElem?_cons_succ, and_true, Is, Pure, Option.some.injEq, List.getD_cons_zero, List.getD_cons_succ, List.map_cons, List.map_nil] at hk
      obtain ⟨c13, d13, h13, y0, y1, y2, y3⟩ := hk
      simp only [h13] at hK ⊢
      have H13 := Lib.hid h13; clear h13
      have HT := Lib.hid hT; have HP := Lib.hid hP; have hsz := hP.1; clear hT hP
      go_simp
      exact hK _ _ _ rfl ⟨HT.out, HP.out, hN, hS⟩ trivial rfl
    refine calmSteps_cons (fun u wq n hn hn2 hC hk K hK => ?_) ?_
    · obtain ⟨hT, hP, hN, hS⟩ := hC
      clear hk
      obtain rfl := hn 0 rfl
      have HT := Lib.hid hT; have HP := Lib.hid hP; have hsz := hP.1; clear hT hP
      go_simp
      exact hK _ _ _ rfl ⟨HT.out.alloc _, HP.out.trans (Past.alloc _ _ _), NewC.made (x := u 14) hsz, hS.alloc _⟩ trivial trivial
    refine calmSteps_cons (fun u wq n hn hn2 hC hk K hK => ?_) ?_
    · obtain ⟨hT, hP, hN, hS⟩ := hC
      simp only [calmKnown, List.getElem?_cons_zero, List.getElem?_cons_succ, and_true, Is, Pure, Option.some.injEq, List.getD_cons_zero, List.getD_cons_succ, List.map_cons, List.map_nil] at hk
      obtain ⟨c14, d14, h14, -⟩ := hk
      simp only [h14] at hK ⊢
      have H14 := Lib.hid h14; clear h14
      obtain rfl := hn 1 rfl
      obtain ⟨g, h16, gb, gl, hB⟩ := NewC.one (show NewC _ _ _ 1 [u 16, u 14] wq from hN)
      simp only [h16] at hK ⊢
      have H16 := Lib.hid h16; clear h16 hN
      have gT : w.heap.size < g := by omega
      have HT := Lib.hid hT; have HP := Lib.hid hP; have hsz := hP.1; clear hT hP
      have hf := hB.frozen
      have hc := hB.cell
      go_simp
      have hB2 := setAll_blk [.int .i64 loc, .int .i64 c14, .int .i64 d14, .int .i64 P, .int .i64 0, .int .i64 0] 0 wq _ hB
      simp only [setArr, List.setIfInBounds_toArray, List.set_cons_zero, List.set_cons_succ, Nat.zero_add, Nat.reduceAdd] at hB2
      have h1 := setAll_tape gT [.int .i64 loc, .int .i64 c14, .int .i64 d14, .int .i64 P, .int .i64 0, .int .i64 0] 0 wq HT.out
      have h2 := setAll_past (X := [w.heap.size]) (W := W1) (g := g) gb [.int .i64 loc, .int .i64 c14, .int .i64 d14, .int .i64 P, .int .i64 0, .int .i64 0] 0 wq HP.out
      have h40 := setAll_far (show w2.heap.size ≠ g by omega) [.int .i64 loc, .int .i64 c14, .int .i64 d14, .int .i64 P, .int .i64 0, .int .i64 0] 0 wq hS
      exact hK _ undef (setAll wq g 0 [.int .i64 loc, .int .i64 c14, .int .i64 d14, .int .i64 P, .int .i64 0, .int .i64 0]) rfl ⟨h1, h2, (show NewC _ _ _ 2 [u 16, u 14] _ from by rw [H16.out, H14.out]; exact NewC.stored gb hB2), h40⟩ trivial trivial
    refine calmSteps_cons (fun u wq n hn hn2 hC hk K hK => ?_) ?_
    · obtain ⟨hT, hP, hN, hS⟩ := hC
      simp only [calmKnown, List.getElem?_cons_zero, List.getElem?_cons_succ, and_true, Is, Pure, Option.some.injEq, List.getD_cons_zero, List.getD_cons_succ, List.map_cons, List.map_nil] at hk
      have h15 := hk; clear hk
      simp only [h15] at hK ⊢
      have H15 := Lib.hid h15; clear h15
      have HT := Lib.hid hT; have HP := Lib.hid hP; have hsz := hP.1; clear hT hP
      go_simp
      exact hK _ _ _ rfl ⟨HT.out, HP.out, hN, hS⟩ trivial rfl
    exact calmSteps_nil
  · intro u w3 hC hF
    obtain ⟨ht3, hP, hN, -⟩ := hC
    obtain ⟨gk, cs5, g9, gb, g6, hB⟩ := NewC.last (show NewC _ _ _ 2 [u 16, u 14] w3 from hN)
    simp only [calmFacts, Pure, Is, List.map_cons, List.map_nil, and_true, Nat.zero_add, Nat.reduceAdd] at hF
    obtain ⟨-, -, -, -, -, -, -, -, -, -, -, -, -, -, ⟨klo, khi, h14, y0, y1, y2, y3⟩, -, -, -, h18⟩ := hF
    rw [g6] at h14
    obtain rfl : cs5 = _ := by injection h14
    clear h14 hN g6
    simp only [g9, h18]
    clear g9 h18
    have K3 : Below w.heap.size w w3 := Past.below' (by (repeat' (first | (with_reducible exact KW1) | (with_reducible refine Below.setCell ?_ ?_ _) | (with_reducible refine Below.alloc ?_ ?_ _) | (with_reducible refine Below.drew ?_) | (with_reducible refine below_drewN ?_ _))) <;> (first | omega | (simp <;> omega))) hP (by first | omega | (simp <;> omega))
    have Z3 : w.heap.size ≤ w3.heap.size := K3.size
    have bT' := Past.blkG (g := gs) hP (by (repeat' (first | (with_reducible refine' Blk.alloc ?_ _) | (with_reducible refine' Blk.drew ?_) | (with_reducible refine' Blk.drewN ?_ _) | (with_reducible refine' Blk.put ?_ ?_) | (with_reducible refine' Blk.far ?_ ?_ _) | exact bT | exact rfl)) <;> (first | omega | (simp <;> omega))) (by first | omega | (simp <;> omega))
    (try simp only [List.setIfInBounds_toArray, List.set_cons_zero, List.set_cons_succ] at bT')
    have bS' := Past.blkG (g := w2.heap.size) hP (by (repeat' (first | (with_reducible refine' Blk.alloc ?_ _) | (with_reducible refine' Blk.drew ?_) | (with_reducible refine' Blk.drewN ?_ _) | (with_reducible refine' Blk.put ?_ ?_) | (with_reducible refine' Blk.far ?_ ?_ _) | exact bS | exact rfl)) <;> (first | omega | (simp <;> omega))) (by first | omega | (simp <;> omega))
    (try simp only [List.setIfInBounds_toArray, List.set_cons_zero, List.set_cons_succ] at bS')
    clear HT; have T3 := ht3.lt; have HT := Lib.hid ht3; clear ht3
    clear hP KW1
    clear bT cT fT lT eT kT; have bT := bT'; clear bT'
    clear bS cS fS lS eS kS; have bS := bS'; clear bS'
    obtain ⟨cT, fT, lT, eT, kT⟩ := Blk.facts bT
    obtain ⟨cS, fS, lS, eS, kS⟩ := Blk.facts bS
    have bK := hB; clear hB
    obtain ⟨cK, fK, lK, eK, kK⟩ := Blk.facts bK
    have HI := Lib.hid (TInv.start (P := P) (u := loc) (now := sta) p0 p1 y1 y2)
    have ngS : w.heap.size < w2.heap.size := by omega
    have ngK : w.heap.size < gk := by omega
    have nKS : gk ≠ w2.heap.size := by omega
    have nKT : gk ≠ gs := by omega
    go_wp2_with fail
    go_loopg [5, 6, 9] m (fun G n a i wr => CRel w w.heap.size gk w2.heap.size gs cur P m #[.int .i64 sta, .int .i64 loc, .int .i64 P, .int .i64 li, .int .i64 ai, .slice EA el ecap, .slice (some ⟨gs, 0, none⟩) m scap] G n a i wr)
    case atStart => exact ⟨0, sta, loc, loc, klo, khi, 0, by omega, by omega, rfl, rfl, rfl, by omega, by omega, by omega, by omega, by omega, by omega, by omega, by omega, by omega, by omega, by omega, HI.out, by (repeat' (first | (with_reducible refine' Blk.alloc ?_ _) | (with_reducible refine' Blk.drew ?_) | (with_reducible refine' Blk.drewN ?_ _) | (with_reducible refine' Blk.put ?_ ?_) | (with_reducible refine' Blk.far ?_ ?_ _) | exact bK | exact rfl)) <;> (first | omega | (simp <;> omega)), by (repeat' (first | (with_reducible refine' Blk.alloc ?_ _) | (with_reducible refine' Blk.drew ?_) | (with_reducible refine' Blk.drewN ?_ _) | (with_reducible refine' Blk.put ?_ ?_) | (with_reducible refine' Blk.far ?_ ?_ _) | exact bS | exact rfl)) <;> (first | omega | (simp <;> omega)), by (repeat' (first | (with_reducible refine' Blk.alloc ?_ _) | (with_reducible refine' Blk.drew ?_) | (with_reducible refine' Blk.drewN ?_ _) | (with_reducible refine' Blk.put ?_ ?_) | (with_reducible refine' Blk.far ?_ ?_ _) | exact bT | exact rfl)) <;> (first | omega | (simp <;> omega)), (by (repeat' (first | (with_reducible exact HT.out) | (with_reducible refine' TapeAt.alloc ?_ _) | (with_reducible refine' TapeAt.drew ?_) | (with_reducible refine' TapeAt.drewN ?_ _) | (with_reducible refine' TapeAt.set ?_ ?_ _))) <;> (first | omega | (simp <;> omega))), by (repeat' (first | (with_reducible exact K3) | (with_reducible refine Below.setCell ?_ ?_ _) | (with_reducible refine Below.alloc ?_ ?_ _) | (with_reducible refine Below.drew ?_) | (with_reducible refine below_drewN ?_ _))) <;> (first | omega | (simp <;> omega))⟩
    case round =>
      obtain ⟨k, now, u, ka, klo, khi, le, hk, rfl, rfl, rfl, rfl, n0, n1, u0, u1, a0, a1, l0, l1, l2, e0, e1, hI, bK', bS', bT', htr, KR⟩ := hrel
      clear HT HI K3 bK cK fK lK eK kK bS cS fS lS eS kS bT cT fT lT eT kT
      have bK := bK'; have bS := bS'; have bT := bT'; clear bK' bS' bT'
      have ZR := KR.size
      have HT := Lib.hid htr; clear htr
      have HI := Lib.hid hI; clear hI
      clear y0 y1 y2 y3
      obtain ⟨cK, fK, lK, eK, kK⟩ := Blk.facts bK
      obtain ⟨cS, fS, lS, eS, kS⟩ := Blk.facts bS
      obtain ⟨cT, fT, lT, eT, kT⟩ := Blk.facts bT
      by_cases hlt : k < m
      · have gk1 : decide ((k : Int) < (m : Int)) = true := decide_eq_true (by omega)
        obtain ⟨x, hx⟩ : ∃ x, x = xs.getD k .zero := ⟨_, rfl⟩
        have hxm : x ∈ xs := by rw [hx, List.getD_eq_getElem?_getD, List.getElem?_eq_getElem (by rw [HM.out]; exact hlt)]; exact List.getElem_mem _
        have q1 := HCUR.out k hlt 1 (by omega)
        have q2 := HCUR.out k hlt 2 (by omega)
        have q3 := HCUR.out k hlt 3 (by omega)
        have q4 := HCUR.out k hlt 4 (by omega)
        rw [← hx] at q1 q2 q3 q4
        clear hx
        obtain ⟨-, -, x0, x1, x2, x3, x4, x5, x6, x7, x8, x9, -⟩ := HXS.out x hxm
        clear hxm
        obtain ⟨src, tr, lo, ou, ol, ho, hl, ba, bl, w2', w3'⟩ := x
        simp only [Stp.cs, List.getElem?_cons_succ, List.getElem?_cons_zero] at q1 q2 q3 q4
        dsimp only at x0 x1 x2 x3 x4 x5 x6 x7 x8 x9
        have HI := Lib.hid ((HI.out.pass x4 (by omega) (by omega) (by omega)).pass x9 (by omega) (by omega) (by omega))
        clear x4 x9
        obtain ⟨now', hnow⟩ : ∃ now', now' = now + tr + ou := ⟨_, rfl⟩
        obtain ⟨u', hu'⟩ : ∃ u', u' = u + lo + ol := ⟨_, rfl⟩
        rw [← hnow, ← hu'] at HI
        have v1 : IntKind.i64.wrap (now + tr) = now + tr := IntWalk.i64_in _ (by omega)
        have v2 : IntKind.i64.wrap (now + tr + ou) = now' := by rw [IntWalk.i64_in _ (by omega)]; exact hnow.symm
        have v3 : IntKind.i64.wrap (u + lo) = u + lo := IntWalk.i64_in _ (by omega)
        have v4 : IntKind.i64.wrap (u + lo + ol) = u' := by rw [IntWalk.i64_in _ (by omega)]; exact hu'.symm
        have N0 : -1000 ≤ now' := by omega
        have N1 : now' ≤ 1000 + 6000000 * (k + 1) := by omega
        have U0 : -500 ≤ u' := by omega
        have U1 : u' ≤ 500 + 6006002 * (k + 1) := by omega
        have A1 : ka ≤ u' := by omega
        have Hnow := Lib.hid hnow; have Hu := Lib.hid hu'; clear hnow hu'
        go_wp2_with fail
        go_quiet (fail)
        clear v1 v2 v3 v4 q1 q2 q3 q4
        obtain ⟨HX1, HX2, HX3⟩ := HI.out.holds
        obtain ⟨M1, M2, M3, M4, M5, M6⟩ := now_gen (P := P) (u := u') (ka := ka) (klo := klo) (khi := khi) (le := le) (re := 0) (by omega) (by omega) (by omega) (by omega) (by omega) (by omega) (by omega) (by omega) (by omega) (by omega) (by omega) (by omega)
        have un := inow_any ka klo khi P le 0 u'
        rw [M1] at un
        unfold V3 at un
        dsimp only at un
        obtain ⟨X, hX⟩ : ∃ X, X = klo + elLo (u' - ka) P := ⟨_, rfl⟩
        obtain ⟨Y, hY⟩ : ∃ Y, Y = khi + elHi (u' - ka) P := ⟨_, rfl⟩
        rw [← hX, ← hY] at M1 un
        rw [← hX] at M2 M3 M6 HX1
        rw [← hY] at M2 M4 M5 M6 HX2
        clear hX hY
        have rh := rholds_all X Y now'
        rw [show hdB X Y now' = true by simp [hdB, M2]; omega] at rh
        have UN := Lib.hid un; have RH := Lib.hid rh; have HM1 := Lib.hid M1; have HM2 := Lib.hid M2; clear un rh M1 M2
        go_wp2_with fail
        refine (UN.out _).mono ?_
        rintro e w4 ⟨rfl, hb4⟩
        have K4 : Below w.heap.size w w4 := kept_call hb4 (by (repeat' (first | (with_reducible exact KR) | (with_reducible refine Below.setCell ?_ ?_ _) | (with_reducible refine Below.alloc ?_ ?_ _) | (with_reducible refine Below.drew ?_) | (with_reducible refine below_drewN ?_ _))) <;> (first | omega | (simp <;> omega)))
        have Z4 : w.heap.size ≤ w4.heap.size := K4.size
        have bK' := Blk.keep (g := gk) hb4 (by (repeat' (first | (with_reducible refine' Blk.alloc ?_ _) | (with_reducible refine' Blk.drew ?_) | (with_reducible refine' Blk.drewN ?_ _) | (with_reducible refine' Blk.put ?_ ?_) | (with_reducible refine' Blk.far ?_ ?_ _) | exact bK | exact rfl)) <;> (first | omega | (simp <;> omega)))
        (try simp only [List.setIfInBounds_toArray, List.set_cons_zero, List.set_cons_succ] at bK')
        have bS' := Blk.keep (g := w2.heap.size) hb4 (by (repeat' (first | (with_reducible refine' Blk.alloc ?_ _) | (with_reducible refine' Blk.drew ?_) | (with_reducible refine' Blk.drewN ?_ _) | (with_reducible refine' Blk.put ?_ ?_) | (with_reducible refine' Blk.far ?_ ?_ _) | exact bS | exact rfl)) <;> (first | omega | (simp <;> omega)))
        (try simp only [List.setIfInBounds_toArray, List.set_cons_zero, List.set_cons_succ] at bS')
        have bT' := Blk.keep (g := gs) hb4 (by (repeat' (first | (with_reducible refine' Blk.alloc ?_ _) | (with_reducible refine' Blk.drew ?_) | (with_reducible refine' Blk.drewN ?_ _) | (with_reducible refine' Blk.put ?_ ?_) | (with_reducible refine' Blk.far ?_ ?_ _) | exact bT | exact rfl)) <;> (first | omega | (simp <;> omega)))
        (try simp only [List.setIfInBounds_toArray, List.set_cons_zero, List.set_cons_succ] at bT')
        have ht4 := TapeAt.below (by (repeat' (first | (with_reducible exact HT.out) | (with_reducible refine' TapeAt.alloc ?_ _) | (with_reducible refine' TapeAt.drew ?_) | (with_reducible refine' TapeAt.drewN ?_ _) | (with_reducible refine' TapeAt.set ?_ ?_ _))) <;> (first | omega | (simp <;> omega))) hb4
        clear HT; have T4 := ht4.lt; have HT := Lib.hid ht4; clear ht4
        clear hb4 KR
        clear bK cK fK lK eK kK; have bK := bK'; clear bK'
        clear bS cS fS lS eS kS; have bS := bS'; clear bS'
        clear bT cT fT lT eT kT; have bT := bT'; clear bT'
        obtain ⟨cK, fK, lK, eK, kK⟩ := Blk.facts bK
        obtain ⟨cS, fS, lS, eS, kS⟩ := Blk.facts bS
        obtain ⟨cT, fT, lT, eT, kT⟩ := Blk.facts bT
        go_wp2_with fail
        refine (RH.out _).mono ?_
        rintro e w5 ⟨rfl, hb5⟩
        have K5 : Below w.heap.size w w5 := kept_call hb5 (by (repeat' (first | (with_reducible exact K4) | (with_reducible refine Below.setCell ?_ ?_ _) | (with_reducible refine Below.alloc ?_ ?_ _) | (with_reducible refine Below.drew ?_) | (with_reducible refine below_drewN ?_ _))) <;> (first | omega | (simp <;> omega)))
        have Z5 : w.heap.size ≤ w5.heap.size := K5.size
        have bK' := Blk.keep (g := gk) hb5 (by (repeat' (first | (with_reducible refine' Blk.alloc ?_ _) | (with_reducible refine' Blk.drew ?_) | (with_reducible refine' Blk.drewN ?_ _) | (with_reducible refine' Blk.put ?_ ?_) | (with_reducible refine' Blk.far ?_ ?_ _) | exact bK | exact rfl)) <;> (first | omega | (simp <;> omega)))
        (try simp only [List.setIfInBounds_toArray, List.set_cons_zero, List.set_cons_succ] at bK')
        have bS' := Blk.keep (g := w2.heap.size) hb5 (by (repeat' (first | (with_reducible refine' Blk.alloc ?_ _) | (with_reducible refine' Blk.drew ?_) | (with_reducible refine' Blk.drewN ?_ _) | (with_reducible refine' Blk.put ?_ ?_) | (with_reducible refine' Blk.far ?_ ?_ _) | exact bS | exact rfl)) <;> (first | omega | (simp <;> omega)))
        (try simp only [List.setIfInBounds_toArray, List.set_cons_zero, List.set_cons_succ] at bS')
        have bT' := Blk.keep (g := gs) hb5 (by (repeat' (first | (with_reducible refine' Blk.alloc ?_ _) | (with_reducible refine' Blk.drew ?_) | (with_reducible refine' Blk.drewN ?_ _) | (with_reducible refine' Blk.put ?_ ?_) | (with_reducible refine' Blk.far ?_ ?_ _) | exact bT | exact rfl)) <;> (first | omega | (simp <;> omega)))
        (try simp only [List.setIfInBounds_toArray, List.set_cons_zero, List.set_cons_succ] at bT')
        have b5_0 := Blk.keep (g := w4.heap.size) hb5 (by (repeat' (first | ((with_reducible refine' Blk.newE ?_); first | rfl | (simp; done)) | (with_reducible refine' Blk.alloc ?_ _) | (with_reducible refine' Blk.drew ?_) | (with_reducible refine' Blk.drewN ?_ _) | (with_reducible refine' Blk.put ?_ ?_) | (with_reducible refine' Blk.far ?_ ?_ _) | exact rfl)) <;> (first | omega | (simp <;> omega)))
        (try simp only [List.setIfInBounds_toArray, List.set_cons_zero, List.set_cons_succ] at b5_0)
        have ht5 := TapeAt.below (by (repeat' (first | (with_reducible exact HT.out) | (with_reducible refine' TapeAt.alloc ?_ _) | (with_reducible refine' TapeAt.drew ?_) | (with_reducible refine' TapeAt.drewN ?_ _) | (with_reducible refine' TapeAt.set ?_ ?_ _))) <;> (first | omega | (simp <;> omega))) hb5
        clear HT; have T5 := ht5.lt; have HT := Lib.hid ht5; clear ht5
        clear hb5 K4
        clear bK cK fK lK eK kK; have bK := bK'; clear bK'
        clear bS cS fS lS eS kS; have bS := bS'; clear bS'
        clear bT cT fT lT eT kT; have bT := bT'; clear bT'
        obtain ⟨cK, fK, lK, eK, kK⟩ := Blk.facts bK
        obtain ⟨cS, fS, lS, eS, kS⟩ := Blk.facts bS
        obtain ⟨cT, fT, lT, eT, kT⟩ := Blk.facts bT
        obtain ⟨c5_0, f5_0, l5_0, e5_0, k5_0⟩ := Blk.facts b5_0
        have o5_0 := l5_0
        go_wp2_with fail
        refine (tbool_any _ 2 _ (by (repeat' (first | (with_reducible exact HT.out) | (with_reducible refine' TapeAt.alloc ?_ _) | (with_reducible refine' TapeAt.drew ?_) | (with_reducible refine' TapeAt.drewN ?_ _) | (with_reducible refine' TapeAt.set ?_ ?_ _))) <;> (first | omega | (simp <;> omega))) (by omega) (by omega)).mono ?_
        rintro e w6 ⟨bb, rfl, ht6, hg6⟩
        have K6 : Below w.heap.size w w6 := below_grown2 (by (repeat' (first | (with_reducible exact K5) | (with_reducible refine Below.setCell ?_ ?_ _) | (with_reducible refine Below.alloc ?_ ?_ _) | (with_reducible refine Below.drew ?_) | (with_reducible refine below_drewN ?_ _))) <;> (first | omega | (simp <;> omega))) hg6 (by first | omega | (simp <;> omega))
        have Z6 : w.heap.size ≤ w6.heap.size := K6.size
        have bK' := Blk.keepG (g := gk) hg6 (by (repeat' (first | (with_reducible refine' Blk.alloc ?_ _) | (with_reducible refine' Blk.drew ?_) | (with_reducible refine' Blk.drewN ?_ _) | (with_reducible refine' Blk.put ?_ ?_) | (with_reducible refine' Blk.far ?_ ?_ _) | exact bK | exact rfl)) <;> (first | omega | (simp <;> omega))) (by first | omega | (simp <;> omega))
        (try simp only [List.setIfInBounds_toArray, List.set_cons_zero, List.set_cons_succ] at bK')
        have bS' := Blk.keepG (g := w2.heap.size) hg6 (by (repeat' (first | (with_reducible refine' Blk.alloc ?_ _) | (with_reducible refine' Blk.drew ?_) | (with_reducible refine' Blk.drewN ?_ _) | (with_reducible refine' Blk.put ?_ ?_) | (with_reducible refine' Blk.far ?_ ?_ _) | exact bS | exact rfl)) <;> (first | omega | (simp <;> omega))) (by first | omega | (simp <;> omega))
        (try simp only [List.setIfInBounds_toArray, List.set_cons_zero, List.set_cons_succ] at bS')
        have bT' := Blk.keepG (g := gs) hg6 (by (repeat' (first | (with_reducible refine' Blk.alloc ?_ _) | (with_reducible refine' Blk.drew ?_) | (with_reducible refine' Blk.drewN ?_ _) | (with_reducible refine' Blk.put ?_ ?_) | (with_reducible refine' Blk.far ?_ ?_ _) | exact bT | exact rfl)) <;> (first | omega | (simp <;> omega))) (by first | omega | (simp <;> omega))
        (try simp only [List.setIfInBounds_toArray, List.set_cons_zero, List.set_cons_succ] at bT')
        have b5_0' := Blk.keepG (g := w4.heap.size) hg6 (by (repeat' (first | (with_reducible refine' Blk.alloc ?_ _) | (with_reducible refine' Blk.drew ?_) | (with_reducible refine' Blk.drewN ?_ _) | (with_reducible refine' Blk.put ?_ ?_) | (with_reducible refine' Blk.far ?_ ?_ _) | exact b5_0 | exact rfl)) <;> (first | omega | (simp <;> omega))) (by first | omega | (simp <;> omega))
        (try simp only [List.setIfInBounds_toArray, List.set_cons_zero, List.set_cons_succ] at b5_0')
        clear HT; have T6 := ht6.lt; have HT := Lib.hid ht6; clear ht6
        clear hg6 K5
        clear bK cK fK lK eK kK; have bK := bK'; clear bK'
        clear bS cS fS lS eS kS; have bS := bS'; clear bS'
        clear bT cT fT lT eT kT; have bT := bT'; clear bT'
        clear b5_0 c5_0 f5_0 l5_0 e5_0 k5_0; have b5_0 := b5_0'; clear b5_0'
        obtain ⟨cK, fK, lK, eK, kK⟩ := Blk.facts bK
        obtain ⟨cS, fS, lS, eS, kS⟩ := Blk.facts bS
        obtain ⟨cT, fT, lT, eT, kT⟩ := Blk.facts bT
        obtain ⟨c5_0, f5_0, l5_0, e5_0, k5_0⟩ := Blk.facts b5_0
        cases bb with
        | false =>
          go_wp2
          go_roundg (m - (k + 1))
          case measure => omega
          case rel => exact ⟨k + 1, now', u', ka, klo, khi, le, by omega, by omega, by go_num, rfl, rfl, by omega, by omega, by omega, by omega, by omega, by omega, by omega, by omega, by omega, by omega, by omega, HI.out, by (repeat' (first | (with_reducible refine' Blk.alloc ?_ _) | (with_reducible refine' Blk.drew ?_) | (with_reducible refine' Blk.drewN ?_ _) | (with_reducible refine' Blk.put ?_ ?_) | (with_reducible refine' Blk.far ?_ ?_ _) | exact bK | exact rfl)) <;> (first | omega | (simp <;> omega)), by (repeat' (first | (with_reducible refine' Blk.alloc ?_ _) | (with_reducible refine' Blk.drew ?_) | (with_reducible refine' Blk.drewN ?_ _) | (with_reducible refine' Blk.put ?_ ?_) | (with_reducible refine' Blk.far ?_ ?_ _) | exact bS | exact rfl)) <;> (first | omega | (simp <;> omega)), by (repeat' (first | (with_reducible refine' Blk.alloc ?_ _) | (with_reducible refine' Blk.drew ?_) | (with_reducible refine' Blk.drewN ?_ _) | (with_reducible refine' Blk.put ?_ ?_) | (with_reducible refine' Blk.far ?_ ?_ _) | exact bT | exact rfl)) <;> (first | omega | (simp <;> omega)), (by (repeat' (first | (with_reducible exact HT.out) | (with_reducible refine' TapeAt.alloc ?_ _) | (with_reducible refine' TapeAt.drew ?_) | (with_reducible refine' TapeAt.drewN ?_ _) | (with_reducible refine' TapeAt.set ?_ ?_ _))) <;> (first | omega | (simp <;> omega))), by (repeat' (first | (with_reducible exact K6) | (with_reducible refine Below.setCell ?_ ?_ _) | (with_reducible refine Below.alloc ?_ ?_ _) | (with_reducible refine Below.drew ?_) | (with_reducible refine below_drewN ?_ _))) <;> (first | omega | (simp <;> omega))⟩
        | true =>
          go_wp2_with fail
          refine wp_region_calm (by kernel_rfl) (fun n us w' => TapeAt w' w.heap.size ∧ Past [w.heap.size] w6 w' ∧ NewC w6.heap.size 25 #[.int .i64 0, .int .i64 0, .int .i64 0, .int .i64 0, .int .i64 0, .int .i64 0] n us w' ∧ Blk w' gk 25 #[.int .i64 ka, .int .i64 klo, .int .i64 khi, .int .i64 P, .int .i64 le, .int .i64 0]) (fun _ _ => True) [(Is (.agg #[.int .i64 ka, .int .i64 klo, .int .i64 khi, .int .i64 P, .int .i64 le, .int .i64 0])), (Is (.int .i64 u')), (Is (.int .i64 now')), (Is (.pointer (some ⟨w.heap.size, 0, none⟩))), (InR 0 40), (InR (now' - 39) (now' + 1)), (Is (.int .i64 now')), (Is (.pointer (some ⟨w.heap.size, 0, none⟩))), (InR 0 40), (InR (now') (now' + 40)), (Pure fun _ v => ∃ c d : Int, v = .agg #[.int .i64 c, .int .i64 d] ∧ now' - 39 ≤ c ∧ c ≤ now' ∧ now' ≤ d ∧ d ≤ now' + 39), (Pure fun _ v => ∃ c d : Int, v = .tuple #[.agg #[.int .i64 u', .int .i64 c, .int .i64 d, .int .i64 P, .int .i64 (le + 1), .int .i64 0], .bool true, .int .i64 0] ∧ -2000 ≤ c ∧ c ≤ now' ∧ now' ≤ d ∧ d ≤ 100000000), (Pure fun _ v => ∃ c d : Int, v = .tuple #[.agg #[.int .i64 u', .int .i64 c, .int .i64 d, .int .i64 P, .int .i64 (le + 1), .int .i64 0], .bool true, .int .i64 0] ∧ -2000 ≤ c ∧ c ≤ now' ∧ now' ≤ d ∧ d ≤ 100000000), (Pure fun _ v => ∃ c d : Int, v = .agg #[.int .i64 u', .int .i64 c, .int .i64 d, .int .i64 P, .int .i64 (le + 1), .int .i64 0] ∧ -2000 ≤ c ∧ c ≤ now' ∧ now' ≤ d ∧ d ≤ 100000000), (Is (.bool true)), (Is (.int .i64 0)), (fun _ _ _ => True), (fun _ _ _ => True), (Is (.bool true)), (Is (.int .i64 0))] [[], [], [], [], [3], [2, 4], [], [], [7], [6, 8], [5, 9], [0, 1, 10], [11], [12], [12], [12], [], [13], [14], [15]] [16, 17] [16, 13] rfl (by kernel_rfl) (fun u => by (simp only [calmPut, Act.put, List.setIfInBounds_toArray, List.set_cons_zero, List.set_cons_succ, Nat.zero_add, Nat.reduceAdd]; rfl)) ?_ (calmKeep_cons keep_is' (calmKeep_cons keep_is' (calmKeep_cons keep_is' (calmKeep_cons keep_is' (calmKeep_cons keep_inR (calmKeep_cons keep_inR (calmKeep_cons keep_is' (calmKeep_cons keep_is' (calmKeep_cons keep_inR (calmKeep_cons keep_inR (calmKeep_cons keep_pure (calmKeep_cons keep_pure (calmKeep_cons keep_pure (calmKeep_cons keep_pure (calmKeep_cons keep_is' (calmKeep_cons keep_is' (calmKeep_cons keep_triv (calmKeep_cons keep_triv (calmKeep_cons keep_is' (calmKeep_cons keep_is' (calmKeep_nil))))))))))))))))))))) ?_ ?_
          · intro _
            exact ⟨HT.out.drew, (Past.refl _ _).drew, .inl rfl, bK.drew⟩
          · skip
            refine calmSteps_cons (fun u_ wq n hn hn2 hC hk K hK => ?_) ?_
            · obtain ⟨hT, hP, hN, hS⟩ := hC
              clear hk
              have HT := Lib.hid hT; have HP := Lib.hid hP; have hsz := hP.1; clear hT hP
              have cS := hS.cell
              go_simp
              exact hK _ _ _ rfl ⟨HT.out, HP.out, hN, hS⟩ trivial rfl
            refine calmSteps_cons (fun u_ wq n hn hn2 hC hk K hK => ?_) ?_
            · obtain ⟨hT, hP, hN, hS⟩ := hC
              clear hk
              have HT := Lib.hid hT; have HP := Lib.hid hP; have hsz := hP.1; clear hT hP
              go_simp
              exact hK _ _ _ rfl ⟨HT.out, HP.out, hN, hS⟩ trivial rfl
            refine calmSteps_cons (fun u_ wq n hn hn2 hC hk K hK => ?_) ?_
            · obtain ⟨hT, hP, hN, hS⟩ := hC
              clear hk
              have HT := Lib.hid hT; have HP := Lib.hid hP; have hsz := hP.1; clear hT hP
              go_simp
              exact hK _ _ _ rfl ⟨HT.out, HP.out, hN, hS⟩ trivial rfl
            refine calmSteps_cons (fun u_ wq n hn hn2 hC hk K hK => ?_) ?_
            · obtain ⟨hT, hP, hN, hS⟩ := hC
              clear hk
              have HT := Lib.hid hT; have HP := Lib.hid hP; have hsz := hP.1; clear hT hP
              go_simp
              exact hK _ _ _ rfl ⟨HT.out, HP.out, hN, hS⟩ trivial rfl
            refine calmSteps_cons (fun u_ wq n hn hn2 hC hk K hK => ?_) ?_
            · obtain ⟨hT, hP, hN, hS⟩ := hC
              simp only [calmKnown, List.getElem?_cons_zero, List.getElem?_cons_succ, and_true, Is, Pure, Option.some.injEq, List.getD_cons_zero, List.getD_cons_succ, List.map_cons, List.map_nil] at hk
              have h3 := hk; clear hk
              simp only [h3] at hK ⊢
              have H3 := Lib.hid h3; clear h3
              have HT := Lib.hid hT; have HP := Lib.hid hP; have hsz := hP.1; clear hT hP
              go_wp2_with fail
              refine (int_any _ 40 _ HT.out (by omega) (by omega)).mono ?_
              rintro e wz ⟨v, rfl, v0, v1, ht, hgr⟩
              have hq := Past.grown (X := [w.heap.size]) hgr (by simp)
              exact hK _ _ _ rfl ⟨ht, HP.out.trans hq, hN.keep hq (by first | omega | (simp <;> omega)), Past.blk hq hS (by first | omega | (simp <;> omega))⟩ trivial ⟨v, rfl, v0, v1⟩
            refine calmSteps_cons (fun u_ wq n hn hn2 hC hk K hK => ?_) ?_
            · obtain ⟨hT, hP, hN, hS⟩ := hC
              simp only [calmKnown, List.getElem?_cons_zero, List.getElem?_cons_succ, and_true, Is, Pure, Option.some.injEq, List.getD_cons_zero, List.getD_cons_succ, List.map_cons, List.map_nil] at hk
              obtain ⟨h2, ⟨x4, h4, p4, q4⟩⟩ := hk
              simp only [h2, h4] at hK ⊢
              have H2 := Lib.hid h2; clear h2; have H4 := Lib.hid h4; clear h4
              have HT := Lib.hid hT; have HP := Lib.hid hP; have hsz := hP.1; clear hT hP
              have wx : IntKind.i64.wrap (now' - x4) = now' - x4 := IntWalk.i64_in _ (by omega)
              go_simp
              exact hK _ _ _ rfl ⟨HT.out, HP.out, hN, hS⟩ trivial ⟨_, rfl, by omega, by omega⟩
            refine calmSteps_cons (fun u_ wq n hn hn2 hC hk K hK => ?_) ?_
            · obtain ⟨hT, hP, hN, hS⟩ := hC
              clear hk
              have HT := Lib.hid hT; have HP := Lib.hid hP; have hsz := hP.1; clear hT hP
              go_simp
              exact hK _ _ _ rfl ⟨HT.out, HP.out, hN, hS⟩ trivial rfl
            refine calmSteps_cons (fun u_ wq n hn hn2 hC hk K hK => ?_) ?_
            · obtain ⟨hT, hP, hN, hS⟩ := hC
              clear hk
              have HT := Lib.hid hT; have HP := Lib.hid hP; have hsz := hP.1; clear hT hP
              go_simp
              exact hK _ _ _ rfl ⟨HT.out, HP.out, hN, hS⟩ trivial rfl
            refine calmSteps_cons (fun u_ wq n hn hn2 hC hk K hK => ?_) ?_
            · obtain ⟨hT, hP, hN, hS⟩ := hC
              simp only [calmKnown, List.getElem?_cons_zero, List.getElem?_cons_succ, and_true, Is, Pure, Option.some.injEq, List.getD_cons_zero, List.getD_cons_succ, List.map_cons, List.map_nil] at hk
              have h7 := hk; clear hk
              simp only [h7] at hK ⊢
              have H7 := Lib.hid h7; clear h7
              have HT := Lib.hid hT; have HP := Lib.hid hP; have hsz := hP.1; clear hT hP
              go_wp2_with fail
              refine (int_any _ 40 _ HT.out (by omega) (by omega)).mono ?_
              rintro e wz ⟨v, rfl, v0, v1, ht, hgr⟩
              have hq := Past.grown (X := [w.heap.size]) hgr (by simp)
              exact hK _ _ _ rfl ⟨ht, HP.out.trans hq, hN.keep hq (by first | omega | (simp <;> omega)), Past.blk hq hS (by first | omega | (simp <;> omega))⟩ trivial ⟨v, rfl, v0, v1⟩
            refine calmSteps_cons (fun u_ wq n hn hn2 hC hk K hK => ?_) ?_
            · obtain ⟨hT, hP, hN, hS⟩ := hC
              simp only [calmKnown, List.getElem?_cons_zero, List.getElem?_cons_succ, and_true, Is, Pure, Option.some.injEq, List.getD_cons_zero, List.getD_cons_succ, List.map_cons, List.map_nil] at hk
              obtain ⟨h6, ⟨x8, h8, p8, q8⟩⟩ := hk
              simp only [h6, h8] at hK ⊢
              have H6 := Lib.hid h6; clear h6; have H8 := Lib.hid h8; clear h8
              have HT := Lib.hid hT; have HP := Lib.hid hP; have hsz := hP.1; clear hT hP
              have wx : IntKind.i64.wrap (now' + x8) = now' + x8 := IntWalk.i64_in _ (by omega)
              go_simp
              exact hK _ _ _ rfl ⟨HT.out, HP.out, hN, hS⟩ trivial ⟨_, rfl, by omega, by omega⟩
            refine calmSteps_cons (fun u_ wq n hn hn2 hC hk K hK => ?_) ?_
            · obtain ⟨hT, hP, hN, hS⟩ := hC
              simp only [calmKnown, List.getElem?_cons_zero, List.getElem?_cons_succ, and_true, Is, Pure, Option.some.injEq, List.getD_cons_zero, List.getD_cons_succ, List.map_cons, List.map_nil] at hk
              obtain ⟨⟨x5, h5, p5, q5⟩, ⟨x9, h9, p9, q9⟩⟩ := hk
              simp only [h5, h9] at hK ⊢
              have H5 := Lib.hid h5; clear h5; have H9 := Lib.hid h9; clear h9
              have HT := Lib.hid hT; have HP := Lib.hid hP; have hsz := hP.1; clear hT hP
              go_simp
              exact hK _ _ _ rfl ⟨HT.out, HP.out, hN, hS⟩ trivial ⟨x5, x9, rfl, by omega, by omega, by omega, by omega⟩
            refine calmSteps_cons (fun u_ wq n hn hn2 hC hk K hK => ?_) ?_
            · obtain ⟨hT, hP, hN, hS⟩ := hC
              simp only [calmKnown, List.getElem?_cons_zero, List.getElem?_cons_succ, and_true, Is, Pure, Option.some.injEq, List.getD_cons_zero, List.getD_cons_succ, List.map_cons, List.map_nil] at hk
              obtain ⟨h0, h1, ⟨c10, d10, h10, y0, y1, y2, y3⟩⟩ := hk
              simp only [h0, h1, h10] at hK ⊢
              have H0 := Lib.hid h0; clear h0; have H1 := Lib.hid h1; clear h1; have H10 := Lib.hid h10; clear h10
              have HT := Lib.hid hT; have HP := Lib.hid hP; have hsz := hP.1; clear hT hP
              have hs : vS c10 d10 = true := vS_true.2 ⟨by omega, by omega, by omega⟩
              have hm : mtB X Y c10 d10 = true := by simp [mtB, HM2.out, hs]; omega
              have rl := ilearn_any ka klo khi P le 0 u' c10 d10
              rw [lrn_yes HM1.out hs hm, show min (le + 1) 1152921504606846976 = le + 1 by omega] at rl
              unfold Lrn.V V6 at rl
              dsimp only at rl
              clear hs hm
              obtain ⟨ca, hca⟩ : ∃ ca, ca = max X c10 := ⟨_, rfl⟩
              obtain ⟨da, hda⟩ : ∃ da, da = min Y d10 := ⟨_, rfl⟩
              rw [← hca, ← hda] at rl
              have z0 : -2000 ≤ ca := by omega
              have z1 : ca ≤ now' := by omega
              have z2 : now' ≤ da := by omega
              have z3 : da ≤ 100000000 := by omega
              clear hca hda
              go_wp2_with fail
              refine (rl _).mono ?_
              rintro e wz ⟨rfl, hbl⟩
              have hq := Past.below (X := [w.heap.size]) hbl
              exact hK _ _ _ rfl ⟨HT.out.below hbl, HP.out.trans hq, hN.keep hq (by first | omega | (simp <;> omega)), Blk.keep hbl hS⟩ trivial ⟨ca, da, rfl, z0, z1, z2, z3⟩
            refine calmSteps_cons (fun u_ wq n hn hn2 hC hk K hK => ?_) ?_
            · obtain ⟨hT, hP, hN, hS⟩ := hC
              simp only [calmKnown, List.getElem?_cons_zero, List.getElem?_cons_succ, and_true, Is, Pure, Option.some.injEq, List.getD_cons_zero, List.getD_cons_succ, List.map_cons, List.map_nil] at hk
              obtain ⟨c11, d11, h11, y0, y1, y2, y3⟩ := hk
              simp only [h11] at hK ⊢
              have H11 := Lib.hid h11; clear h11
              have HT := Lib.hid hT; have HP := Lib.hid hP; have hsz := hP.1; clear hT hP
              go_simp
              exact hK _ _ _ rfl ⟨HT.out, HP.out, hN, hS⟩ trivial ⟨c11, d11, rfl, y0, y1, y2, y3⟩
            refine calmSteps_cons (fun u_ wq n hn hn2 hC hk K hK => ?_) ?_
            · obtain ⟨hT, hP, hN, hS⟩ := hC
              simp only [calmKnown, List.getElem?_cons_zero, List.getElem?_cons_succ, and_true, Is, Pure, Option.some.injEq, List.getD_cons_zero, List.getD_cons_succ, List.map_cons, List.map_nil] at hk
              obtain ⟨c12, d12, h12, y0, y1, y2, y3⟩ := hk
              simp only [h12] at hK ⊢
              have H12 := Lib.hid h12; clear h12
              have HT := Lib.hid hT; have HP := Lib.hid hP; have hsz := hP.1; clear hT hP
              have hn1 := hn2 1 17 rfl (by kernel_rfl)
              go_simp
              exact hK _ _ _ rfl ⟨HT.out, HP.out, NewC.val (show NewC _ _ _ n [u_ 16, u_ 13] wq from hN) hn1, hS⟩ trivial ⟨c12, d12, rfl, y0, y1, y2, y3⟩
            refine calmSteps_cons (fun u_ wq n hn hn2 hC hk K hK => ?_) ?_
            · obtain ⟨hT, hP, hN, hS⟩ := hC
              simp only [calmKnown, List.getElem?_cons_zero, List.getElem?_cons_succ, and_true, Is, Pure, Option.some.injEq, List.getD_cons_zero, List.getD_cons_succ, List.map_cons, List.map_nil] at hk
              obtain ⟨c12, d12, h12, y0, y1, y2, y3⟩ := hk
              simp only [h12] at hK ⊢
              have H12 := Lib.hid h12; clear h12
              have HT := Lib.hid hT; have HP := Lib.hid hP; have hsz := hP.1; clear hT hP
              go_simp
              exact hK _ _ _ rfl ⟨HT.out, HP.out, hN, hS⟩ trivial rfl
            refine calmSteps_cons (fun u_ wq n hn hn2 hC hk K hK => ?_) ?_
            · obtain ⟨hT, hP, hN, hS⟩ := hC
              simp only [calmKnown, List.getElem?_cons_zero, List.getElem?_cons_succ, and_true, Is, Pure, Option.some.injEq, List.getD_cons_zero, List.getD_cons_succ, List.map_cons, List.map_nil] at hk
              obtain ⟨c12, d12, h12, y0, y1, y2, y3⟩ := hk
              simp only [h12] at hK ⊢
              have H12 := Lib.hid h12; clear h12
              have HT := Lib.hid hT; have HP := Lib.hid hP; have hsz := hP.1; clear hT hP
              go_simp
              exact hK _ _ _ rfl ⟨HT.out, HP.out, hN, hS⟩ trivial rfl
            refine calmSteps_cons (fun u_ wq n hn hn2 hC hk K hK => ?_) ?_
            · obtain ⟨hT, hP, hN, hS⟩ := hC
              clear hk
              obtain rfl := hn 0 rfl
              have HT := Lib.hid hT; have HP := Lib.hid hP; have hsz := hP.1; clear hT hP
              go_simp
              exact hK _ _ _ rfl ⟨HT.out.alloc _, HP.out.trans (Past.alloc _ _ _), NewC.made (x := u_ 13) hsz, hS.alloc _⟩ trivial trivial
            refine calmSteps_cons (fun u_ wq n hn hn2 hC hk K hK => ?_) ?_
            · obtain ⟨hT, hP, hN, hS⟩ := hC
              simp only [calmKnown, List.getElem?_cons_zero, List.getElem?_cons_succ, and_true, Is, Pure, Option.some.injEq, List.getD_cons_zero, List.getD_cons_succ, List.map_cons, List.map_nil] at hk
              obtain ⟨c13, d13, h13, -⟩ := hk
              simp only [h13] at hK ⊢
              have H13 := Lib.hid h13; clear h13
              obtain rfl := hn 1 rfl
              obtain ⟨g, h16, gb, gl, hB⟩ := NewC.one (show NewC _ _ _ 1 [u_ 16, u_ 13] wq from hN)
              simp only [h16] at hK ⊢
              have H16 := Lib.hid h16; clear h16 hN
              have gT : w.heap.size < g := by omega
              have lkW : gk < w6.heap.size := lK
              have HT := Lib.hid hT; have HP := Lib.hid hP; have hsz := hP.1; clear hT hP
              have hf := hB.frozen
              have hc := hB.cell
              go_simp
              have hB2 := setAll_blk [.int .i64 u', .int .i64 c13, .int .i64 d13, .int .i64 P, .int .i64 (le + 1), .int .i64 0] 0 wq _ hB
              simp only [setArr, List.setIfInBounds_toArray, List.set_cons_zero, List.set_cons_succ, Nat.zero_add, Nat.reduceAdd] at hB2
              have h1 := setAll_tape gT [.int .i64 u', .int .i64 c13, .int .i64 d13, .int .i64 P, .int .i64 (le + 1), .int .i64 0] 0 wq HT.out
              have h2 := setAll_past (X := [w.heap.size]) (W := w6) (g := g) gb [.int .i64 u', .int .i64 c13, .int .i64 d13, .int .i64 P, .int .i64 (le + 1), .int .i64 0] 0 wq HP.out
              have h40 := setAll_far (show gk ≠ g by omega) [.int .i64 u', .int .i64 c13, .int .i64 d13, .int .i64 P, .int .i64 (le + 1), .int .i64 0] 0 wq hS
              exact hK _ undef (setAll wq g 0 [.int .i64 u', .int .i64 c13, .int .i64 d13, .int .i64 P, .int .i64 (le + 1), .int .i64 0]) rfl ⟨h1, h2, (show NewC _ _ _ 2 [u_ 16, u_ 13] _ from by rw [H16.out, H13.out]; exact NewC.stored gb hB2), h40⟩ trivial trivial
            refine calmSteps_cons (fun u_ wq n hn hn2 hC hk K hK => ?_) ?_
            · obtain ⟨hT, hP, hN, hS⟩ := hC
              simp only [calmKnown, List.getElem?_cons_zero, List.getElem?_cons_succ, and_true, Is, Pure, Option.some.injEq, List.getD_cons_zero, List.getD_cons_succ, List.map_cons, List.map_nil] at hk
              have h14 := hk; clear hk
              simp only [h14] at hK ⊢
              have H14 := Lib.hid h14; clear h14
              have HT := Lib.hid hT; have HP := Lib.hid hP; have hsz := hP.1; clear hT hP
              go_simp
              exact hK _ _ _ rfl ⟨HT.out, HP.out, hN, hS⟩ trivial rfl
            refine calmSteps_cons (fun u_ wq n hn hn2 hC hk K hK => ?_) ?_
            · obtain ⟨hT, hP, hN, hS⟩ := hC
              simp only [calmKnown, List.getElem?_cons_zero, List.getElem?_cons_succ, and_true, Is, Pure, Option.some.injEq, List.getD_cons_zero, List.getD_cons_succ, List.map_cons, List.map_nil] at hk
              have h15 := hk; clear hk
              simp only [h15] at hK ⊢
              have H15 := Lib.hid h15; clear h15
              have HT := Lib.hid hT; have HP := Lib.hid hP; have hsz := hP.1; clear hT hP
              go_simp
              exact hK _ _ _ rfl ⟨HT.out, HP.out, hN, hS⟩ trivial rfl
            exact calmSteps_nil
          · intro u_ w9 hC hF
            obtain ⟨ht9, hP, hN, hS9⟩ := hC
            obtain ⟨gn, cs5, g9, gb, g6, hB⟩ := NewC.last (show NewC _ _ _ 2 [u_ 16, u_ 13] w9 from hN)
            simp only [calmFacts, Pure, Is, List.map_cons, List.map_nil, and_true, Nat.zero_add, Nat.reduceAdd] at hF
            obtain ⟨-, -, -, -, -, -, -, -, -, -, -, -, -, ⟨c, d, h13, y0, y1, y2, y3⟩, -, -, -, -, h18, h19⟩ := hF
            rw [g6] at h13
            obtain rfl : cs5 = _ := by injection h13
            clear h13 hN g6 hS9
            simp only [g9, h18, h19]
            clear g9 h18 h19
            have oK9 := lK; have oS9 := lS; have oT9 := lT
            have K9 : Below w.heap.size w w9 := Past.below' (by (repeat' (first | (with_reducible exact K6) | (with_reducible refine Below.setCell ?_ ?_ _) | (with_reducible refine Below.alloc ?_ ?_ _) | (with_reducible refine Below.drew ?_) | (with_reducible refine below_drewN ?_ _))) <;> (first | omega | (simp <;> omega))) hP (by first | omega | (simp <;> omega))
            have Z9 : w.heap.size ≤ w9.heap.size := K9.size
            have bK' := Past.blkG (g := gk) hP (by (repeat' (first | (with_reducible refine' Blk.alloc ?_ _) | (with_reducible refine' Blk.drew ?_) | (with_reducible refine' Blk.drewN ?_ _) | (with_reducible refine' Blk.put ?_ ?_) | (with_reducible refine' Blk.far ?_ ?_ _) | exact bK | exact rfl)) <;> (first | omega | (simp <;> omega))) (by first | omega | (simp <;> omega))
            (try simp only [List.setIfInBounds_toArray, List.set_cons_zero, List.set_cons_succ] at bK')
            have bS' := Past.blkG (g := w2.heap.size) hP (by (repeat' (first | (with_reducible refine' Blk.alloc ?_ _) | (with_reducible refine' Blk.drew ?_) | (with_reducible refine' Blk.drewN ?_ _) | (with_reducible refine' Blk.put ?_ ?_) | (with_reducible refine' Blk.far ?_ ?_ _) | exact bS | exact rfl)) <;> (first | omega | (simp <;> omega))) (by first | omega | (simp <;> omega))
            (try simp only [List.setIfInBounds_toArray, List.set_cons_zero, List.set_cons_succ] at bS')
            have bT' := Past.blkG (g := gs) hP (by (repeat' (first | (with_reducible refine' Blk.alloc ?_ _) | (with_reducible refine' Blk.drew ?_) | (with_reducible refine' Blk.drewN ?_ _) | (with_reducible refine' Blk.put ?_ ?_) | (with_reducible refine' Blk.far ?_ ?_ _) | exact bT | exact rfl)) <;> (first | omega | (simp <;> omega))) (by first | omega | (simp <;> omega))
            (try simp only [List.setIfInBounds_toArray, List.set_cons_zero, List.set_cons_succ] at bT')
            have b5_0' := Past.blkG (g := w4.heap.size) hP (by (repeat' (first | (with_reducible refine' Blk.alloc ?_ _) | (with_reducible refine' Blk.drew ?_) | (with_reducible refine' Blk.drewN ?_ _) | (with_reducible refine' Blk.put ?_ ?_) | (with_reducible refine' Blk.far ?_ ?_ _) | exact b5_0 | exact rfl)) <;> (first | omega | (simp <;> omega))) (by first | omega | (simp <;> omega))
            (try simp only [List.setIfInBounds_toArray, List.set_cons_zero, List.set_cons_succ] at b5_0')
            clear HT; have T9 := ht9.lt; have HT := Lib.hid ht9; clear ht9
            clear hP K6
            clear bK cK fK lK eK kK; have bK := bK'; clear bK'
            clear bS cS fS lS eS kS; have bS := bS'; clear bS'
            clear bT cT fT lT eT kT; have bT := bT'; clear bT'
            clear b5_0 c5_0 f5_0 l5_0 e5_0 k5_0; have b5_0 := b5_0'; clear b5_0'
            obtain ⟨cK, fK, lK, eK, kK⟩ := Blk.facts bK
            obtain ⟨cS, fS, lS, eS, kS⟩ := Blk.facts bS
            obtain ⟨cT, fT, lT, eT, kT⟩ := Blk.facts bT
            obtain ⟨c5_0, f5_0, l5_0, e5_0, k5_0⟩ := Blk.facts b5_0
            have bN := hB; clear hB
            obtain ⟨cN, fN, lN, eN, kN⟩ := Blk.facts bN
            have nN : gk ≠ gn := by omega
            have nN2 : w2.heap.size ≠ gn := by omega
            have nN3 : gs ≠ gn := by omega
            have rh := rholds_all c d now'
            rw [show hdB c d now' = true by simp [hdB, vS_true]; omega] at rh
            have RH2 := Lib.hid rh; clear rh
            go_wp2_with fail
            refine (RH2.out _).mono ?_
            rintro e w10 ⟨rfl, hb10⟩
            have K10 : Below w.heap.size w w10 := kept_call hb10 (by (repeat' (first | (with_reducible exact K9) | (with_reducible refine Below.setCell ?_ ?_ _) | (with_reducible refine Below.alloc ?_ ?_ _) | (with_reducible refine Below.drew ?_) | (with_reducible refine below_drewN ?_ _))) <;> (first | omega | (simp <;> omega)))
            have Z10 : w.heap.size ≤ w10.heap.size := K10.size
            have bK' := Blk.keep (g := gk) hb10 (by (repeat' (first | (with_reducible refine' Blk.alloc ?_ _) | (with_reducible refine' Blk.drew ?_) | (with_reducible refine' Blk.drewN ?_ _) | (with_reducible refine' Blk.put ?_ ?_) | (with_reducible refine' Blk.far ?_ ?_ _) | exact bK | exact rfl)) <;> (first | omega | (simp <;> omega)))
            (try simp only [List.setIfInBounds_toArray, List.set_cons_zero, List.set_cons_succ] at bK')
            have bS' := Blk.keep (g := w2.heap.size) hb10 (by (repeat' (first | (with_reducible refine' Blk.alloc ?_ _) | (with_reducible refine' Blk.drew ?_) | (with_reducible refine' Blk.drewN ?_ _) | (with_reducible refine' Blk.put ?_ ?_) | (with_reducible refine' Blk.far ?_ ?_ _) | exact bS | exact rfl)) <;> (first | omega | (simp <;> omega)))
            (try simp only [List.setIfInBounds_toArray, List.set_cons_zero, List.set_cons_succ] at bS')
            have bT' := Blk.keep (g := gs) hb10 (by (repeat' (first | (with_reducible refine' Blk.alloc ?_ _) | (with_reducible refine' Blk.drew ?_) | (with_reducible refine' Blk.drewN ?_ _) | (with_reducible refine' Blk.put ?_ ?_) | (with_reducible refine' Blk.far ?_ ?_ _) | exact bT | exact rfl)) <;> (first | omega | (simp <;> omega)))
            (try simp only [List.setIfInBounds_toArray, List.set_cons_zero, List.set_cons_succ] at bT')
            have b5_0' := Blk.keep (g := w4.heap.size) hb10 (by (repeat' (first | (with_reducible refine' Blk.alloc ?_ _) | (with_reducible refine' Blk.drew ?_) | (with_reducible refine' Blk.drewN ?_ _) | (with_reducible refine' Blk.put ?_ ?_) | (with_reducible refine' Blk.far ?_ ?_ _) | exact b5_0 | exact rfl)) <;> (first | omega | (simp <;> omega)))
            (try simp only [List.setIfInBounds_toArray, List.set_cons_zero, List.set_cons_succ] at b5_0')
            have bN' := Blk.keep (g := gn) hb10 (by (repeat' (first | (with_reducible refine' Blk.alloc ?_ _) | (with_reducible refine' Blk.drew ?_) | (with_reducible refine' Blk.drewN ?_ _) | (with_reducible refine' Blk.put ?_ ?_) | (with_reducible refine' Blk.far ?_ ?_ _) | exact bN | exact rfl)) <;> (first | omega | (simp <;> omega)))
            (try simp only [List.setIfInBounds_toArray, List.set_cons_zero, List.set_cons_succ] at bN')
            have ht10 := TapeAt.below (by (repeat' (first | (with_reducible exact HT.out) | (with_reducible refine' TapeAt.alloc ?_ _) | (with_reducible refine' TapeAt.drew ?_) | (with_reducible refine' TapeAt.drewN ?_ _) | (with_reducible refine' TapeAt.set ?_ ?_ _))) <;> (first | omega | (simp <;> omega))) hb10
            clear HT; have T10 := ht10.lt; have HT := Lib.hid ht10; clear ht10
            clear hb10 K9
            clear bK cK fK lK eK kK; have bK := bK'; clear bK'
            clear bS cS fS lS eS kS; have bS := bS'; clear bS'
            clear bT cT fT lT eT kT; have bT := bT'; clear bT'
            clear b5_0 c5_0 f5_0 l5_0 e5_0 k5_0; have b5_0 := b5_0'; clear b5_0'
            clear bN cN fN lN eN kN; have bN := bN'; clear bN'
            obtain ⟨cK, fK, lK, eK, kK⟩ := Blk.facts bK
            obtain ⟨cS, fS, lS, eS, kS⟩ := Blk.facts bS
            obtain ⟨cT, fT, lT, eT, kT⟩ := Blk.facts bT
            obtain ⟨c5_0, f5_0, l5_0, e5_0, k5_0⟩ := Blk.facts b5_0
            obtain ⟨cN, fN, lN, eN, kN⟩ := Blk.facts bN
            go_wp2
            go_roundg (m - (k + 1))
            case measure => omega
            case rel => exact ⟨k + 1, now', u', u', c, d, le + 1, by omega, by omega, by go_num, rfl, rfl, by omega, by omega, by omega, by omega, by omega, by omega, by omega, by omega, by omega, by omega, by omega, TInv.start p0 p1 y1 y2, by (repeat' (first | (with_reducible refine' Blk.alloc ?_ _) | (with_reducible refine' Blk.drew ?_) | (with_reducible refine' Blk.drewN ?_ _) | (with_reducible refine' Blk.put ?_ ?_) | (with_reducible refine' Blk.far ?_ ?_ _) | exact bK | exact rfl)) <;> (first | omega | (simp <;> omega)), by (repeat' (first | (with_reducible refine' Blk.alloc ?_ _) | (with_reducible refine' Blk.drew ?_) | (with_reducible refine' Blk.drewN ?_ _) | (with_reducible refine' Blk.put ?_ ?_) | (with_reducible refine' Blk.far ?_ ?_ _) | exact bS | exact rfl)) <;> (first | omega | (simp <;> omega)), by (repeat' (first | (with_reducible refine' Blk.alloc ?_ _) | (with_reducible refine' Blk.drew ?_) | (with_reducible refine' Blk.drewN ?_ _) | (with_reducible refine' Blk.put ?_ ?_) | (with_reducible refine' Blk.far ?_ ?_ _) | exact bT | exact rfl)) <;> (first | omega | (simp <;> omega)), (by (repeat' (first | (with_reducible exact HT.out) | (with_reducible refine' TapeAt.alloc ?_ _) | (with_reducible refine' TapeAt.drew ?_) | (with_reducible refine' TapeAt.drewN ?_ _) | (with_reducible refine' TapeAt.set ?_ ?_ _))) <;> (first | omega | (simp <;> omega))), by (repeat' (first | (with_reducible exact K10) | (with_reducible refine Below.setCell ?_ ?_ _) | (with_reducible refine Below.alloc ?_ ?_ _) | (with_reducible refine Below.drew ?_) | (with_reducible refine below_drewN ?_ _))) <;> (first | omega | (simp <;> omega))⟩
      · obtain rfl : k = m := by omega
        have gk1 : decide ((k : Int) < (k : Int)) = false := decide_eq_false (by omega)
        go_wp2_with fail
        refine (known37_any _).mono ?_
        rintro e w11 ⟨rfl, hb11⟩
        have K11 : Below w.heap.size w w11 := kept_call hb11 (by (repeat' (first | (with_reducible exact KR) | (with_reducible refine Below.setCell ?_ ?_ _) | (with_reducible refine Below.alloc ?_ ?_ _) | (with_reducible refine Below.drew ?_) | (with_reducible refine below_drewN ?_ _))) <;> (first | omega | (simp <;> omega)))
        have Z11 : w.heap.size ≤ w11.heap.size := K11.size
        have bK' := Blk.keep (g := gk) hb11 (by (repeat' (first | (with_reducible refine' Blk.alloc ?_ _) | (with_reducible refine' Blk.drew ?_) | (with_reducible refine' Blk.drewN ?_ _) | (with_reducible refine' Blk.put ?_ ?_) | (with_reducible refine' Blk.far ?_ ?_ _) | exact bK | exact rfl)) <;> (first | omega | (simp <;> omega)))
        (try simp only [List.setIfInBounds_toArray, List.set_cons_zero, List.set_cons_succ] at bK')
        have bS' := Blk.keep (g := w2.heap.size) hb11 (by (repeat' (first | (with_reducible refine' Blk.alloc ?_ _) | (with_reducible refine' Blk.drew ?_) | (with_reducible refine' Blk.drewN ?_ _) | (with_reducible refine' Blk.put ?_ ?_) | (with_reducible refine' Blk.far ?_ ?_ _) | exact bS | exact rfl)) <;> (first | omega | (simp <;> omega)))
        (try simp only [List.setIfInBounds_toArray, List.set_cons_zero, List.set_cons_succ] at bS')
        have bT' := Blk.keep (g := gs) hb11 (by (repeat' (first | (with_reducible refine' Blk.alloc ?_ _) | (with_reducible refine' Blk.drew ?_) | (with_reducible refine' Blk.drewN ?_ _) | (with_reducible refine' Blk.put ?_ ?_) | (with_reducible refine' Blk.far ?_ ?_ _) | exact bT | exact rfl)) <;> (first | omega | (simp <;> omega)))
        (try simp only [List.setIfInBounds_toArray, List.set_cons_zero, List.set_cons_succ] at bT')
        have ht11 := TapeAt.below (by (repeat' (first | (with_reducible exact HT.out) | (with_reducible refine' TapeAt.alloc ?_ _) | (with_reducible refine' TapeAt.drew ?_) | (with_reducible refine' TapeAt.drewN ?_ _) | (with_reducible refine' TapeAt.set ?_ ?_ _))) <;> (first | omega | (simp <;> omega))) hb11
        clear HT; have T11 := ht11.lt; have HT := Lib.hid ht11; clear ht11
        clear hb11 KR
        clear bK cK fK lK eK kK; have bK := bK'; clear bK'
        clear bS cS fS lS eS kS; have bS := bS'; clear bS'
        clear bT cT fT lT eT kT; have bT := bT'; clear bT'
        obtain ⟨cK, fK, lK, eK, kK⟩ := Blk.facts bK
        obtain ⟨cS, fS, lS, eS, kS⟩ := Blk.facts bS
        obtain ⟨cT, fT, lT, eT, kT⟩ := Blk.facts bT
        go_wp2
        go_ret
        exact ⟨rfl, by (repeat' (first | (with_reducible exact K11) | (with_reducible refine Below.setCell ?_ ?_ _) | (with_reducible refine Below.alloc ?_ ?_ _) | (with_reducible refine Below.drew ?_) | (with_reducible refine below_drewN ?_ _))) <;> (first | omega | (simp <;> omega))⟩
theorem true37_walk (A : Option Addr) (len cap : Nat) (zs : List Int) {w : World} (hA : IntsAt w A len zs) (W : World) (h : W = w) :
    Walked 4 #[.slice A len cap] W := by
  subst h; exact true37_core A len cap zs W hA
end Go.Proofs.Yteodoehhkhacoaa
