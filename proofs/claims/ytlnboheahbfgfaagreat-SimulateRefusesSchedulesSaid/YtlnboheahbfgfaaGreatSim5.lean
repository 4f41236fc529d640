/- simulate: report. -/
import Derived.Test.YtlnboheahbfgfaaGreatJ36
import Derived.Test.YtlnboheahbfgfaaGreatJ40
import Derived.Test.YtlnboheahbfgfaaGreatJ46
namespace Go.Proofs.YtlnboheahbfgfaaGreat
open Go.RowKit Go.Shelf Go.Sort
set_option linter.unusedSimpArgs false
set_option linter.unusedVariables false

theorem iread_rb (c : Clk) (t lo hi : Int) (w : World) : Calls Tryz.prog 95 #[.agg #[.int .i64 c.aim, .int .i64 c.rate, .bool c.set, .bool c.held, .int .i64 c.at_, .int .i64 c.shown], .int .i64 t, .agg #[.int .i64 lo, .int .i64 hi]] w (RB w (.tuple #[.agg (readK c t lo hi).cs.toArray, .int .i64 (rdE c.aim c.rate c.set c.at_ c.shown t lo hi)])) := by
 rw [← readK_V]; exact read_any c.aim c.rate c.set c.held c.at_ c.shown t lo hi w
set_option maxRecDepth 100000 in
set_option maxHeartbeats 8000000 in
theorem report_any (g : Nat) (nc : Clk) (rp : Rep) {sta loc p li ai : Int} {VE VS VQ : Value} {t u : Int} {os : Bool} {ka klo khi kp kle kre cai cra : Int} {cse che : Bool} {cat csh : Int} (w : World) (h : Blk w g 106 #[.int .i64 sta, .int .i64 loc, .int .i64 p, .int .i64 li, .int .i64 ai, VE, VS, .int .i64 t, .int .i64 u, VQ, .bool os, .int .i64 ka, .int .i64 klo, .int .i64 khi, .int .i64 kp, .int .i64 kle, .int .i64 kre, .int .i64 cai, .int .i64 cra, .bool cse, .bool che, .int .i64 cat, .int .i64 csh]) (hc : nc = ckOf (os, ⟨ka, klo, khi, kp, kle, kre⟩) ⟨cai, cra, cse, che, cat, csh⟩ u) (hr : rp = repOf (os, ⟨ka, klo, khi, kp, kle, kre⟩) ⟨cai, cra, cse, che, cat, csh⟩ u t) :
  Calls Tryz.prog 60 #[.pointer (some ⟨g, 0, none⟩)] w fun e w' => e = .returned (.agg rp.cs.toArray) ∧ Blk w' g 106 #[.int .i64 sta, .int .i64 loc, .int .i64 p, .int .i64 li, .int .i64 ai, VE, VS, .int .i64 t, .int .i64 u, VQ, .bool os, .int .i64 ka, .int .i64 klo, .int .i64 khi, .int .i64 kp, .int .i64 kle, .int .i64 kre, .int .i64 nc.aim, .int .i64 nc.rate, .bool nc.set, .bool nc.held, .int .i64 nc.at_, .int .i64 nc.shown] ∧ Past [g] w w' := by
 have lgP := h.lt
 have bP := h; clear h
 cases os with
 | false =>
  have hc' : nc = ⟨cai, cra, cse, che, cat, csh⟩ := hc
  have hr' : rp = ⟨u, t, false, 0, 0, .zero⟩ := hr
  subst hc'; subst hr'
  clear hc hr
  dsimp only
  go_enter Tryz.func60, Tryz.ntmps60
  obtain ⟨cP, fP, lP, eP, kP⟩ := Blk.facts bP
  go_upto_region 1 with fail
  obtain ⟨wA, hwA⟩ : ∃ x : World, x = (w.alloc (.cells #[.int .i64 0, .int .i64 0, .bool false, .int .i64 0, .int .i64 0, .int .i64 0, .int .i64 0, .bool false, .bool false, .int .i64 0, .int .i64 0] 64)) := ⟨_, rfl⟩
  have hqA : Past [g] w wA := by rw [hwA]; exact (Past.refl _ _).allocs _
  have bO' : Blk wA w.heap.size 64 #[.int .i64 0, .int .i64 0, .bool false, .int .i64 0, .int .i64 0, .int .i64 0, .int .i64 0, .bool false, .bool false, .int .i64 0, .int .i64 0] := by rw [hwA]; exact Blk.new _ _ _
  have bP' : Blk wA g 106 #[.int .i64 sta, .int .i64 loc, .int .i64 p, .int .i64 li, .int .i64 ai, VE, VS, .int .i64 t, .int .i64 u, VQ, .bool false, .int .i64 ka, .int .i64 klo, .int .i64 khi, .int .i64 kp, .int .i64 kle, .int .i64 kre, .int .i64 cai, .int .i64 cra, .bool cse, .bool che, .int .i64 cat, .int .i64 csh] := by rw [hwA]; exact bP.alloc _
  have ZA : w.heap.size + 1 ≤ wA.heap.size := by rw [hwA]; simp
  rw [← hwA]
  clear hwA bP cP fP lP eP kP
  have bP := bP'; have bO := bO'; clear bP' bO'
  obtain ⟨cP, fP, lP, eP, kP⟩ := Blk.facts bP
  obtain ⟨cO, fO, lO, eO, kO⟩ := Blk.facts bO
  have oO := lO
  refine' wp_region_calmD (by kernel_rfl) (fun D u9 w' => Past [] wA w' ∧ Blk w' (g) 106 #[.int .i64 sta, .int .i64 loc, .int .i64 p, .int .i64 li, .int .i64 ai, VE, VS, .int .i64 t, .int .i64 u, VQ, .bool false, .int .i64 ka, .int .i64 klo, .int .i64 khi, .int .i64 kp, .int .i64 kle, .int .i64 kre, .int .i64 cai, .int .i64 cra, .bool cse, .bool che, .int .i64 cat, .int .i64 csh] ∧ Blk w' (w.heap.size) 64 #[.int .i64 0, .int .i64 0, .bool false, .int .i64 0, .int .i64 0, .int .i64 0, .int .i64 0, .bool false, .bool false, .int .i64 0, .int .i64 0] ∧ NewD wA.heap.size 64 #[.int .i64 0, .int .i64 0, .bool false, .int .i64 0, .int .i64 0, .int .i64 0, .int .i64 0, .bool false, .bool false, .int .i64 0, .int .i64 0] #[.int .i64 u, .int .i64 t, .bool false, .int .i64 0, .int .i64 0, .int .i64 0, .int .i64 0, .bool false, .bool false, .int .i64 0, .int .i64 0] (D 14) (D 15) (u9 14) w' ∧ wA.heap.size ≤ w'.heap.size) (fun _ _ => True) [(Is _), (Is _), (Is _), (Is _), (Is _), (Is _), (Is _), (Is _), (Is _), (Is _), (Is _), (Is _), (Is _), (Is _), (fun _ _ _ => True), (fun _ _ _ => True)] [[], [0], [1], [2], [], [4], [5], [6], [], [8], [9], [10], [11], [3, 7, 12], [], [14, 13]] rfl (by kernel_rfl) (fun u => by (simp only [calmPut, Act.put, lst, ls0, ls1, Nat.zero_add, Nat.reduceAdd]; rfl)) ?_ (kcc keep_is' (kcc keep_is' (kcc keep_is' (kcc keep_is' (kcc keep_is' (kcc keep_is' (kcc keep_is' (kcc keep_is' (kcc keep_is' (kcc keep_is' (kcc keep_is' (kcc keep_is' (kcc keep_is' (kcc keep_is' (kcc keep_triv (kcc keep_triv (calmKeep_nil))))))))))))))))) ?_ ?_
  ·exact ⟨pa1, bn1, bn1, NewD.start _, (by first | exact Nat.le_refl _ | omega | (simp <;> omega))⟩
  rotate_left 14
  ·skip
   refine dc2 (fun uu wq D hd hn hn2 hC hk K hK => ?_) ?_
   ·obtain ⟨hP, mP, mO, nR, hZ⟩ := hC
    clear hk
    go_simp
    exact hK _ _ _ rfl ⟨hP, mP, mO, nR, hZ⟩ trivial rfl
   refine dc2 (fun uu wq D hd hn hn2 hC hk K hK => ?_) ?_
   ·obtain ⟨hP, mP, mO, nR, hZ⟩ := hC
    simp only [calmKnown, lg0, lg1, and_true, Is] at hk
    have h0 := hk; clear hk
    simp only [h0] at hK ⊢
    have H0 := hYd h0; clear h0
    go_simp
    exact hK _ _ _ rfl ⟨hP, mP, mO, nR, hZ⟩ trivial rfl
   refine dc2 (fun uu wq D hd hn hn2 hC hk K hK => ?_) ?_
   ·obtain ⟨hP, mP, mO, nR, hZ⟩ := hC
    simp only [calmKnown, lg0, lg1, and_true, Is] at hk
    have h1 := hk; clear hk
    simp only [h1] at hK ⊢
    have H1 := hYd h1; clear h1
    go_simp
    exact hK _ _ _ rfl ⟨hP, mP, mO, nR, hZ⟩ trivial rfl
   refine dc2 (fun uu wq D hd hn hn2 hC hk K hK => ?_) ?_
   ·obtain ⟨hP, mP, mO, nR, hZ⟩ := hC
    simp only [calmKnown, lg0, lg1, and_true, Is] at hk
    have h2 := hk; clear hk
    simp only [h2] at hK ⊢
    have H2 := hYd h2; clear h2
    have cP := mP.cell; have lP := mP.lt
    have cO := mO.cell; have lO := mO.lt
    go_simp
    exact hK _ _ _ rfl ⟨hP, mP, mO, nR, hZ⟩ trivial rfl
   refine dc2 (fun uu wq D hd hn hn2 hC hk K hK => ?_) ?_
   ·obtain ⟨hP, mP, mO, nR, hZ⟩ := hC
    clear hk
    go_simp
    exact hK _ _ _ rfl ⟨hP, mP, mO, nR, hZ⟩ trivial rfl
   refine dc2 (fun uu wq D hd hn hn2 hC hk K hK => ?_) ?_
   ·obtain ⟨hP, mP, mO, nR, hZ⟩ := hC
    simp only [calmKnown, lg0, lg1, and_true, Is] at hk
    have h4 := hk; clear hk
    simp only [h4] at hK ⊢
    have H4 := hYd h4; clear h4
    go_simp
    exact hK _ _ _ rfl ⟨hP, mP, mO, nR, hZ⟩ trivial rfl
   refine dc2 (fun uu wq D hd hn hn2 hC hk K hK => ?_) ?_
   ·obtain ⟨hP, mP, mO, nR, hZ⟩ := hC
    simp only [calmKnown, lg0, lg1, and_true, Is] at hk
    have h5 := hk; clear hk
    simp only [h5] at hK ⊢
    have H5 := hYd h5; clear h5
    go_simp
    exact hK _ _ _ rfl ⟨hP, mP, mO, nR, hZ⟩ trivial rfl
   refine dc2 (fun uu wq D hd hn hn2 hC hk K hK => ?_) ?_
   ·obtain ⟨hP, mP, mO, nR, hZ⟩ := hC
    simp only [calmKnown, lg0, lg1, and_true, Is] at hk
    have h6 := hk; clear hk
    simp only [h6] at hK ⊢
    have H6 := hYd h6; clear h6
    have cP := mP.cell; have lP := mP.lt
    have cO := mO.cell; have lO := mO.lt
    go_simp
    exact hK _ _ _ rfl ⟨hP, mP, mO, nR, hZ⟩ trivial rfl
   refine dc2 (fun uu wq D hd hn hn2 hC hk K hK => ?_) ?_
   ·obtain ⟨hP, mP, mO, nR, hZ⟩ := hC
    clear hk
    go_simp
    exact hK _ _ _ rfl ⟨hP, mP, mO, nR, hZ⟩ trivial rfl
   refine dc2 (fun uu wq D hd hn hn2 hC hk K hK => ?_) ?_
   ·obtain ⟨hP, mP, mO, nR, hZ⟩ := hC
    simp only [calmKnown, lg0, lg1, and_true, Is] at hk
    have h8 := hk; clear hk
    simp only [h8] at hK ⊢
    have H8 := hYd h8; clear h8
    go_simp
    exact hK _ _ _ rfl ⟨hP, mP, mO, nR, hZ⟩ trivial rfl
   refine dc2 (fun uu wq D hd hn hn2 hC hk K hK => ?_) ?_
   ·obtain ⟨hP, mP, mO, nR, hZ⟩ := hC
    simp only [calmKnown, lg0, lg1, and_true, Is] at hk
    have h9 := hk; clear hk
    simp only [h9] at hK ⊢
    have H9 := hYd h9; clear h9
    go_simp
    exact hK _ _ _ rfl ⟨hP, mP, mO, nR, hZ⟩ trivial rfl
   refine dc2 (fun uu wq D hd hn hn2 hC hk K hK => ?_) ?_
   ·obtain ⟨hP, mP, mO, nR, hZ⟩ := hC
    simp only [calmKnown, lg0, lg1, and_true, Is] at hk
    have h10 := hk; clear hk
    simp only [h10] at hK ⊢
    have H10 := hYd h10; clear h10
    go_simp
    exact hK _ _ _ rfl ⟨hP, mP, mO, nR, hZ⟩ trivial rfl
   refine dc2 (fun uu wq D hd hn hn2 hC hk K hK => ?_) ?_
   ·obtain ⟨hP, mP, mO, nR, hZ⟩ := hC
    simp only [calmKnown, lg0, lg1, and_true, Is] at hk
    have h11 := hk; clear hk
    simp only [h11] at hK ⊢
    have H11 := hYd h11; clear h11
    have cP := mP.cell; have lP := mP.lt
    have cO := mO.cell; have lO := mO.lt
    go_simp
    exact hK _ _ _ rfl ⟨hP, mP, mO, nR, hZ⟩ trivial rfl
   refine dc2 (fun uu wq D hd hn hn2 hC hk K hK => ?_) ?_
   ·obtain ⟨hP, mP, mO, nR, hZ⟩ := hC
    simp only [calmKnown, lg0, lg1, and_true, Is] at hk
    obtain ⟨h3, h7, h12⟩ := hk
    simp only [h3, h7, h12] at hK ⊢
    have H3 := hYd h3; clear h3; have H7 := hYd h7; clear h7; have H12 := hYd h12; clear h12
    go_simp
    exact hK _ _ _ rfl ⟨hP, mP, mO, nR, hZ⟩ trivial rfl
   refine dc2 (fun uu wq D hd hn hn2 hC hk K hK => ?_) ?_
   ·obtain ⟨hP, mP, mO, nR, hZ⟩ := hC
    clear hk
    have d15 := hn.out 15 (by kernel_rfl)
    go_simp
    exact hK _ _ _ rfl ⟨hP.allocs _, mP.alloc _, mO.alloc _, NewD.made hZ d15, Nat.le_trans hZ (by simp)⟩ trivial trivial
   refine dc2 (fun uu wq D hd hn hn2 hC hk K hK => ?_) ?_
   ·obtain ⟨hP, mP, mO, nR, hZ⟩ := hC
    simp only [calmKnown, lg0, lg1, and_true, Is] at hk
    obtain ⟨-, h13⟩ := hk
    simp only [h13] at hK ⊢
    have H13 := hYd h13; clear h13
    have da : D 14 = true := hn2.out 14 (by kernel_rfl)
    obtain ⟨gn, hgn, gb, gl, hB⟩ := nR.one da hd
    simp only [hgn] at hK ⊢
    have hc9 := hB.cell; have hf9 := hB.frozen
    have hB2 := setAll_blk [.int .i64 u, .int .i64 t, .bool false, .int .i64 0, .int .i64 0, .int .i64 0, .int .i64 0, .bool false, .bool false, .int .i64 0, .int .i64 0] 0 wq _ hB
    simp only [setArr, lst, ls0, ls1, Nat.zero_add, Nat.reduceAdd] at hB2
    go_simp
    exact hK _ undef (setAll wq gn 0 [.int .i64 u, .int .i64 t, .bool false, .int .i64 0, .int .i64 0, .int .i64 0, .int .i64 0, .bool false, .bool false, .int .i64 0, .int .i64 0]) rfl ⟨(setAll_past gb [.int .i64 u, .int .i64 t, .bool false, .int .i64 0, .int .i64 0, .int .i64 0, .int .i64 0, .bool false, .bool false, .int .i64 0, .int .i64 0] 0 wq hP), setAll_far (show g ≠ gn by first | omega | (simp <;> omega)) [.int .i64 u, .int .i64 t, .bool false, .int .i64 0, .int .i64 0, .int .i64 0, .int .i64 0, .bool false, .bool false, .int .i64 0, .int .i64 0] 0 wq mP, setAll_far (show w.heap.size ≠ gn by first | omega | (simp <;> omega)) [.int .i64 u, .int .i64 t, .bool false, .int .i64 0, .int .i64 0, .int .i64 0, .int .i64 0, .bool false, .bool false, .int .i64 0, .int .i64 0] 0 wq mO, (show NewD _ _ _ _ (D 14) true (uu 14) _ from by rw [hgn]; exact NewD.stored gb hB2), (by rw [setAll_size]; exact hZ)⟩ trivial trivial
   exact dSteps_nil
  ·intro uu v1 D hD hC hF
   obtain ⟨hP, mP, mO, nR, hZ⟩ := hC
   simp only [calmFacts, Is, and_true, true_and] at hF
   obtain ⟨f0, f1, f2, f3, f4, f5, f6, f7, f8, f9, f10, f11, f12, f13⟩ := hF
   simp only [f0, f1, f2, f3, f4, f5, f6, f7, f8, f9, f10, f11, f12, f13]
   obtain ⟨gR, e9R, gbR, glR, bR'⟩ := nR.last (hD 14 (by decide)) (hD 15 (by decide))
   simp only [e9R]
   clear e9R
   have hq : Past [g] _ _ := Past.more (by simp) hP; clear hP
   have Kv1 : Past [g] w v1 := Past.trans hqA hq
   have Zv1 := hZ; clear hZ
   clear hq hqA
   clear bP cP fP lP eP kP; have bP := mP
   clear bO cO fO lO eO kO; have bO := mO
   clear mP mO nR hD
   have bR := bR'; clear bR'
   obtain ⟨cP, fP, lP, eP, kP⟩ := Blk.facts bP
   obtain ⟨cO, fO, lO, eO, kO⟩ := Blk.facts bO
   obtain ⟨cR, fR, lR, eR, kR⟩ := Blk.facts bR
   have oR := lR
   go_wp2
   exact bodyPost_ret (v := .agg #[.int .i64 u, .int .i64 t, .bool false, .int .i64 0, .int .i64 0, .int .i64 0, .int .i64 0, .bool false, .bool false, .int .i64 0, .int .i64 0]) (by simp [results, Tryz.results60, go_sem, *]) rfl ⟨rfl, bn1, pa1⟩
 | true =>
  obtain ⟨x, y, e9, hnow⟩ : ∃ x y e9, nowK u ⟨ka, klo, khi, kp, kle, kre⟩ = (x, y, e9) := ⟨_, _, _, rfl⟩
  have hsp : spK u ⟨ka, klo, khi, kp, kle, kre⟩ = (x, y) := by unfold spK; rw [hnow]
  have hc' : nc = readK ⟨cai, cra, cse, che, cat, csh⟩ u x y := by rw [hc]; unfold ckOf; rw [hsp]; rfl
  have hr' : rp = ⟨u, t, true, x, y, nc⟩ := by rw [hr, hc]; unfold repOf; rw [hsp]; rfl
  subst hr'
  clear hc hr
  have RN := hYd (fun W => (show Calls _ _ _ _ (RB W (.tuple #[.agg #[.int .i64 x, .int .i64 y], .int .i64 e9])) from (congrArg V3 (show nowT ka klo khi kp kle kre u = (x, y, e9) from hnow)) ▸ inow_any ka klo khi kp kle kre u W))
  clear hnow hsp
  have rr := fun W => hc' ▸ iread_rb ⟨cai, cra, cse, che, cat, csh⟩ u x y W
  clear hc'
  obtain ⟨n0, n1, n2, n3, n4, n5⟩ := nc
  simp only [Clk.cs] at rr
  generalize rdE cai cra cse cat csh u x y = er at rr
  have RR := hYd rr; clear rr
  dsimp only
  go_enter Tryz.func60, Tryz.ntmps60
  obtain ⟨cP, fP, lP, eP, kP⟩ := Blk.facts bP
  go_upto_region 1 with fail
  obtain ⟨wA, hwA⟩ : ∃ x : World, x = (w.alloc (.cells #[.int .i64 0, .int .i64 0, .bool false, .int .i64 0, .int .i64 0, .int .i64 0, .int .i64 0, .bool false, .bool false, .int .i64 0, .int .i64 0] 64)) := ⟨_, rfl⟩
  have hqA : Past [g] w wA := by rw [hwA]; exact (Past.refl _ _).allocs _
  have bO' : Blk wA w.heap.size 64 #[.int .i64 0, .int .i64 0, .bool false, .int .i64 0, .int .i64 0, .int .i64 0, .int .i64 0, .bool false, .bool false, .int .i64 0, .int .i64 0] := by rw [hwA]; exact Blk.new _ _ _
  have bP' : Blk wA g 106 #[.int .i64 sta, .int .i64 loc, .int .i64 p, .int .i64 li, .int .i64 ai, VE, VS, .int .i64 t, .int .i64 u, VQ, .bool true, .int .i64 ka, .int .i64 klo, .int .i64 khi, .int .i64 kp, .int .i64 kle, .int .i64 kre, .int .i64 cai, .int .i64 cra, .bool cse, .bool che, .int .i64 cat, .int .i64 csh] := by rw [hwA]; exact bP.alloc _
  have ZA : w.heap.size + 1 ≤ wA.heap.size := by rw [hwA]; simp
  rw [← hwA]
  clear hwA bP cP fP lP eP kP
  have bP := bP'; have bO := bO'; clear bP' bO'
  obtain ⟨cP, fP, lP, eP, kP⟩ := Blk.facts bP
  obtain ⟨cO, fO, lO, eO, kO⟩ := Blk.facts bO
  have oO := lO
  refine' wp_region_calmD (by kernel_rfl) (fun D u9 w' => Past [] wA w' ∧ Blk w' (g) 106 #[.int .i64 sta, .int .i64 loc, .int .i64 p, .int .i64 li, .int .i64 ai, VE, VS, .int .i64 t, .int .i64 u, VQ, .bool true, .int .i64 ka, .int .i64 klo, .int .i64 khi, .int .i64 kp, .int .i64 kle, .int .i64 kre, .int .i64 cai, .int .i64 cra, .bool cse, .bool che, .int .i64 cat, .int .i64 csh] ∧ Blk w' (w.heap.size) 64 #[.int .i64 0, .int .i64 0, .bool false, .int .i64 0, .int .i64 0, .int .i64 0, .int .i64 0, .bool false, .bool false, .int .i64 0, .int .i64 0] ∧ NewD wA.heap.size 64 #[.int .i64 0, .int .i64 0, .bool false, .int .i64 0, .int .i64 0, .int .i64 0, .int .i64 0, .bool false, .bool false, .int .i64 0, .int .i64 0] #[.int .i64 u, .int .i64 t, .bool true, .int .i64 0, .int .i64 0, .int .i64 0, .int .i64 0, .bool false, .bool false, .int .i64 0, .int .i64 0] (D 14) (D 15) (u9 14) w' ∧ wA.heap.size ≤ w'.heap.size) (fun _ _ => True) [(Is _), (Is _), (Is _), (Is _), (Is _), (Is _), (Is _), (Is _), (Is _), (Is _), (Is _), (Is _), (Is _), (Is _), (fun _ _ _ => True), (fun _ _ _ => True)] [[], [0], [1], [2], [], [4], [5], [6], [], [8], [9], [10], [11], [3, 7, 12], [], [14, 13]] rfl (by kernel_rfl) (fun u => by (simp only [calmPut, Act.put, lst, ls0, ls1, Nat.zero_add, Nat.reduceAdd]; rfl)) ?_ (kcc keep_is' (kcc keep_is' (kcc keep_is' (kcc keep_is' (kcc keep_is' (kcc keep_is' (kcc keep_is' (kcc keep_is' (kcc keep_is' (kcc keep_is' (kcc keep_is' (kcc keep_is' (kcc keep_is' (kcc keep_is' (kcc keep_triv (kcc keep_triv (calmKeep_nil))))))))))))))))) ?_ ?_
  ·exact ⟨pa1, bn1, bn1, NewD.start _, (by first | exact Nat.le_refl _ | omega | (simp <;> omega))⟩
  rotate_left 14
  ·skip
   refine dc2 (fun uu wq D hd hn hn2 hC hk K hK => ?_) ?_
   ·obtain ⟨hP, mP, mO, nR, hZ⟩ := hC
    clear hk
    go_simp
    exact hK _ _ _ rfl ⟨hP, mP, mO, nR, hZ⟩ trivial rfl
   refine dc2 (fun uu wq D hd hn hn2 hC hk K hK => ?_) ?_
   ·obtain ⟨hP, mP, mO, nR, hZ⟩ := hC
    simp only [calmKnown, lg0, lg1, and_true, Is] at hk
    have h0 := hk; clear hk
    simp only [h0] at hK ⊢
    have H0 := hYd h0; clear h0
    go_simp
    exact hK _ _ _ rfl ⟨hP, mP, mO, nR, hZ⟩ trivial rfl
   refine dc2 (fun uu wq D hd hn hn2 hC hk K hK => ?_) ?_
   ·obtain ⟨hP, mP, mO, nR, hZ⟩ := hC
    simp only [calmKnown, lg0, lg1, and_true, Is] at hk
    have h1 := hk; clear hk
    simp only [h1] at hK ⊢
    have H1 := hYd h1; clear h1
    go_simp
    exact hK _ _ _ rfl ⟨hP, mP, mO, nR, hZ⟩ trivial rfl
   refine dc2 (fun uu wq D hd hn hn2 hC hk K hK => ?_) ?_
   ·obtain ⟨hP, mP, mO, nR, hZ⟩ := hC
    simp only [calmKnown, lg0, lg1, and_true, Is] at hk
    have h2 := hk; clear hk
    simp only [h2] at hK ⊢
    have H2 := hYd h2; clear h2
    have cP := mP.cell; have lP := mP.lt
    have cO := mO.cell; have lO := mO.lt
    go_simp
    exact hK _ _ _ rfl ⟨hP, mP, mO, nR, hZ⟩ trivial rfl
   refine dc2 (fun uu wq D hd hn hn2 hC hk K hK => ?_) ?_
   ·obtain ⟨hP, mP, mO, nR, hZ⟩ := hC
    clear hk
    go_simp
    exact hK _ _ _ rfl ⟨hP, mP, mO, nR, hZ⟩ trivial rfl
   refine dc2 (fun uu wq D hd hn hn2 hC hk K hK => ?_) ?_
   ·obtain ⟨hP, mP, mO, nR, hZ⟩ := hC
    simp only [calmKnown, lg0, lg1, and_true, Is] at hk
    have h4 := hk; clear hk
    simp only [h4] at hK ⊢
    have H4 := hYd h4; clear h4
    go_simp
    exact hK _ _ _ rfl ⟨hP, mP, mO, nR, hZ⟩ trivial rfl
   refine dc2 (fun uu wq D hd hn hn2 hC hk K hK => ?_) ?_
   ·obtain ⟨hP, mP, mO, nR, hZ⟩ := hC
    simp only [calmKnown, lg0, lg1, and_true, Is] at hk
    have h5 := hk; clear hk
    simp only [h5] at hK ⊢
    have H5 := hYd h5; clear h5
    go_simp
    exact hK _ _ _ rfl ⟨hP, mP, mO, nR, hZ⟩ trivial rfl
   refine dc2 (fun uu wq D hd hn hn2 hC hk K hK => ?_) ?_
   ·obtain ⟨hP, mP, mO, nR, hZ⟩ := hC
    simp only [calmKnown, lg0, lg1, and_true, Is] at hk
    have h6 := hk; clear hk
    simp only [h6] at hK ⊢
    have H6 := hYd h6; clear h6
    have cP := mP.cell; have lP := mP.lt
    have cO := mO.cell; have lO := mO.lt
    go_simp
    exact hK _ _ _ rfl ⟨hP, mP, mO, nR, hZ⟩ trivial rfl
   refine dc2 (fun uu wq D hd hn hn2 hC hk K hK => ?_) ?_
   ·obtain ⟨hP, mP, mO, nR, hZ⟩ := hC
    clear hk
    go_simp
    exact hK _ _ _ rfl ⟨hP, mP, mO, nR, hZ⟩ trivial rfl
   refine dc2 (fun uu wq D hd hn hn2 hC hk K hK => ?_) ?_
   ·obtain ⟨hP, mP, mO, nR, hZ⟩ := hC
    simp only [calmKnown, lg0, lg1, and_true, Is] at hk
    have h8 := hk; clear hk
    simp only [h8] at hK ⊢
    have H8 := hYd h8; clear h8
    go_simp
    exact hK _ _ _ rfl ⟨hP, mP, mO, nR, hZ⟩ trivial rfl
   refine dc2 (fun uu wq D hd hn hn2 hC hk K hK => ?_) ?_
   ·obtain ⟨hP, mP, mO, nR, hZ⟩ := hC
    simp only [calmKnown, lg0, lg1, and_true, Is] at hk
    have h9 := hk; clear hk
    simp only [h9] at hK ⊢
    have H9 := hYd h9; clear h9
    go_simp
    exact hK _ _ _ rfl ⟨hP, mP, mO, nR, hZ⟩ trivial rfl
   refine dc2 (fun uu wq D hd hn hn2 hC hk K hK => ?_) ?_
   ·obtain ⟨hP, mP, mO, nR, hZ⟩ := hC
    simp only [calmKnown, lg0, lg1, and_true, Is] at hk
    have h10 := hk; clear hk
    simp only [h10] at hK ⊢
    have H10 := hYd h10; clear h10
    go_simp
    exact hK _ _ _ rfl ⟨hP, mP, mO, nR, hZ⟩ trivial rfl
   refine dc2 (fun uu wq D hd hn hn2 hC hk K hK => ?_) ?_
   ·obtain ⟨hP, mP, mO, nR, hZ⟩ := hC
    simp only [calmKnown, lg0, lg1, and_true, Is] at hk
    have h11 := hk; clear hk
    simp only [h11] at hK ⊢
    have H11 := hYd h11; clear h11
    have cP := mP.cell; have lP := mP.lt
    have cO := mO.cell; have lO := mO.lt
    go_simp
    exact hK _ _ _ rfl ⟨hP, mP, mO, nR, hZ⟩ trivial rfl
   refine dc2 (fun uu wq D hd hn hn2 hC hk K hK => ?_) ?_
   ·obtain ⟨hP, mP, mO, nR, hZ⟩ := hC
    simp only [calmKnown, lg0, lg1, and_true, Is] at hk
    obtain ⟨h3, h7, h12⟩ := hk
    simp only [h3, h7, h12] at hK ⊢
    have H3 := hYd h3; clear h3; have H7 := hYd h7; clear h7; have H12 := hYd h12; clear h12
    go_simp
    exact hK _ _ _ rfl ⟨hP, mP, mO, nR, hZ⟩ trivial rfl
   refine dc2 (fun uu wq D hd hn hn2 hC hk K hK => ?_) ?_
   ·obtain ⟨hP, mP, mO, nR, hZ⟩ := hC
    clear hk
    have d15 := hn.out 15 (by kernel_rfl)
    go_simp
    exact hK _ _ _ rfl ⟨hP.allocs _, mP.alloc _, mO.alloc _, NewD.made hZ d15, Nat.le_trans hZ (by simp)⟩ trivial trivial
   refine dc2 (fun uu wq D hd hn hn2 hC hk K hK => ?_) ?_
   ·obtain ⟨hP, mP, mO, nR, hZ⟩ := hC
    simp only [calmKnown, lg0, lg1, and_true, Is] at hk
    obtain ⟨-, h13⟩ := hk
    simp only [h13] at hK ⊢
    have H13 := hYd h13; clear h13
    have da : D 14 = true := hn2.out 14 (by kernel_rfl)
    obtain ⟨gn, hgn, gb, gl, hB⟩ := nR.one da hd
    simp only [hgn] at hK ⊢
    have hc9 := hB.cell; have hf9 := hB.frozen
    have hB2 := setAll_blk [.int .i64 u, .int .i64 t, .bool true, .int .i64 0, .int .i64 0, .int .i64 0, .int .i64 0, .bool false, .bool false, .int .i64 0, .int .i64 0] 0 wq _ hB
    simp only [setArr, lst, ls0, ls1, Nat.zero_add, Nat.reduceAdd] at hB2
    go_simp
    exact hK _ undef (setAll wq gn 0 [.int .i64 u, .int .i64 t, .bool true, .int .i64 0, .int .i64 0, .int .i64 0, .int .i64 0, .bool false, .bool false, .int .i64 0, .int .i64 0]) rfl ⟨(setAll_past gb [.int .i64 u, .int .i64 t, .bool true, .int .i64 0, .int .i64 0, .int .i64 0, .int .i64 0, .bool false, .bool false, .int .i64 0, .int .i64 0] 0 wq hP), setAll_far (show g ≠ gn by first | omega | (simp <;> omega)) [.int .i64 u, .int .i64 t, .bool true, .int .i64 0, .int .i64 0, .int .i64 0, .int .i64 0, .bool false, .bool false, .int .i64 0, .int .i64 0] 0 wq mP, setAll_far (show w.heap.size ≠ gn by first | omega | (simp <;> omega)) [.int .i64 u, .int .i64 t, .bool true, .int .i64 0, .int .i64 0, .int .i64 0, .int .i64 0, .bool false, .bool false, .int .i64 0, .int .i64 0] 0 wq mO, (show NewD _ _ _ _ (D 14) true (uu 14) _ from by rw [hgn]; exact NewD.stored gb hB2), (by rw [setAll_size]; exact hZ)⟩ trivial trivial
   exact dSteps_nil
  ·intro uu v1 D hD hC hF
   obtain ⟨hP, mP, mO, nR, hZ⟩ := hC
   simp only [calmFacts, Is, and_true, true_and] at hF
   obtain ⟨f0, f1, f2, f3, f4, f5, f6, f7, f8, f9, f10, f11, f12, f13⟩ := hF
   simp only [f0, f1, f2, f3, f4, f5, f6, f7, f8, f9, f10, f11, f12, f13]
   obtain ⟨gR, e9R, gbR, glR, bR'⟩ := nR.last (hD 14 (by decide)) (hD 15 (by decide))
   simp only [e9R]
   clear e9R
   have hq : Past [g] _ _ := Past.more (by simp) hP; clear hP
   have Kv1 : Past [g] w v1 := Past.trans hqA hq
   have Zv1 := hZ; clear hZ
   clear hq hqA
   clear bP cP fP lP eP kP; have bP := mP
   clear bO cO fO lO eO kO; have bO := mO
   clear mP mO nR hD
   have bR := bR'; clear bR'
   obtain ⟨cP, fP, lP, eP, kP⟩ := Blk.facts bP
   obtain ⟨cO, fO, lO, eO, kO⟩ := Blk.facts bO
   obtain ⟨cR, fR, lR, eR, kR⟩ := Blk.facts bR
   have oR := lR
   go_upto_region 3 with fail
   refine' wp_region_calmD (by kernel_rfl) (fun D u9 w' => Past (gR :: [g]) v1 w' ∧ Blk w' (g) 106 #[.int .i64 sta, .int .i64 loc, .int .i64 p, .int .i64 li, .int .i64 ai, VE, VS, .int .i64 t, .int .i64 u, VQ, .bool true, .int .i64 ka, .int .i64 klo, .int .i64 khi, .int .i64 kp, .int .i64 kle, .int .i64 kre, .int .i64 cai, .int .i64 cra, .bool cse, .bool che, .int .i64 cat, .int .i64 csh] ∧ Blk w' (w.heap.size) 64 #[.int .i64 0, .int .i64 0, .bool false, .int .i64 0, .int .i64 0, .int .i64 0, .int .i64 0, .bool false, .bool false, .int .i64 0, .int .i64 0] ∧ (D 14 = false → Blk w' (gR) 64 #[.int .i64 u, .int .i64 t, .bool true, .int .i64 0, .int .i64 0, .int .i64 0, .int .i64 0, .bool false, .bool false, .int .i64 0, .int .i64 0]) ∧ (D 14 = true → Blk w' (gR) 64 #[.int .i64 u, .int .i64 t, .bool true, .int .i64 x, .int .i64 y, .int .i64 0, .int .i64 0, .bool false, .bool false, .int .i64 0, .int .i64 0]) ∧ v1.heap.size ≤ w'.heap.size) (fun _ _ => True) [(Is _), (Is _), (Is _), (Is _), (Is _), (Is _), (Is _), (Is _), (Is _), (Is _), (Is _), (Is _), (Is _), (Is _), (fun _ _ _ => True)] [[], [0], [1], [2], [3], [], [5], [6], [7], [4, 8], [9], [10], [10], [], [13, 11]] rfl (by kernel_rfl) (fun u => by (simp only [calmPut, Act.put, lst, ls0, ls1, Nat.zero_add, Nat.reduceAdd]; rfl)) ?_ (kcc keep_is' (kcc keep_is' (kcc keep_is' (kcc keep_is' (kcc keep_is' (kcc keep_is' (kcc keep_is' (kcc keep_is' (kcc keep_is' (kcc keep_is' (kcc keep_is' (kcc keep_is' (kcc keep_is' (kcc keep_is' (kcc keep_triv (calmKeep_nil)))))))))))))))) ?_ ?_
   ·exact ⟨pa1, bn1, bn1, (fun _ => bn1), (fun h => by cases h), (by first | exact Nat.le_refl _ | omega | (simp <;> omega))⟩
   rotate_left 14
   ·skip
    refine dc2 (fun uu wq D hd hn hn2 hC hk K hK => ?_) ?_
    ·obtain ⟨hP, mP, mO, mR, yR, hZ⟩ := hC
     clear hk
     go_simp
     exact hK _ _ _ rfl ⟨hP, mP, mO, mR, yR, hZ⟩ trivial rfl
    refine dc2 (fun uu wq D hd hn hn2 hC hk K hK => ?_) ?_
    ·obtain ⟨hP, mP, mO, mR, yR, hZ⟩ := hC
     simp only [calmKnown, lg0, lg1, and_true, Is] at hk
     have h0 := hk; clear hk
     simp only [h0] at hK ⊢
     have H0 := hYd h0; clear h0
     go_simp
     exact hK _ _ _ rfl ⟨hP, mP, mO, mR, yR, hZ⟩ trivial rfl
    refine dc2 (fun uu wq D hd hn hn2 hC hk K hK => ?_) ?_
    ·obtain ⟨hP, mP, mO, mR, yR, hZ⟩ := hC
     simp only [calmKnown, lg0, lg1, and_true, Is] at hk
     have h1 := hk; clear hk
     simp only [h1] at hK ⊢
     have H1 := hYd h1; clear h1
     go_simp
     exact hK _ _ _ rfl ⟨hP, mP, mO, mR, yR, hZ⟩ trivial rfl
    refine dc2 (fun uu wq D hd hn hn2 hC hk K hK => ?_) ?_
    ·obtain ⟨hP, mP, mO, mR, yR, hZ⟩ := hC
     simp only [calmKnown, lg0, lg1, and_true, Is] at hk
     have h2 := hk; clear hk
     simp only [h2] at hK ⊢
     have H2 := hYd h2; clear h2
     go_simp
     exact hK _ _ _ rfl ⟨hP, mP, mO, mR, yR, hZ⟩ trivial rfl
    refine dc2 (fun uu wq D hd hn hn2 hC hk K hK => ?_) ?_
    ·obtain ⟨hP, mP, mO, mR, yR, hZ⟩ := hC
     simp only [calmKnown, lg0, lg1, and_true, Is] at hk
     have h3 := hk; clear hk
     simp only [h3] at hK ⊢
     have H3 := hYd h3; clear h3
     have cP := mP.cell; have lP := mP.lt
     have cO := mO.cell; have lO := mO.lt
     have hB := mR (hn.out 14 (by kernel_rfl)); have cR := hB.cell; have lR := hB.lt
     go_simp
     exact hK _ _ _ rfl ⟨hP, mP, mO, mR, yR, hZ⟩ trivial rfl
    refine dc2 (fun uu wq D hd hn hn2 hC hk K hK => ?_) ?_
    ·obtain ⟨hP, mP, mO, mR, yR, hZ⟩ := hC
     clear hk
     go_simp
     exact hK _ _ _ rfl ⟨hP, mP, mO, mR, yR, hZ⟩ trivial rfl
    refine dc2 (fun uu wq D hd hn hn2 hC hk K hK => ?_) ?_
    ·obtain ⟨hP, mP, mO, mR, yR, hZ⟩ := hC
     simp only [calmKnown, lg0, lg1, and_true, Is] at hk
     have h5 := hk; clear hk
     simp only [h5] at hK ⊢
     have H5 := hYd h5; clear h5
     go_simp
     exact hK _ _ _ rfl ⟨hP, mP, mO, mR, yR, hZ⟩ trivial rfl
    refine dc2 (fun uu wq D hd hn hn2 hC hk K hK => ?_) ?_
    ·obtain ⟨hP, mP, mO, mR, yR, hZ⟩ := hC
     simp only [calmKnown, lg0, lg1, and_true, Is] at hk
     have h6 := hk; clear hk
     simp only [h6] at hK ⊢
     have H6 := hYd h6; clear h6
     go_simp
     exact hK _ _ _ rfl ⟨hP, mP, mO, mR, yR, hZ⟩ trivial rfl
    refine dc2 (fun uu wq D hd hn hn2 hC hk K hK => ?_) ?_
    ·obtain ⟨hP, mP, mO, mR, yR, hZ⟩ := hC
     simp only [calmKnown, lg0, lg1, and_true, Is] at hk
     have h7 := hk; clear hk
     simp only [h7] at hK ⊢
     have H7 := hYd h7; clear h7
     have cP := mP.cell; have lP := mP.lt
     have cO := mO.cell; have lO := mO.lt
     have hB := mR (hn.out 14 (by kernel_rfl)); have cR := hB.cell; have lR := hB.lt
     go_simp
     exact hK _ _ _ rfl ⟨hP, mP, mO, mR, yR, hZ⟩ trivial rfl
    refine dc2 (fun uu wq D hd hn hn2 hC hk K hK => ?_) ?_
    ·obtain ⟨hP, mP, mO, mR, yR, hZ⟩ := hC
     simp only [calmKnown, lg0, lg1, and_true, Is] at hk
     obtain ⟨h4, h8⟩ := hk
     simp only [h4, h8] at hK ⊢
     have H4 := hYd h4; clear h4; have H8 := hYd h8; clear h8
     go_wp2_with fail
     first | (with_reducible refine (RN.out _).mono ?_)
     rintro e w2 ⟨rfl, hbl⟩
     exact hK _ _ _ rfl ⟨hP.call hbl, Blk.keep hbl mP, Blk.keep hbl mO, (fun h => Blk.keep hbl (mR h)), (fun h => Blk.keep hbl (yR h)), Nat.le_trans hZ hbl.size⟩ trivial rfl
    refine dc2 (fun uu wq D hd hn hn2 hC hk K hK => ?_) ?_
    ·obtain ⟨hP, mP, mO, mR, yR, hZ⟩ := hC
     simp only [calmKnown, lg0, lg1, and_true, Is] at hk
     have h9 := hk; clear hk
     simp only [h9] at hK ⊢
     have H9 := hYd h9; clear h9
     go_simp
     exact hK _ _ _ rfl ⟨hP, mP, mO, mR, yR, hZ⟩ trivial rfl
    refine dc2 (fun uu wq D hd hn hn2 hC hk K hK => ?_) ?_
    ·obtain ⟨hP, mP, mO, mR, yR, hZ⟩ := hC
     simp only [calmKnown, lg0, lg1, and_true, Is] at hk
     have h10 := hk; clear hk
     simp only [h10] at hK ⊢
     have H10 := hYd h10; clear h10
     go_simp
     exact hK _ _ _ rfl ⟨hP, mP, mO, mR, yR, hZ⟩ trivial rfl
    refine dc2 (fun uu wq D hd hn hn2 hC hk K hK => ?_) ?_
    ·obtain ⟨hP, mP, mO, mR, yR, hZ⟩ := hC
     simp only [calmKnown, lg0, lg1, and_true, Is] at hk
     have h10 := hk; clear hk
     simp only [h10] at hK ⊢
     have H10 := hYd h10; clear h10
     go_simp
     exact hK _ _ _ rfl ⟨hP, mP, mO, mR, yR, hZ⟩ trivial rfl
    refine dc2 (fun uu wq D hd hn hn2 hC hk K hK => ?_) ?_
    ·obtain ⟨hP, mP, mO, mR, yR, hZ⟩ := hC
     clear hk
     go_simp
     exact hK _ _ _ rfl ⟨hP, mP, mO, mR, yR, hZ⟩ trivial rfl
    refine dc2 (fun uu wq D hd hn hn2 hC hk K hK => ?_) ?_
    ·obtain ⟨hP, mP, mO, mR, yR, hZ⟩ := hC
     simp only [calmKnown, lg0, lg1, and_true, Is] at hk
     obtain ⟨h13, h11⟩ := hk
     simp only [h13, h11] at hK ⊢
     have H13 := hYd h13; clear h13; have H11 := hYd h11; clear h11
     have hB := mR hd
     have hc9 := hB.cell; have hf9 := hB.frozen; have hl9 := hB.lt
     have hB2 := setAll_blk [.int .i64 x, .int .i64 y] 3 wq _ hB
     simp only [setArr, lst, ls0, ls1, Nat.zero_add, Nat.reduceAdd] at hB2
     go_simp
     exact hK _ undef (setAll wq (gR) 3 [.int .i64 x, .int .i64 y]) rfl ⟨(setAll_pastX (by simp) [.int .i64 x, .int .i64 y] 3 wq hP), setAll_far (show g ≠ gR by first | omega | (simp <;> omega)) [.int .i64 x, .int .i64 y] 3 wq mP, setAll_far (show w.heap.size ≠ gR by first | omega | (simp <;> omega)) [.int .i64 x, .int .i64 y] 3 wq mO, (fun h => by cases h), (fun _ => hB2), (by rw [setAll_size]; exact hZ)⟩ trivial trivial
    exact dSteps_nil
   ·intro uu v2 D hD hC hF
    obtain ⟨hP, mP, mO, mR, yR, hZ⟩ := hC
    simp only [calmFacts, Is, and_true, true_and] at hF
    obtain ⟨f0, f1, f2, f3, f4, f5, f6, f7, f8, f9, f10, f11, f12, f13⟩ := hF
    simp only [f0, f1, f2, f3, f4, f5, f6, f7, f8, f9, f10, f11, f12, f13]
    have bbR := yR (hD 14 (by decide))
    have hq := hP; clear hP
    have Kv2 : Past [g] w v2 := Past.transF Kv1 hq (by first | omega | (simp; omega))
    have Zv2 := hZ; clear hZ
    clear hq Kv1
    clear bP cP fP lP eP kP; have bP := mP
    clear bO cO fO lO eO kO; have bO := mO
    clear bR cR fR lR eR kR; have bR := bbR
    clear mP mO mR yR bbR hD
    obtain ⟨cP, fP, lP, eP, kP⟩ := Blk.facts bP
    obtain ⟨cO, fO, lO, eO, kO⟩ := Blk.facts bO
    obtain ⟨cR, fR, lR, eR, kR⟩ := Blk.facts bR
    go_upto_region 4 with fail
    refine' wp_region_calmD (by kernel_rfl) (fun D u9 w' => Past [g] v2 w' ∧ (D 17 = false → Blk w' (g) 106 #[.int .i64 sta, .int .i64 loc, .int .i64 p, .int .i64 li, .int .i64 ai, VE, VS, .int .i64 t, .int .i64 u, VQ, .bool true, .int .i64 ka, .int .i64 klo, .int .i64 khi, .int .i64 kp, .int .i64 kle, .int .i64 kre, .int .i64 cai, .int .i64 cra, .bool cse, .bool che, .int .i64 cat, .int .i64 csh]) ∧ (D 17 = true → Blk w' (g) 106 #[.int .i64 sta, .int .i64 loc, .int .i64 p, .int .i64 li, .int .i64 ai, VE, VS, .int .i64 t, .int .i64 u, VQ, .bool true, .int .i64 ka, .int .i64 klo, .int .i64 khi, .int .i64 kp, .int .i64 kle, .int .i64 kre, .int .i64 n0, .int .i64 n1, .bool n2, .bool n3, .int .i64 n4, .int .i64 n5]) ∧ Blk w' (w.heap.size) 64 #[.int .i64 0, .int .i64 0, .bool false, .int .i64 0, .int .i64 0, .int .i64 0, .int .i64 0, .bool false, .bool false, .int .i64 0, .int .i64 0] ∧ Blk w' (gR) 64 #[.int .i64 u, .int .i64 t, .bool true, .int .i64 x, .int .i64 y, .int .i64 0, .int .i64 0, .bool false, .bool false, .int .i64 0, .int .i64 0] ∧ v2.heap.size ≤ w'.heap.size) (fun _ _ => True) [(Is _), (Is _), (Is _), (Is _), (Is _), (Is _), (Is _), (Is _), (Is _), (Is _), (Is _), (Is _), (Is _), (Is _), (Is _), (Is _), (Is _), (fun _ _ _ => True)] [[], [], [1], [2], [3], [], [5], [6], [7], [], [9], [4, 8, 10], [11], [12], [12], [0], [15], [16, 13]] rfl (by kernel_rfl) (fun u => by (simp only [calmPut, Act.put, lst, ls0, ls1, Nat.zero_add, Nat.reduceAdd]; rfl)) ?_ (kcc keep_is' (kcc keep_is' (kcc keep_is' (kcc keep_is' (kcc keep_is' (kcc keep_is' (kcc keep_is' (kcc keep_is' (kcc keep_is' (kcc keep_is' (kcc keep_is' (kcc keep_is' (kcc keep_is' (kcc keep_is' (kcc keep_is' (kcc keep_is' (kcc keep_is' (kcc keep_triv (calmKeep_nil))))))))))))))))))) ?_ ?_
    ·exact ⟨pa1, (fun _ => bn1), (fun h => by cases h), bn1, bn1, (by first | exact Nat.le_refl _ | omega | (simp <;> omega))⟩
    rotate_left 17
    ·skip
     refine dc2 (fun uu wq D hd hn hn2 hC hk K hK => ?_) ?_
     ·obtain ⟨hP, mP, yP, mO, mR, hZ⟩ := hC
      clear hk
      go_simp
      exact hK _ _ _ rfl ⟨hP, mP, yP, mO, mR, hZ⟩ trivial rfl
     refine dc2 (fun uu wq D hd hn hn2 hC hk K hK => ?_) ?_
     ·obtain ⟨hP, mP, yP, mO, mR, hZ⟩ := hC
      clear hk
      go_simp
      exact hK _ _ _ rfl ⟨hP, mP, yP, mO, mR, hZ⟩ trivial rfl
     refine dc2 (fun uu wq D hd hn hn2 hC hk K hK => ?_) ?_
     ·obtain ⟨hP, mP, yP, mO, mR, hZ⟩ := hC
      simp only [calmKnown, lg0, lg1, and_true, Is] at hk
      have h1 := hk; clear hk
      simp only [h1] at hK ⊢
      have H1 := hYd h1; clear h1
      go_simp
      exact hK _ _ _ rfl ⟨hP, mP, yP, mO, mR, hZ⟩ trivial rfl
     refine dc2 (fun uu wq D hd hn hn2 hC hk K hK => ?_) ?_
     ·obtain ⟨hP, mP, yP, mO, mR, hZ⟩ := hC
      simp only [calmKnown, lg0, lg1, and_true, Is] at hk
      have h2 := hk; clear hk
      simp only [h2] at hK ⊢
      have H2 := hYd h2; clear h2
      go_simp
      exact hK _ _ _ rfl ⟨hP, mP, yP, mO, mR, hZ⟩ trivial rfl
     refine dc2 (fun uu wq D hd hn hn2 hC hk K hK => ?_) ?_
     ·obtain ⟨hP, mP, yP, mO, mR, hZ⟩ := hC
      simp only [calmKnown, lg0, lg1, and_true, Is] at hk
      have h3 := hk; clear hk
      simp only [h3] at hK ⊢
      have H3 := hYd h3; clear h3
      have cO := mO.cell; have lO := mO.lt
      have cR := mR.cell; have lR := mR.lt
      have hB := mP (hn.out 17 (by kernel_rfl)); have cP := hB.cell; have lP := hB.lt
      go_simp
      exact hK _ _ _ rfl ⟨hP, mP, yP, mO, mR, hZ⟩ trivial rfl
     refine dc2 (fun uu wq D hd hn hn2 hC hk K hK => ?_) ?_
     ·obtain ⟨hP, mP, yP, mO, mR, hZ⟩ := hC
      clear hk
      go_simp
      exact hK _ _ _ rfl ⟨hP, mP, yP, mO, mR, hZ⟩ trivial rfl
     refine dc2 (fun uu wq D hd hn hn2 hC hk K hK => ?_) ?_
     ·obtain ⟨hP, mP, yP, mO, mR, hZ⟩ := hC
      simp only [calmKnown, lg0, lg1, and_true, Is] at hk
      have h5 := hk; clear hk
      simp only [h5] at hK ⊢
      have H5 := hYd h5; clear h5
      go_simp
      exact hK _ _ _ rfl ⟨hP, mP, yP, mO, mR, hZ⟩ trivial rfl
     refine dc2 (fun uu wq D hd hn hn2 hC hk K hK => ?_) ?_
     ·obtain ⟨hP, mP, yP, mO, mR, hZ⟩ := hC
      simp only [calmKnown, lg0, lg1, and_true, Is] at hk
      have h6 := hk; clear hk
      simp only [h6] at hK ⊢
      have H6 := hYd h6; clear h6
      go_simp
      exact hK _ _ _ rfl ⟨hP, mP, yP, mO, mR, hZ⟩ trivial rfl
     refine dc2 (fun uu wq D hd hn hn2 hC hk K hK => ?_) ?_
     ·obtain ⟨hP, mP, yP, mO, mR, hZ⟩ := hC
      simp only [calmKnown, lg0, lg1, and_true, Is] at hk
      have h7 := hk; clear hk
      simp only [h7] at hK ⊢
      have H7 := hYd h7; clear h7
      have cO := mO.cell; have lO := mO.lt
      have cR := mR.cell; have lR := mR.lt
      have hB := mP (hn.out 17 (by kernel_rfl)); have cP := hB.cell; have lP := hB.lt
      go_simp
      exact hK _ _ _ rfl ⟨hP, mP, yP, mO, mR, hZ⟩ trivial rfl
     refine dc2 (fun uu wq D hd hn hn2 hC hk K hK => ?_) ?_
     ·obtain ⟨hP, mP, yP, mO, mR, hZ⟩ := hC
      clear hk
      go_simp
      exact hK _ _ _ rfl ⟨hP, mP, yP, mO, mR, hZ⟩ trivial rfl
     refine dc2 (fun uu wq D hd hn hn2 hC hk K hK => ?_) ?_
     ·obtain ⟨hP, mP, yP, mO, mR, hZ⟩ := hC
      simp only [calmKnown, lg0, lg1, and_true, Is] at hk
      have h9 := hk; clear hk
      simp only [h9] at hK ⊢
      have H9 := hYd h9; clear h9
      have cO := mO.cell; have lO := mO.lt
      have cR := mR.cell; have lR := mR.lt
      have hB := mP (hn.out 17 (by kernel_rfl)); have cP := hB.cell; have lP := hB.lt
      go_simp
      exact hK _ _ _ rfl ⟨hP, mP, yP, mO, mR, hZ⟩ trivial rfl
     refine dc2 (fun uu wq D hd hn hn2 hC hk K hK => ?_) ?_
     ·obtain ⟨hP, mP, yP, mO, mR, hZ⟩ := hC
      simp only [calmKnown, lg0, lg1, and_true, Is] at hk
      obtain ⟨h4, h8, h10⟩ := hk
      simp only [h4, h8, h10] at hK ⊢
      have H4 := hYd h4; clear h4; have H8 := hYd h8; clear h8; have H10 := hYd h10; clear h10
      go_wp2_with fail
      first | (with_reducible refine (RR.out _).mono ?_)
      rintro e w2 ⟨rfl, hbl⟩
      exact hK _ _ _ rfl ⟨hP.call hbl, (fun h => Blk.keep hbl (mP h)), (fun h => Blk.keep hbl (yP h)), Blk.keep hbl mO, Blk.keep hbl mR, Nat.le_trans hZ hbl.size⟩ trivial rfl
     refine dc2 (fun uu wq D hd hn hn2 hC hk K hK => ?_) ?_
     ·obtain ⟨hP, mP, yP, mO, mR, hZ⟩ := hC
      simp only [calmKnown, lg0, lg1, and_true, Is] at hk
      have h11 := hk; clear hk
      simp only [h11] at hK ⊢
      have H11 := hYd h11; clear h11
      go_simp
      exact hK _ _ _ rfl ⟨hP, mP, yP, mO, mR, hZ⟩ trivial rfl
     refine dc2 (fun uu wq D hd hn hn2 hC hk K hK => ?_) ?_
     ·obtain ⟨hP, mP, yP, mO, mR, hZ⟩ := hC
      simp only [calmKnown, lg0, lg1, and_true, Is] at hk
      have h12 := hk; clear hk
      simp only [h12] at hK ⊢
      have H12 := hYd h12; clear h12
      go_simp
      exact hK _ _ _ rfl ⟨hP, mP, yP, mO, mR, hZ⟩ trivial rfl
     refine dc2 (fun uu wq D hd hn hn2 hC hk K hK => ?_) ?_
     ·obtain ⟨hP, mP, yP, mO, mR, hZ⟩ := hC
      simp only [calmKnown, lg0, lg1, and_true, Is] at hk
      have h12 := hk; clear hk
      simp only [h12] at hK ⊢
      have H12 := hYd h12; clear h12
      go_simp
      exact hK _ _ _ rfl ⟨hP, mP, yP, mO, mR, hZ⟩ trivial rfl
     refine dc2 (fun uu wq D hd hn hn2 hC hk K hK => ?_) ?_
     ·obtain ⟨hP, mP, yP, mO, mR, hZ⟩ := hC
      simp only [calmKnown, lg0, lg1, and_true, Is] at hk
      have h0 := hk; clear hk
      simp only [h0] at hK ⊢
      have H0 := hYd h0; clear h0
      go_simp
      exact hK _ _ _ rfl ⟨hP, mP, yP, mO, mR, hZ⟩ trivial rfl
     refine dc2 (fun uu wq D hd hn hn2 hC hk K hK => ?_) ?_
     ·obtain ⟨hP, mP, yP, mO, mR, hZ⟩ := hC
      simp only [calmKnown, lg0, lg1, and_true, Is] at hk
      have h15 := hk; clear hk
      simp only [h15] at hK ⊢
      have H15 := hYd h15; clear h15
      go_simp
      exact hK _ _ _ rfl ⟨hP, mP, yP, mO, mR, hZ⟩ trivial rfl
     refine dc2 (fun uu wq D hd hn hn2 hC hk K hK => ?_) ?_
     ·obtain ⟨hP, mP, yP, mO, mR, hZ⟩ := hC
      simp only [calmKnown, lg0, lg1, and_true, Is] at hk
      obtain ⟨h16, h13⟩ := hk
      simp only [h16, h13] at hK ⊢
      have H16 := hYd h16; clear h16; have H13 := hYd h13; clear h13
      have hB := mP hd
      have hc9 := hB.cell; have hf9 := hB.frozen; have hl9 := hB.lt
      have hB2 := setAll_blk [.int .i64 n0, .int .i64 n1, .bool n2, .bool n3, .int .i64 n4, .int .i64 n5] 17 wq _ hB
      simp only [setArr, lst, ls0, ls1, Nat.zero_add, Nat.reduceAdd] at hB2
      go_simp
      exact hK _ undef (setAll wq (g) 17 [.int .i64 n0, .int .i64 n1, .bool n2, .bool n3, .int .i64 n4, .int .i64 n5]) rfl ⟨(setAll_pastX (by simp) [.int .i64 n0, .int .i64 n1, .bool n2, .bool n3, .int .i64 n4, .int .i64 n5] 17 wq hP), (fun h => by cases h), (fun _ => hB2), setAll_far (show w.heap.size ≠ g by first | omega | (simp <;> omega)) [.int .i64 n0, .int .i64 n1, .bool n2, .bool n3, .int .i64 n4, .int .i64 n5] 17 wq mO, setAll_far (show gR ≠ g by first | omega | (simp <;> omega)) [.int .i64 n0, .int .i64 n1, .bool n2, .bool n3, .int .i64 n4, .int .i64 n5] 17 wq mR, (by rw [setAll_size]; exact hZ)⟩ trivial trivial
     exact dSteps_nil
    ·intro uu v3 D hD hC hF
     obtain ⟨hP, mP, yP, mO, mR, hZ⟩ := hC
     simp only [calmFacts, Is, and_true, true_and] at hF
     obtain ⟨f0, f1, f2, f3, f4, f5, f6, f7, f8, f9, f10, f11, f12, f13, f14, f15, f16⟩ := hF
     simp only [f0, f1, f2, f3, f4, f5, f6, f7, f8, f9, f10, f11, f12, f13, f14, f15, f16]
     have bbP := yP (hD 17 (by decide))
     have hq := hP; clear hP
     have Kv3 : Past [g] w v3 := Past.trans Kv2 hq
     have Zv3 := hZ; clear hZ
     clear hq Kv2
     clear bP cP fP lP eP kP; have bP := bbP
     clear bO cO fO lO eO kO; have bO := mO
     clear bR cR fR lR eR kR; have bR := mR
     clear mP mO mR yP bbP hD
     obtain ⟨cP, fP, lP, eP, kP⟩ := Blk.facts bP
     obtain ⟨cO, fO, lO, eO, kO⟩ := Blk.facts bO
     obtain ⟨cR, fR, lR, eR, kR⟩ := Blk.facts bR
     go_wp2
     exact bodyPost_ret (v := .agg #[.int .i64 u, .int .i64 t, .bool true, .int .i64 x, .int .i64 y, .int .i64 n0, .int .i64 n1, .bool n2, .bool n3, .int .i64 n4, .int .i64 n5]) (by simp [results, Tryz.results60, go_sem, *]) rfl ⟨rfl, bn1, pa1⟩
end Go.Proofs.YtlnboheahbfgfaaGreat
