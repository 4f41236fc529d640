/- The reference's simulate: absolute, Lies. -/
import Derived.Test.YtlnboheahbfgfaaGreatJ43
import Derived.Test.YtlnboheahbfgfaaGreatJ35
namespace Go.Proofs.YtlnboheahbfgfaaGreat
open Go.RowKit Go.Shelf Go.Sort
set_option linter.unusedSimpArgs false
set_option linter.unusedVariables false

theorem run_max2' (P : Program) (a b : Int) (ats : Array TypeId) (ty : TypeId) (W : World) : (Builtin.max_ ats ty #[.int .i64 a, .int .i64 b]).run P W = .ok (.int .i64 (max a b)) W := by
 have h2 : ∀ (x y : Int) (W : World), (Builtin.max2 (.int .i64 x) (.int .i64 y)).run P W = .ok (.int .i64 (max x y)) W := by
  intro x y W
  simp [Builtin.max2, go_sem]
  split <;> omega
 simp only [Builtin.max_, List.foldlM]
 simp [go_sem, h2]
theorem lieB_abs (i e : Int) (x : Stp) : lieB i e x = (decide (x.src = i) && (decide (e < max x.w2 (-x.w2)) || decide (e < max x.w3 (-x.w3)))) := by
 unfold lieB
 congr 1
 rw [← Bool.decide_or]
 exact decide_eq_decide.2 (by omega)
theorem any_take {p : Stp → Bool} {xs : List Stp} {k : Nat} (hk : k < xs.length) : (xs.take (k + 1)).any p = ((xs.take k).any p || p (xs.getD k .zero)) := by
 rw [List.take_add_one, List.any_append, List.getElem?_eq_getElem hk, List.getD_eq_getElem?_getD, List.getElem?_eq_getElem hk]; simp
set_option maxHeartbeats 1000000 in
theorem abs_any (v : Int) (h0 : -1125899906842624 ≤ v) (h1 : v ≤ 1125899906842624) (w : World) :
  Calls Tryz.prog 64 #[.int .i64 v] w (RB w (.int .i64 (max v (-v)))) := by
 have wn : IntKind.i64.wrap (-v) = -v := IntWalk.i64_in _ (by omega)
 have hmx := fun ats ty W => run_max2' Tryz.prog v (-v) ats ty W
 obtain ⟨m, hm⟩ : ∃ m, max v (-v) = m := ⟨_, rfl⟩
 rw [hm] at hmx ⊢
 clear hm
 go_enter Tryz.func64, Tryz.ntmps64
 go_wp2
 go_ret
 exact ⟨rfl, Below.refl _ _⟩
def LkRel (w : World) (p : Stp → Bool) (xs : List Stp) (nx : Nat) (sc : Array Value) (g : Nat) (G : Nat) (v i : Value) (wr : World) : Prop := ∃ k : Nat, k ≤ nx ∧ G = nx - k ∧ i = .int .i64 k ∧ v = .bool ((xs.take k).any p) ∧ Blk wr g 54 sc ∧ Below w.heap.size w wr
set_option maxRecDepth 100000 in
set_option maxHeartbeats 8000000 in
theorem rlies_any (s : Sch) (A SA : Option Addr) (c sc : Nat) (w : World) (h : SchAt w s A SA) :
  Calls Tryz.prog 30 #[.agg #[.int .i64 s.sta, .int .i64 s.loc, .int .i64 s.p, .int .i64 s.li, .int .i64 s.ai, .slice A s.es.length c, .slice SA s.xs.length sc]] w (LiesR w s) := by
 have HH := hYd h
 have RC := hYd (fun W h => rcheck_any s A SA c sc W h)
 clear h
 obtain ⟨sta, loc, p, li, ai, es, xs⟩ := s
 dsimp only at RC ⊢
 obtain ⟨n, hn⟩ : ∃ n, n = es.length := ⟨_, rfl⟩
 obtain ⟨nx, hnx⟩ : ∃ n, n = xs.length := ⟨_, rfl⟩
 obtain ⟨er, her⟩ : ∃ er, chkE ⟨sta, loc, p, li, ai, es, xs⟩ = er := ⟨_, rfl⟩
 simp only [← hn, ← hnx, her] at RC ⊢
 have HN := hYd hn; have HX := hYd hnx; have HER := hYd her; clear hn hnx her
 by_cases he0 : er = 0
 ·subst he0
  go_enter Tryz.func30, Tryz.ntmps30
  go_wp2_with fail
  refine (RC.out _ (HH.out.below bl0)).mono ?_
  rintro e v1 ⟨rfl, hb⟩
  have hq : Past [] _ v1 := Past.below hb
  clear hb
  have Kv1 : Past [] w v1 := Past.trans pa1 hq
  have Zv1 : w.heap.size ≤ v1.heap.size := Nat.le_trans (by first | exact Nat.le_refl _ | omega | (simp <;> omega)) hq.1
  have bB' : Blk v1 (w.heap.size) 54 #[.int .i64 sta, .int .i64 loc, .int .i64 p, .int .i64 li, .int .i64 ai, .slice A n c, .slice SA nx sc] := hq.blk (bn0) (by simp <;> omega)
  clear hq
  have bB := bB'; clear bB'
  obtain ⟨cB, fB, lB, eB, kB⟩ := Blk.facts bB
  have oB := lB
  clear RC
  have hn8 : n ≤ 8 := by have := (chkE_0 HER.out).2.1; rw [HN.out]; exact this
  have hx64 : nx ≤ 64 := by have := (chkE_0 HER.out).2.2.1; rw [HX.out]; exact this
  have HB := hYd bB; have HKv := hYd (Past.toBelow Kv1)
  have HRG : Hid (∀ x ∈ xs, (-1125899906842624 ≤ x.w2 ∧ x.w2 ≤ 1125899906842624) ∧ (-1125899906842624 ≤ x.w3 ∧ x.w3 ≤ 1125899906842624)) := hYd (fun x hx => by have h9 := Stp.rg_all (stpE_0 ((chkE_0 HER.out).2.2.2.2 x hx)).1; exact ⟨h9.2.2.2.2.2.2.2.2.2.2.1, h9.2.2.2.2.2.2.2.2.2.2.2⟩)
  go_wp2
  clear bB cB fB lB eB kB
  go_loopg [5, 6] n (fun G v i wr => LsRel w v1 (⟨sta, loc, p, li, ai, es, xs⟩ : Sch) n #[.int .i64 sta, .int .i64 loc, .int .i64 p, .int .i64 li, .int .i64 ai, .slice A n c, .slice SA nx sc] G v i wr)
  case atStart => exact ⟨0, 0, none, 0, by omega, by omega, rfl, rfl, rfl, World.ownsRow_nil _ _ _ _, Nat.le_refl _, HB.out, HKv.out⟩
  case round =>
   obtain ⟨q, m, A', c', hq, rfl, rfl, rfl, hm, hrow, hBw, bB, KR⟩ := hrel
   have ZR := KR.size
   clear HB HKv
   have HROW := hYd hrow; have HM := hYd hm; have HKR := hYd KR
   have hrl := World.ownsRow.lt hrow
   have hml : m ≤ q := by rw [hm]; exact liesQ_len _ _
   clear hrow hm
   have cB := bB.cell; have lB := bB.lt
   have HB := hYd bB; clear bB
   by_cases hlt : q < n
   ·have gq : decide ((q : Int) < (n : Int)) = true := decide_eq_true (by omega)
    have gqn : decide (q < n) = true := decide_eq_true hlt
    have wq9 : IntKind.i64.wrap ((q : Int) + 1) = ((q + 1 : Nat) : Int) := by rw [IntWalk.i64_in _ (by omega)]; omega
    have hes : NsAt wr A n es := by have h9 : NsAt wr A es.length es := (HH.out.below KR).1; rw [← HN.out] at h9; exact h9
    obtain ⟨bk, off, rfl, lbk, hcb⟩ := hes.2.2 (by omega)
    have ce := hcb q hlt
    obtain ⟨ev, hev⟩ : ∃ ev, es.getD q 0 = ev := ⟨_, rfl⟩
    rw [hev] at ce
    clear hes hcb
    obtain ⟨b9, hb9⟩ : ∃ b9, xs.any (lieB q ev) = b9 := ⟨_, rfl⟩
    have hst : liesQ (⟨sta, loc, p, li, ai, es, xs⟩ : Sch) (q + 1) = if b9 then liesQ (⟨sta, loc, p, li, ai, es, xs⟩ : Sch) q ++ [(q : Int)] else liesQ (⟨sta, loc, p, li, ai, es, xs⟩ : Sch) q := by
     show (if xs.any (lieB q (es.getD q 0)) then _ else _) = _
     rw [hev, hb9]
    have HST := hYd hst; clear hst hev
    have HB9 := hYd hb9; have HCE := hYd ce; clear hb9 ce
    obtain ⟨w4, e4⟩ : ∃ x : World, x = wr := ⟨_, rfl⟩
    rw [← e4] at HB HKR HROW HCE lbk hBw ZR KR cB lB hrl ⊢
    clear e4
    go_wp2
    go_loopg [7, 8] nx (fun G v i wr => LkRel w4 (lieB q ev) xs nx #[.int .i64 sta, .int .i64 loc, .int .i64 p, .int .i64 li, .int .i64 ai, .slice (some ⟨bk, off, none⟩) n c, .slice SA nx sc] w.heap.size G v i wr)
    case atStart => exact ⟨0, by omega, by omega, rfl, by simp, HB.out, Below.refl _ _⟩
    case round =>
     clear cB lB
     obtain ⟨k, hk, rfl, rfl, rfl, bB, K2⟩ := hrel
     have Z2 := K2.size
     have cB := bB.cell; have lB := bB.lt
     have ce := (K2.cell (p := ⟨bk, off + q, none⟩) lbk).trans HCE.out
     have lbk2 : bk < wr.heap.size := by omega
     by_cases hkl : k < nx
     ·have gk : decide ((k : Int) < (nx : Int)) = true := decide_eq_true (by omega)
      have gkn : decide (k < nx) = true := decide_eq_true hkl
      have wk9 : IntKind.i64.wrap ((k : Int) + 1) = ((k + 1 : Nat) : Int) := by rw [IntWalk.i64_in _ (by omega)]; omega
      have hxs : StpsAt wr SA nx xs := by have h9 : StpsAt wr SA xs.length xs := (HH.out.below (kept_call K2 KR)).2; rw [← HX.out] at h9; exact h9
      obtain ⟨bs, os, rfl, lbs, d0, d1, d2, d3, d4, d5, d6, d7, d8, d9, d10⟩ := hxs.cells hkl
      clear hxs
      have hnx2 := any_take (p := lieB q ev) (xs := xs) (k := k) (by rw [← HX.out]; exact hkl)
      have hrg := HRG.out (xs.getD k .zero) (by rw [List.getD_eq_getElem?_getD, List.getElem?_eq_getElem (show k < xs.length by rw [← HX.out]; exact hkl)]; exact List.getElem_mem _)
      obtain ⟨lv, hlv⟩ : ∃ lv, (xs.take k).any (lieB q ev) = lv := ⟨_, rfl⟩
      rw [hlv] at hnx2 ⊢
      clear hlv
      obtain ⟨x, hx⟩ : ∃ x, xs.getD k .zero = x := ⟨_, rfl⟩
      simp only [hx] at d0 d1 d2 d3 d4 d5 d6 d7 d8 d9 d10 hrg hnx2
      clear hx
      rw [lieB_abs] at hnx2
      obtain ⟨src, tr, lo, ou, ol, ho, hl, ba, bl, w2', w3'⟩ := x
      dsimp only at d0 d1 d2 d3 d4 d5 d6 d7 d8 d9 d10 hrg hnx2
      have RA2 := hYd (abs_any w2' hrg.1.1 hrg.1.2)
      have RA3 := hYd (abs_any w3' hrg.2.1 hrg.2.2)
      obtain ⟨m2, hm2⟩ : ∃ m, max w2' (-w2') = m := ⟨_, rfl⟩
      obtain ⟨m3, hm3⟩ : ∃ m, max w3' (-w3') = m := ⟨_, rfl⟩
      rw [hm2] at RA2 hnx2
      rw [hm3] at RA3 hnx2
      clear hm2 hm3 hrg
      have HNX := hYd hnx2; clear hnx2
      go_upto_region 13 with fail
      obtain ⟨wA, hwA⟩ : ∃ x : World, x = wr.alloc (.cells #[.int .i64 src, .int .i64 tr, .int .i64 lo, .int .i64 ou, .int .i64 ol, .int .i64 ho, .int .i64 hl, .int .i64 ba, .int .i64 bl, .int .i64 w2', .int .i64 w3'] 57) := ⟨_, rfl⟩
      have SA2 : Below wr.heap.size wr wA := by rw [hwA]; exact (Below.refl _ _).alloc (Nat.le_refl _) _
      have bX : Blk wA wr.heap.size 57 #[.int .i64 src, .int .i64 tr, .int .i64 lo, .int .i64 ou, .int .i64 ol, .int .i64 ho, .int .i64 hl, .int .i64 ba, .int .i64 bl, .int .i64 w2', .int .i64 w3'] := by rw [hwA]; exact Blk.new _ _ _
      have bB' := bB.below SA2
      have ce' := (SA2.cell (p := ⟨bk, off + q, none⟩) lbk2).trans ce
      have ZA : wr.heap.size + 1 ≤ wA.heap.size := by rw [hwA]; simp
      rw [← hwA]
      clear hwA cB lB bB ce d0 d1 d2 d3 d4 d5 d6 d7 d8 d9 d10
      have bB := bB'; have HCE2 := hYd ce'; clear bB' ce'
      have KA := kept_call SA2 K2
      have lbk3 : bk < wA.heap.size := by omega
      cases lv with
      | true =>
       refine' wp_region_calmD (by kernel_rfl) (fun D u9 w' => Below wA.heap.size wA w' ∧ Blk w' w.heap.size 54 #[.int .i64 sta, .int .i64 loc, .int .i64 p, .int .i64 li, .int .i64 ai, .slice (some ⟨bk, off, none⟩) n c, .slice (some ⟨bs, os, none⟩) nx sc] ∧ Blk w' wr.heap.size 57 #[.int .i64 src, .int .i64 tr, .int .i64 lo, .int .i64 ou, .int .i64 ol, .int .i64 ho, .int .i64 hl, .int .i64 ba, .int .i64 bl, .int .i64 w2', .int .i64 w3'] ∧ (D 29 = false → u9 29 = .bool true)) (fun _ _ => True) [(Is _), (Is _), (Is _), (Is _), (Is _), (Is _), (Is _), (Is _), (Is _), (Is _), (Is _), (Is _), (Is _), (Is _), (Is _), (Is _), (Is _), (Is _), (Is _), (Is _), (Is _), (Is _), (Is _), (Is _), (Is _), (Is _), (Is _), (Is _), (Is _), (Is _)] [[], [0], [1], [2, 1], [1], [3, 4, 1], [5, 1], [6], [7, 6], [8, 6], [6], [10, 6], [6], [11, 12, 6], [13, 6], [9, 14, 6], [15, 6], [16], [17, 16], [18, 16], [16], [20, 16], [16], [21, 22, 16], [23, 16], [19, 24, 16], [16, 25, 6], [6, 26, 1], [1, 27], [28]] rfl (calmB_of (by kernel_rfl)) (fun u => by (simp only [calmPut, Act.put, lst, ls0, ls1, Nat.zero_add, Nat.reduceAdd]; rfl)) ?_ (kcc keep_is' (kcc keep_is' (kcc keep_is' (kcc keep_is' (kcc keep_is' (kcc keep_is' (kcc keep_is' (kcc keep_is' (kcc keep_is' (kcc keep_is' (kcc keep_is' (kcc keep_is' (kcc keep_is' (kcc keep_is' (kcc keep_is' (kcc keep_is' (kcc keep_is' (kcc keep_is' (kcc keep_is' (kcc keep_is' (kcc keep_is' (kcc keep_is' (kcc keep_is' (kcc keep_is' (kcc keep_is' (kcc keep_is' (kcc keep_is' (kcc keep_is' (kcc keep_is' (kcc keep_is' (calmKeep_nil))))))))))))))))))))))))))))))) ?_ ?_
       ·exact ⟨(Below.refl _ _).drew, bB.drew, bX.drew, (fun _ => rfl)⟩
       rotate_left 30
       ·skip
        refine dc2 (fun uu wq D hd hn hn2 hC hk K hK => ?_) ?_
        ·obtain ⟨hP, mB, mX, hU⟩ := hC
         clear hk
         have hu : uu 29 = .bool true := hU (hn.out 29 (calmReach_of (by decide) (by kernel_rfl)))
         simp only [hu] at hK ⊢
         have HU := hYd hu; clear hu
         go_simp
         exact hK _ _ _ rfl ⟨hP, mB, mX, hU⟩ trivial rfl
        refine dc1 (fun uu wq D hC hk K hK => ?_) ?_
        ·obtain ⟨hP, mB, mX, hU⟩ := hC
         simp only [calmKnown, lg0, lg1, and_true, Is] at hk
         have h0 := hk; clear hk
         simp only [h0] at hK ⊢
         have H0 := hYd h0; clear h0
         go_simp
         exact hK _ _ _ rfl ⟨hP, mB, mX, hU⟩ trivial rfl
        refine dc1 (fun uu wq D hC hk K hK => ?_) ?_
        ·obtain ⟨hP, mB, mX, hU⟩ := hC
         simp only [calmKnown, lg0, lg1, and_true, Is] at hk
         have h1 := hk; clear hk
         simp only [h1] at hK ⊢
         have H1 := hYd h1; clear h1
         go_simp
         exact hK _ _ _ rfl ⟨hP, mB, mX, hU⟩ trivial rfl
        refine dc1 (fun uu wq D hC hk K hK => ?_) ?_
        ·obtain ⟨hP, mB, mX, hU⟩ := hC
         simp only [calmKnown, lg0, lg1, and_true, Is] at hk
         obtain ⟨h2, h1⟩ := hk
         simp only [h2, h1] at hK ⊢
         have H2 := hYd h2; clear h2; have H1 := hYd h1; clear h1
         have cB := mB.cell; have lB := mB.lt; have cX := mX.cell; have lX := mX.lt
         have ce := (hP.cell (p := ⟨bk, off + q, none⟩) lbk3).trans HCE2.out
         have lbk9 : bk < wq.heap.size := Nat.lt_of_lt_of_le lbk3 hP.size
         go_simp
         exact hK _ _ _ rfl ⟨hP, mB, mX, hU⟩ trivial rfl
        refine dc1 (fun uu wq D hC hk K hK => ?_) ?_
        ·obtain ⟨hP, mB, mX, hU⟩ := hC
         simp only [calmKnown, lg0, lg1, and_true, Is] at hk
         have h1 := hk; clear hk
         simp only [h1] at hK ⊢
         have H1 := hYd h1; clear h1
         go_simp
         exact hK _ _ _ rfl ⟨hP, mB, mX, hU⟩ trivial rfl
        refine dc1 (fun uu wq D hC hk K hK => ?_) ?_
        ·obtain ⟨hP, mB, mX, hU⟩ := hC
         simp only [calmKnown, lg0, lg1, and_true, Is] at hk
         obtain ⟨h3, h4, h1⟩ := hk
         simp only [h3, h4, h1] at hK ⊢
         have H3 := hYd h3; clear h3; have H4 := hYd h4; clear h4; have H1 := hYd h1; clear h1
         go_simp
         exact hK _ _ _ rfl ⟨hP, mB, mX, hU⟩ trivial rfl
        refine dc1 (fun uu wq D hC hk K hK => ?_) ?_
        ·obtain ⟨hP, mB, mX, hU⟩ := hC
         simp only [calmKnown, lg0, lg1, and_true, Is] at hk
         obtain ⟨h5, h1⟩ := hk
         simp only [h5, h1] at hK ⊢
         have H5 := hYd h5; clear h5; have H1 := hYd h1; clear h1
         go_simp
         exact hK _ _ _ rfl ⟨hP, mB, mX, hU⟩ trivial rfl
        refine dc1 (fun uu wq D hC hk K hK => ?_) ?_
        ·obtain ⟨hP, mB, mX, hU⟩ := hC
         simp only [calmKnown, lg0, lg1, and_true, Is] at hk
         have h6 := hk; clear hk
         simp only [h6] at hK ⊢
         have H6 := hYd h6; clear h6
         go_simp
         exact hK _ _ _ rfl ⟨hP, mB, mX, hU⟩ trivial rfl
        refine dc1 (fun uu wq D hC hk K hK => ?_) ?_
        ·obtain ⟨hP, mB, mX, hU⟩ := hC
         simp only [calmKnown, lg0, lg1, and_true, Is] at hk
         obtain ⟨h7, h6⟩ := hk
         simp only [h7, h6] at hK ⊢
         have H7 := hYd h7; clear h7; have H6 := hYd h6; clear h6
         have cB := mB.cell; have lB := mB.lt; have cX := mX.cell; have lX := mX.lt
         have ce := (hP.cell (p := ⟨bk, off + q, none⟩) lbk3).trans HCE2.out
         have lbk9 : bk < wq.heap.size := Nat.lt_of_lt_of_le lbk3 hP.size
         go_simp
         exact hK _ _ _ rfl ⟨hP, mB, mX, hU⟩ trivial rfl
        refine dc1 (fun uu wq D hC hk K hK => ?_) ?_
        ·obtain ⟨hP, mB, mX, hU⟩ := hC
         simp only [calmKnown, lg0, lg1, and_true, Is] at hk
         obtain ⟨h8, h6⟩ := hk
         simp only [h8, h6] at hK ⊢
         have H8 := hYd h8; clear h8; have H6 := hYd h6; clear h6
         first
          | (refine' calm_op ?_ ?_; rfl; go_simp; (first | (with_reducible refine (RA2.out _).mono ?_) | (with_reducible refine (RA3.out _).mono ?_)); rintro e w2 ⟨rfl, hbl⟩; exact hK _ _ _ rfl ⟨kept_call hbl hP, Blk.keep hbl mB, Blk.keep hbl mX, hU⟩ trivial rfl)
          | (go_simp; exact hK _ _ _ rfl ⟨hP, mB, mX, hU⟩ trivial rfl)
        refine dc1 (fun uu wq D hC hk K hK => ?_) ?_
        ·obtain ⟨hP, mB, mX, hU⟩ := hC
         simp only [calmKnown, lg0, lg1, and_true, Is] at hk
         have h6 := hk; clear hk
         simp only [h6] at hK ⊢
         have H6 := hYd h6; clear h6
         go_simp
         exact hK _ _ _ rfl ⟨hP, mB, mX, hU⟩ trivial rfl
        refine dc1 (fun uu wq D hC hk K hK => ?_) ?_
        ·obtain ⟨hP, mB, mX, hU⟩ := hC
         simp only [calmKnown, lg0, lg1, and_true, Is] at hk
         obtain ⟨h10, h6⟩ := hk
         simp only [h10, h6] at hK ⊢
         have H10 := hYd h10; clear h10; have H6 := hYd h6; clear h6
         have cB := mB.cell; have lB := mB.lt; have cX := mX.cell; have lX := mX.lt
         have ce := (hP.cell (p := ⟨bk, off + q, none⟩) lbk3).trans HCE2.out
         have lbk9 : bk < wq.heap.size := Nat.lt_of_lt_of_le lbk3 hP.size
         go_simp
         exact hK _ _ _ rfl ⟨hP, mB, mX, hU⟩ trivial rfl
        refine dc1 (fun uu wq D hC hk K hK => ?_) ?_
        ·obtain ⟨hP, mB, mX, hU⟩ := hC
         simp only [calmKnown, lg0, lg1, and_true, Is] at hk
         have h6 := hk; clear hk
         simp only [h6] at hK ⊢
         have H6 := hYd h6; clear h6
         go_simp
         exact hK _ _ _ rfl ⟨hP, mB, mX, hU⟩ trivial rfl
        refine dc1 (fun uu wq D hC hk K hK => ?_) ?_
        ·obtain ⟨hP, mB, mX, hU⟩ := hC
         simp only [calmKnown, lg0, lg1, and_true, Is] at hk
         obtain ⟨h11, h12, h6⟩ := hk
         simp only [h11, h12, h6] at hK ⊢
         have H11 := hYd h11; clear h11; have H12 := hYd h12; clear h12; have H6 := hYd h6; clear h6
         go_simp
         exact hK _ _ _ rfl ⟨hP, mB, mX, hU⟩ trivial rfl
        refine dc1 (fun uu wq D hC hk K hK => ?_) ?_
        ·obtain ⟨hP, mB, mX, hU⟩ := hC
         simp only [calmKnown, lg0, lg1, and_true, Is] at hk
         obtain ⟨h13, h6⟩ := hk
         simp only [h13, h6] at hK ⊢
         have H13 := hYd h13; clear h13; have H6 := hYd h6; clear h6
         have cB := mB.cell; have lB := mB.lt; have cX := mX.cell; have lX := mX.lt
         have ce := (hP.cell (p := ⟨bk, off + q, none⟩) lbk3).trans HCE2.out
         have lbk9 : bk < wq.heap.size := Nat.lt_of_lt_of_le lbk3 hP.size
         go_simp
         exact hK _ _ _ rfl ⟨hP, mB, mX, hU⟩ trivial rfl
        refine dc1 (fun uu wq D hC hk K hK => ?_) ?_
        ·obtain ⟨hP, mB, mX, hU⟩ := hC
         simp only [calmKnown, lg0, lg1, and_true, Is] at hk
         obtain ⟨h9, h14, h6⟩ := hk
         simp only [h9, h14, h6] at hK ⊢
         have H9 := hYd h9; clear h9; have H14 := hYd h14; clear h14; have H6 := hYd h6; clear h6
         go_simp
         exact hK _ _ _ rfl ⟨hP, mB, mX, hU⟩ trivial rfl
        refine dc1 (fun uu wq D hC hk K hK => ?_) ?_
        ·obtain ⟨hP, mB, mX, hU⟩ := hC
         simp only [calmKnown, lg0, lg1, and_true, Is] at hk
         obtain ⟨h15, h6⟩ := hk
         simp only [h15, h6] at hK ⊢
         have H15 := hYd h15; clear h15; have H6 := hYd h6; clear h6
         go_simp
         exact hK _ _ _ rfl ⟨hP, mB, mX, hU⟩ trivial rfl
        refine dc1 (fun uu wq D hC hk K hK => ?_) ?_
        ·obtain ⟨hP, mB, mX, hU⟩ := hC
         simp only [calmKnown, lg0, lg1, and_true, Is] at hk
         have h16 := hk; clear hk
         simp only [h16] at hK ⊢
         have H16 := hYd h16; clear h16
         go_simp
         exact hK _ _ _ rfl ⟨hP, mB, mX, hU⟩ trivial rfl
        refine dc1 (fun uu wq D hC hk K hK => ?_) ?_
        ·obtain ⟨hP, mB, mX, hU⟩ := hC
         simp only [calmKnown, lg0, lg1, and_true, Is] at hk
         obtain ⟨h17, h16⟩ := hk
         simp only [h17, h16] at hK ⊢
         have H17 := hYd h17; clear h17; have H16 := hYd h16; clear h16
         have cB := mB.cell; have lB := mB.lt; have cX := mX.cell; have lX := mX.lt
         have ce := (hP.cell (p := ⟨bk, off + q, none⟩) lbk3).trans HCE2.out
         have lbk9 : bk < wq.heap.size := Nat.lt_of_lt_of_le lbk3 hP.size
         go_simp
         exact hK _ _ _ rfl ⟨hP, mB, mX, hU⟩ trivial rfl
        refine dc1 (fun uu wq D hC hk K hK => ?_) ?_
        ·obtain ⟨hP, mB, mX, hU⟩ := hC
         simp only [calmKnown, lg0, lg1, and_true, Is] at hk
         obtain ⟨h18, h16⟩ := hk
         simp only [h18, h16] at hK ⊢
         have H18 := hYd h18; clear h18; have H16 := hYd h16; clear h16
         first
          | (refine' calm_op ?_ ?_; rfl; go_simp; (first | (with_reducible refine (RA2.out _).mono ?_) | (with_reducible refine (RA3.out _).mono ?_)); rintro e w2 ⟨rfl, hbl⟩; exact hK _ _ _ rfl ⟨kept_call hbl hP, Blk.keep hbl mB, Blk.keep hbl mX, hU⟩ trivial rfl)
          | (go_simp; exact hK _ _ _ rfl ⟨hP, mB, mX, hU⟩ trivial rfl)
        refine dc1 (fun uu wq D hC hk K hK => ?_) ?_
        ·obtain ⟨hP, mB, mX, hU⟩ := hC
         simp only [calmKnown, lg0, lg1, and_true, Is] at hk
         have h16 := hk; clear hk
         simp only [h16] at hK ⊢
         have H16 := hYd h16; clear h16
         go_simp
         exact hK _ _ _ rfl ⟨hP, mB, mX, hU⟩ trivial rfl
        refine dc1 (fun uu wq D hC hk K hK => ?_) ?_
        ·obtain ⟨hP, mB, mX, hU⟩ := hC
         simp only [calmKnown, lg0, lg1, and_true, Is] at hk
         obtain ⟨h20, h16⟩ := hk
         simp only [h20, h16] at hK ⊢
         have H20 := hYd h20; clear h20; have H16 := hYd h16; clear h16
         have cB := mB.cell; have lB := mB.lt; have cX := mX.cell; have lX := mX.lt
         have ce := (hP.cell (p := ⟨bk, off + q, none⟩) lbk3).trans HCE2.out
         have lbk9 : bk < wq.heap.size := Nat.lt_of_lt_of_le lbk3 hP.size
         go_simp
         exact hK _ _ _ rfl ⟨hP, mB, mX, hU⟩ trivial rfl
        refine dc1 (fun uu wq D hC hk K hK => ?_) ?_
        ·obtain ⟨hP, mB, mX, hU⟩ := hC
         simp only [calmKnown, lg0, lg1, and_true, Is] at hk
         have h16 := hk; clear hk
         simp only [h16] at hK ⊢
         have H16 := hYd h16; clear h16
         go_simp
         exact hK _ _ _ rfl ⟨hP, mB, mX, hU⟩ trivial rfl
        refine dc1 (fun uu wq D hC hk K hK => ?_) ?_
        ·obtain ⟨hP, mB, mX, hU⟩ := hC
         simp only [calmKnown, lg0, lg1, and_true, Is] at hk
         obtain ⟨h21, h22, h16⟩ := hk
         simp only [h21, h22, h16] at hK ⊢
         have H21 := hYd h21; clear h21; have H22 := hYd h22; clear h22; have H16 := hYd h16; clear h16
         go_simp
         exact hK _ _ _ rfl ⟨hP, mB, mX, hU⟩ trivial rfl
        refine dc1 (fun uu wq D hC hk K hK => ?_) ?_
        ·obtain ⟨hP, mB, mX, hU⟩ := hC
         simp only [calmKnown, lg0, lg1, and_true, Is] at hk
         obtain ⟨h23, h16⟩ := hk
         simp only [h23, h16] at hK ⊢
         have H23 := hYd h23; clear h23; have H16 := hYd h16; clear h16
         have cB := mB.cell; have lB := mB.lt; have cX := mX.cell; have lX := mX.lt
         have ce := (hP.cell (p := ⟨bk, off + q, none⟩) lbk3).trans HCE2.out
         have lbk9 : bk < wq.heap.size := Nat.lt_of_lt_of_le lbk3 hP.size
         go_simp
         exact hK _ _ _ rfl ⟨hP, mB, mX, hU⟩ trivial rfl
        refine dc1 (fun uu wq D hC hk K hK => ?_) ?_
        ·obtain ⟨hP, mB, mX, hU⟩ := hC
         simp only [calmKnown, lg0, lg1, and_true, Is] at hk
         obtain ⟨h19, h24, h16⟩ := hk
         simp only [h19, h24, h16] at hK ⊢
         have H19 := hYd h19; clear h19; have H24 := hYd h24; clear h24; have H16 := hYd h16; clear h16
         go_simp
         exact hK _ _ _ rfl ⟨hP, mB, mX, hU⟩ trivial rfl
        refine dc1 (fun uu wq D hC hk K hK => ?_) ?_
        ·obtain ⟨hP, mB, mX, hU⟩ := hC
         simp only [calmKnown, lg0, lg1, and_true, Is] at hk
         obtain ⟨h16, h25, h6⟩ := hk
         simp only [h16, h25, h6] at hK ⊢
         have H16 := hYd h16; clear h16; have H25 := hYd h25; clear h25; have H6 := hYd h6; clear h6
         go_simp
         exact hK _ _ _ rfl ⟨hP, mB, mX, hU⟩ trivial rfl
        refine dc1 (fun uu wq D hC hk K hK => ?_) ?_
        ·obtain ⟨hP, mB, mX, hU⟩ := hC
         simp only [calmKnown, lg0, lg1, and_true, Is] at hk
         obtain ⟨h6, h26, h1⟩ := hk
         simp only [h6, h26, h1] at hK ⊢
         have H6 := hYd h6; clear h6; have H26 := hYd h26; clear h26; have H1 := hYd h1; clear h1
         go_simp
         exact hK _ _ _ rfl ⟨hP, mB, mX, hU⟩ trivial rfl
        refine dc1 (fun uu wq D hC hk K hK => ?_) ?_
        ·obtain ⟨hP, mB, mX, hU⟩ := hC
         simp only [calmKnown, lg0, lg1, and_true, Is] at hk
         obtain ⟨h1, h27⟩ := hk
         simp only [h1, h27] at hK ⊢
         have H1 := hYd h1; clear h1; have H27 := hYd h27; clear h27
         go_simp
         exact hK _ _ _ rfl ⟨hP, mB, mX, hU⟩ trivial rfl
        refine dc1 (fun uu wq D hC hk K hK => ?_) ?_
        ·obtain ⟨hP, mB, mX, hU⟩ := hC
         simp only [calmKnown, lg0, lg1, and_true, Is] at hk
         have h28 := hk; clear hk
         simp only [h28] at hK ⊢
         have H28 := hYd h28; clear h28
         go_simp
         exact hK _ _ _ rfl ⟨hP, mB, mX, (fun h => by cases h)⟩ trivial rfl
        exact dSteps_nil
       ·intro uu wz D hD hC hF
        obtain ⟨hP, mB, mX, hU⟩ := hC
        simp only [calmFacts, Is, and_true, true_and] at hF
        obtain ⟨f0, f1, f2, f3, f4, f5, f6, f7, f8, f9, f10, f11, f12, f13, f14, f15, f16, f17, f18, f19, f20, f21, f22, f23, f24, f25, f26, f27, f28, f29⟩ := hF
        simp only [f0, f1, f2, f3, f4, f5, f6, f7, f8, f9, f10, f11, f12, f13, f14, f15, f16, f17, f18, f19, f20, f21, f22, f23, f24, f25, f26, f27, f28, f29]
        have HKZ := hYd (kept_call hP KA)
        have HMB := hYd mB; clear mB mX hU hD hP
        go_wp2
        go_roundg (nx - (k + 1))
        case measure => omega
        case rel => exact ⟨k + 1, by omega, by omega, by go_num, by rw [HNX.out]; simp, HMB.out, HKZ.out⟩
      | false =>
       by_cases c1 : src = (q : Int)
       rotate_left
       ·have g1 : decide (src = (q : Int)) = false := decide_eq_false c1
        have g1b : (src == (q : Int)) = false := by simpa using c1
        refine' wp_region_calmD (by kernel_rfl) (fun D u9 w' => Below wA.heap.size wA w' ∧ Blk w' w.heap.size 54 #[.int .i64 sta, .int .i64 loc, .int .i64 p, .int .i64 li, .int .i64 ai, .slice (some ⟨bk, off, none⟩) n c, .slice (some ⟨bs, os, none⟩) nx sc] ∧ Blk w' wr.heap.size 57 #[.int .i64 src, .int .i64 tr, .int .i64 lo, .int .i64 ou, .int .i64 ol, .int .i64 ho, .int .i64 hl, .int .i64 ba, .int .i64 bl, .int .i64 w2', .int .i64 w3'] ∧ (D 29 = false → u9 29 = .bool false)) (fun _ _ => True) [(Is _), (Is _), (Is _), (Is _), (Is _), (Is _), (Is _), (Is _), (Is _), (Is _), (Is _), (Is _), (Is _), (Is _), (Is _), (Is _), (Is _), (Is _), (Is _), (Is _), (Is _), (Is _), (Is _), (Is _), (Is _), (Is _), (Is _), (Is _), (Is _), (Is _)] [[], [0], [1], [2, 1], [1], [3, 4, 1], [5, 1], [6], [7, 6], [8, 6], [6], [10, 6], [6], [11, 12, 6], [13, 6], [9, 14, 6], [15, 6], [16], [17, 16], [18, 16], [16], [20, 16], [16], [21, 22, 16], [23, 16], [19, 24, 16], [16, 25, 6], [6, 26, 1], [1, 27], [28]] rfl (calmB_of (by kernel_rfl)) (fun u => by (simp only [calmPut, Act.put, lst, ls0, ls1, Nat.zero_add, Nat.reduceAdd]; rfl)) ?_ (kcc keep_is' (kcc keep_is' (kcc keep_is' (kcc keep_is' (kcc keep_is' (kcc keep_is' (kcc keep_is' (kcc keep_is' (kcc keep_is' (kcc keep_is' (kcc keep_is' (kcc keep_is' (kcc keep_is' (kcc keep_is' (kcc keep_is' (kcc keep_is' (kcc keep_is' (kcc keep_is' (kcc keep_is' (kcc keep_is' (kcc keep_is' (kcc keep_is' (kcc keep_is' (kcc keep_is' (kcc keep_is' (kcc keep_is' (kcc keep_is' (kcc keep_is' (kcc keep_is' (kcc keep_is' (calmKeep_nil))))))))))))))))))))))))))))))) ?_ ?_
        ·exact ⟨(Below.refl _ _).drew, bB.drew, bX.drew, (fun _ => rfl)⟩
        rotate_left 30
        ·skip
         refine dc2 (fun uu wq D hd hn hn2 hC hk K hK => ?_) ?_
         ·obtain ⟨hP, mB, mX, hU⟩ := hC
          clear hk
          have hu : uu 29 = .bool false := hU (hn.out 29 (calmReach_of (by decide) (by kernel_rfl)))
          simp only [hu] at hK ⊢
          have HU := hYd hu; clear hu
          go_simp
          exact hK _ _ _ rfl ⟨hP, mB, mX, hU⟩ trivial rfl
         refine dc1 (fun uu wq D hC hk K hK => ?_) ?_
         ·obtain ⟨hP, mB, mX, hU⟩ := hC
          simp only [calmKnown, lg0, lg1, and_true, Is] at hk
          have h0 := hk; clear hk
          simp only [h0] at hK ⊢
          have H0 := hYd h0; clear h0
          go_simp
          exact hK _ _ _ rfl ⟨hP, mB, mX, hU⟩ trivial rfl
         refine dc1 (fun uu wq D hC hk K hK => ?_) ?_
         ·obtain ⟨hP, mB, mX, hU⟩ := hC
          simp only [calmKnown, lg0, lg1, and_true, Is] at hk
          have h1 := hk; clear hk
          simp only [h1] at hK ⊢
          have H1 := hYd h1; clear h1
          go_simp
          exact hK _ _ _ rfl ⟨hP, mB, mX, hU⟩ trivial rfl
         refine dc1 (fun uu wq D hC hk K hK => ?_) ?_
         ·obtain ⟨hP, mB, mX, hU⟩ := hC
          simp only [calmKnown, lg0, lg1, and_true, Is] at hk
          obtain ⟨h2, h1⟩ := hk
          simp only [h2, h1] at hK ⊢
          have H2 := hYd h2; clear h2; have H1 := hYd h1; clear h1
          have cB := mB.cell; have lB := mB.lt; have cX := mX.cell; have lX := mX.lt
          have ce := (hP.cell (p := ⟨bk, off + q, none⟩) lbk3).trans HCE2.out
          have lbk9 : bk < wq.heap.size := Nat.lt_of_lt_of_le lbk3 hP.size
          go_simp
          exact hK _ _ _ rfl ⟨hP, mB, mX, hU⟩ trivial rfl
         refine dc1 (fun uu wq D hC hk K hK => ?_) ?_
         ·obtain ⟨hP, mB, mX, hU⟩ := hC
          simp only [calmKnown, lg0, lg1, and_true, Is] at hk
          have h1 := hk; clear hk
          simp only [h1] at hK ⊢
          have H1 := hYd h1; clear h1
          go_simp
          exact hK _ _ _ rfl ⟨hP, mB, mX, hU⟩ trivial rfl
         refine dc1 (fun uu wq D hC hk K hK => ?_) ?_
         ·obtain ⟨hP, mB, mX, hU⟩ := hC
          simp only [calmKnown, lg0, lg1, and_true, Is] at hk
          obtain ⟨h3, h4, h1⟩ := hk
          simp only [h3, h4, h1] at hK ⊢
          have H3 := hYd h3; clear h3; have H4 := hYd h4; clear h4; have H1 := hYd h1; clear h1
          go_simp
          exact hK _ _ _ rfl ⟨hP, mB, mX, hU⟩ trivial rfl
         refine dc1 (fun uu wq D hC hk K hK => ?_) ?_
         ·obtain ⟨hP, mB, mX, hU⟩ := hC
          simp only [calmKnown, lg0, lg1, and_true, Is] at hk
          obtain ⟨h5, h1⟩ := hk
          simp only [h5, h1] at hK ⊢
          have H5 := hYd h5; clear h5; have H1 := hYd h1; clear h1
          go_simp
          exact hK _ _ _ rfl ⟨hP, mB, mX, hU⟩ trivial rfl
         refine dc1 (fun uu wq D hC hk K hK => ?_) ?_
         ·obtain ⟨hP, mB, mX, hU⟩ := hC
          simp only [calmKnown, lg0, lg1, and_true, Is] at hk
          have h6 := hk; clear hk
          simp only [h6] at hK ⊢
          have H6 := hYd h6; clear h6
          go_simp
          exact hK _ _ _ rfl ⟨hP, mB, mX, hU⟩ trivial rfl
         refine dc1 (fun uu wq D hC hk K hK => ?_) ?_
         ·obtain ⟨hP, mB, mX, hU⟩ := hC
          simp only [calmKnown, lg0, lg1, and_true, Is] at hk
          obtain ⟨h7, h6⟩ := hk
          simp only [h7, h6] at hK ⊢
          have H7 := hYd h7; clear h7; have H6 := hYd h6; clear h6
          have cB := mB.cell; have lB := mB.lt; have cX := mX.cell; have lX := mX.lt
          have ce := (hP.cell (p := ⟨bk, off + q, none⟩) lbk3).trans HCE2.out
          have lbk9 : bk < wq.heap.size := Nat.lt_of_lt_of_le lbk3 hP.size
          go_simp
          exact hK _ _ _ rfl ⟨hP, mB, mX, hU⟩ trivial rfl
         refine dc1 (fun uu wq D hC hk K hK => ?_) ?_
         ·obtain ⟨hP, mB, mX, hU⟩ := hC
          simp only [calmKnown, lg0, lg1, and_true, Is] at hk
          obtain ⟨h8, h6⟩ := hk
          simp only [h8, h6] at hK ⊢
          have H8 := hYd h8; clear h8; have H6 := hYd h6; clear h6
          first
           | (refine' calm_op ?_ ?_; rfl; go_simp; (first | (with_reducible refine (RA2.out _).mono ?_) | (with_reducible refine (RA3.out _).mono ?_)); rintro e w2 ⟨rfl, hbl⟩; exact hK _ _ _ rfl ⟨kept_call hbl hP, Blk.keep hbl mB, Blk.keep hbl mX, hU⟩ trivial rfl)
           | (go_simp; exact hK _ _ _ rfl ⟨hP, mB, mX, hU⟩ trivial rfl)
         refine dc1 (fun uu wq D hC hk K hK => ?_) ?_
         ·obtain ⟨hP, mB, mX, hU⟩ := hC
          simp only [calmKnown, lg0, lg1, and_true, Is] at hk
          have h6 := hk; clear hk
          simp only [h6] at hK ⊢
          have H6 := hYd h6; clear h6
          go_simp
          exact hK _ _ _ rfl ⟨hP, mB, mX, hU⟩ trivial rfl
         refine dc1 (fun uu wq D hC hk K hK => ?_) ?_
         ·obtain ⟨hP, mB, mX, hU⟩ := hC
          simp only [calmKnown, lg0, lg1, and_true, Is] at hk
          obtain ⟨h10, h6⟩ := hk
          simp only [h10, h6] at hK ⊢
          have H10 := hYd h10; clear h10; have H6 := hYd h6; clear h6
          have cB := mB.cell; have lB := mB.lt; have cX := mX.cell; have lX := mX.lt
          have ce := (hP.cell (p := ⟨bk, off + q, none⟩) lbk3).trans HCE2.out
          have lbk9 : bk < wq.heap.size := Nat.lt_of_lt_of_le lbk3 hP.size
          go_simp
          exact hK _ _ _ rfl ⟨hP, mB, mX, hU⟩ trivial rfl
         refine dc1 (fun uu wq D hC hk K hK => ?_) ?_
         ·obtain ⟨hP, mB, mX, hU⟩ := hC
          simp only [calmKnown, lg0, lg1, and_true, Is] at hk
          have h6 := hk; clear hk
          simp only [h6] at hK ⊢
          have H6 := hYd h6; clear h6
          go_simp
          exact hK _ _ _ rfl ⟨hP, mB, mX, hU⟩ trivial rfl
         refine dc1 (fun uu wq D hC hk K hK => ?_) ?_
         ·obtain ⟨hP, mB, mX, hU⟩ := hC
          simp only [calmKnown, lg0, lg1, and_true, Is] at hk
          obtain ⟨h11, h12, h6⟩ := hk
          simp only [h11, h12, h6] at hK ⊢
          have H11 := hYd h11; clear h11; have H12 := hYd h12; clear h12; have H6 := hYd h6; clear h6
          go_simp
          exact hK _ _ _ rfl ⟨hP, mB, mX, hU⟩ trivial rfl
         refine dc1 (fun uu wq D hC hk K hK => ?_) ?_
         ·obtain ⟨hP, mB, mX, hU⟩ := hC
          simp only [calmKnown, lg0, lg1, and_true, Is] at hk
          obtain ⟨h13, h6⟩ := hk
          simp only [h13, h6] at hK ⊢
          have H13 := hYd h13; clear h13; have H6 := hYd h6; clear h6
          have cB := mB.cell; have lB := mB.lt; have cX := mX.cell; have lX := mX.lt
          have ce := (hP.cell (p := ⟨bk, off + q, none⟩) lbk3).trans HCE2.out
          have lbk9 : bk < wq.heap.size := Nat.lt_of_lt_of_le lbk3 hP.size
          go_simp
          exact hK _ _ _ rfl ⟨hP, mB, mX, hU⟩ trivial rfl
         refine dc1 (fun uu wq D hC hk K hK => ?_) ?_
         ·obtain ⟨hP, mB, mX, hU⟩ := hC
          simp only [calmKnown, lg0, lg1, and_true, Is] at hk
          obtain ⟨h9, h14, h6⟩ := hk
          simp only [h9, h14, h6] at hK ⊢
          have H9 := hYd h9; clear h9; have H14 := hYd h14; clear h14; have H6 := hYd h6; clear h6
          go_simp
          exact hK _ _ _ rfl ⟨hP, mB, mX, hU⟩ trivial rfl
         refine dc1 (fun uu wq D hC hk K hK => ?_) ?_
         ·obtain ⟨hP, mB, mX, hU⟩ := hC
          simp only [calmKnown, lg0, lg1, and_true, Is] at hk
          obtain ⟨h15, h6⟩ := hk
          simp only [h15, h6] at hK ⊢
          have H15 := hYd h15; clear h15; have H6 := hYd h6; clear h6
          go_simp
          exact hK _ _ _ rfl ⟨hP, mB, mX, hU⟩ trivial rfl
         refine dc1 (fun uu wq D hC hk K hK => ?_) ?_
         ·obtain ⟨hP, mB, mX, hU⟩ := hC
          simp only [calmKnown, lg0, lg1, and_true, Is] at hk
          have h16 := hk; clear hk
          simp only [h16] at hK ⊢
          have H16 := hYd h16; clear h16
          go_simp
          exact hK _ _ _ rfl ⟨hP, mB, mX, hU⟩ trivial rfl
         refine dc1 (fun uu wq D hC hk K hK => ?_) ?_
         ·obtain ⟨hP, mB, mX, hU⟩ := hC
          simp only [calmKnown, lg0, lg1, and_true, Is] at hk
          obtain ⟨h17, h16⟩ := hk
          simp only [h17, h16] at hK ⊢
          have H17 := hYd h17; clear h17; have H16 := hYd h16; clear h16
          have cB := mB.cell; have lB := mB.lt; have cX := mX.cell; have lX := mX.lt
          have ce := (hP.cell (p := ⟨bk, off + q, none⟩) lbk3).trans HCE2.out
          have lbk9 : bk < wq.heap.size := Nat.lt_of_lt_of_le lbk3 hP.size
          go_simp
          exact hK _ _ _ rfl ⟨hP, mB, mX, hU⟩ trivial rfl
         refine dc1 (fun uu wq D hC hk K hK => ?_) ?_
         ·obtain ⟨hP, mB, mX, hU⟩ := hC
          simp only [calmKnown, lg0, lg1, and_true, Is] at hk
          obtain ⟨h18, h16⟩ := hk
          simp only [h18, h16] at hK ⊢
          have H18 := hYd h18; clear h18; have H16 := hYd h16; clear h16
          first
           | (refine' calm_op ?_ ?_; rfl; go_simp; (first | (with_reducible refine (RA2.out _).mono ?_) | (with_reducible refine (RA3.out _).mono ?_)); rintro e w2 ⟨rfl, hbl⟩; exact hK _ _ _ rfl ⟨kept_call hbl hP, Blk.keep hbl mB, Blk.keep hbl mX, hU⟩ trivial rfl)
           | (go_simp; exact hK _ _ _ rfl ⟨hP, mB, mX, hU⟩ trivial rfl)
         refine dc1 (fun uu wq D hC hk K hK => ?_) ?_
         ·obtain ⟨hP, mB, mX, hU⟩ := hC
          simp only [calmKnown, lg0, lg1, and_true, Is] at hk
          have h16 := hk; clear hk
          simp only [h16] at hK ⊢
          have H16 := hYd h16; clear h16
          go_simp
          exact hK _ _ _ rfl ⟨hP, mB, mX, hU⟩ trivial rfl
         refine dc1 (fun uu wq D hC hk K hK => ?_) ?_
         ·obtain ⟨hP, mB, mX, hU⟩ := hC
          simp only [calmKnown, lg0, lg1, and_true, Is] at hk
          obtain ⟨h20, h16⟩ := hk
          simp only [h20, h16] at hK ⊢
          have H20 := hYd h20; clear h20; have H16 := hYd h16; clear h16
          have cB := mB.cell; have lB := mB.lt; have cX := mX.cell; have lX := mX.lt
          have ce := (hP.cell (p := ⟨bk, off + q, none⟩) lbk3).trans HCE2.out
          have lbk9 : bk < wq.heap.size := Nat.lt_of_lt_of_le lbk3 hP.size
          go_simp
          exact hK _ _ _ rfl ⟨hP, mB, mX, hU⟩ trivial rfl
         refine dc1 (fun uu wq D hC hk K hK => ?_) ?_
         ·obtain ⟨hP, mB, mX, hU⟩ := hC
          simp only [calmKnown, lg0, lg1, and_true, Is] at hk
          have h16 := hk; clear hk
          simp only [h16] at hK ⊢
          have H16 := hYd h16; clear h16
          go_simp
          exact hK _ _ _ rfl ⟨hP, mB, mX, hU⟩ trivial rfl
         refine dc1 (fun uu wq D hC hk K hK => ?_) ?_
         ·obtain ⟨hP, mB, mX, hU⟩ := hC
          simp only [calmKnown, lg0, lg1, and_true, Is] at hk
          obtain ⟨h21, h22, h16⟩ := hk
          simp only [h21, h22, h16] at hK ⊢
          have H21 := hYd h21; clear h21; have H22 := hYd h22; clear h22; have H16 := hYd h16; clear h16
          go_simp
          exact hK _ _ _ rfl ⟨hP, mB, mX, hU⟩ trivial rfl
         refine dc1 (fun uu wq D hC hk K hK => ?_) ?_
         ·obtain ⟨hP, mB, mX, hU⟩ := hC
          simp only [calmKnown, lg0, lg1, and_true, Is] at hk
          obtain ⟨h23, h16⟩ := hk
          simp only [h23, h16] at hK ⊢
          have H23 := hYd h23; clear h23; have H16 := hYd h16; clear h16
          have cB := mB.cell; have lB := mB.lt; have cX := mX.cell; have lX := mX.lt
          have ce := (hP.cell (p := ⟨bk, off + q, none⟩) lbk3).trans HCE2.out
          have lbk9 : bk < wq.heap.size := Nat.lt_of_lt_of_le lbk3 hP.size
          go_simp
          exact hK _ _ _ rfl ⟨hP, mB, mX, hU⟩ trivial rfl
         refine dc1 (fun uu wq D hC hk K hK => ?_) ?_
         ·obtain ⟨hP, mB, mX, hU⟩ := hC
          simp only [calmKnown, lg0, lg1, and_true, Is] at hk
          obtain ⟨h19, h24, h16⟩ := hk
          simp only [h19, h24, h16] at hK ⊢
          have H19 := hYd h19; clear h19; have H24 := hYd h24; clear h24; have H16 := hYd h16; clear h16
          go_simp
          exact hK _ _ _ rfl ⟨hP, mB, mX, hU⟩ trivial rfl
         refine dc1 (fun uu wq D hC hk K hK => ?_) ?_
         ·obtain ⟨hP, mB, mX, hU⟩ := hC
          simp only [calmKnown, lg0, lg1, and_true, Is] at hk
          obtain ⟨h16, h25, h6⟩ := hk
          simp only [h16, h25, h6] at hK ⊢
          have H16 := hYd h16; clear h16; have H25 := hYd h25; clear h25; have H6 := hYd h6; clear h6
          go_simp
          exact hK _ _ _ rfl ⟨hP, mB, mX, hU⟩ trivial rfl
         refine dc1 (fun uu wq D hC hk K hK => ?_) ?_
         ·obtain ⟨hP, mB, mX, hU⟩ := hC
          simp only [calmKnown, lg0, lg1, and_true, Is] at hk
          obtain ⟨h6, h26, h1⟩ := hk
          simp only [h6, h26, h1] at hK ⊢
          have H6 := hYd h6; clear h6; have H26 := hYd h26; clear h26; have H1 := hYd h1; clear h1
          go_simp
          exact hK _ _ _ rfl ⟨hP, mB, mX, hU⟩ trivial rfl
         refine dc1 (fun uu wq D hC hk K hK => ?_) ?_
         ·obtain ⟨hP, mB, mX, hU⟩ := hC
          simp only [calmKnown, lg0, lg1, and_true, Is] at hk
          obtain ⟨h1, h27⟩ := hk
          simp only [h1, h27] at hK ⊢
          have H1 := hYd h1; clear h1; have H27 := hYd h27; clear h27
          go_simp
          exact hK _ _ _ rfl ⟨hP, mB, mX, hU⟩ trivial rfl
         refine dc1 (fun uu wq D hC hk K hK => ?_) ?_
         ·obtain ⟨hP, mB, mX, hU⟩ := hC
          simp only [calmKnown, lg0, lg1, and_true, Is] at hk
          have h28 := hk; clear hk
          simp only [h28] at hK ⊢
          have H28 := hYd h28; clear h28
          go_simp
          exact hK _ _ _ rfl ⟨hP, mB, mX, (fun h => by cases h)⟩ trivial rfl
         exact dSteps_nil
        ·intro uu wz D hD hC hF
         obtain ⟨hP, mB, mX, hU⟩ := hC
         simp only [calmFacts, Is, and_true, true_and] at hF
         obtain ⟨f0, f1, f2, f3, f4, f5, f6, f7, f8, f9, f10, f11, f12, f13, f14, f15, f16, f17, f18, f19, f20, f21, f22, f23, f24, f25, f26, f27, f28, f29⟩ := hF
         simp only [f0, f1, f2, f3, f4, f5, f6, f7, f8, f9, f10, f11, f12, f13, f14, f15, f16, f17, f18, f19, f20, f21, f22, f23, f24, f25, f26, f27, f28, f29]
         have HKZ := hYd (kept_call hP KA)
         have HMB := hYd mB; clear mB mX hU hD hP
         go_wp2
         go_roundg (nx - (k + 1))
         case measure => omega
         case rel => exact ⟨k + 1, by omega, by omega, by go_num, by rw [HNX.out, g1]; simp, HMB.out, HKZ.out⟩
       have g1 : decide (src = (q : Int)) = true := decide_eq_true c1
       have g1b : (src == (q : Int)) = true := by simpa using c1
       have HC1 := hYd c1; clear c1
       by_cases c2 : ev < m2
       ·have g2 : decide (ev < m2) = true := decide_eq_true c2
        refine' wp_region_calmD (by kernel_rfl) (fun D u9 w' => Below wA.heap.size wA w' ∧ Blk w' w.heap.size 54 #[.int .i64 sta, .int .i64 loc, .int .i64 p, .int .i64 li, .int .i64 ai, .slice (some ⟨bk, off, none⟩) n c, .slice (some ⟨bs, os, none⟩) nx sc] ∧ Blk w' wr.heap.size 57 #[.int .i64 src, .int .i64 tr, .int .i64 lo, .int .i64 ou, .int .i64 ol, .int .i64 ho, .int .i64 hl, .int .i64 ba, .int .i64 bl, .int .i64 w2', .int .i64 w3'] ∧ (D 29 = false → u9 29 = .bool false)) (fun _ _ => True) [(Is _), (Is _), (Is _), (Is _), (Is _), (Is _), (Is _), (Is _), (Is _), (Is _), (Is _), (Is _), (Is _), (Is _), (Is _), (Is _), (Is _), (Is _), (Is _), (Is _), (Is _), (Is _), (Is _), (Is _), (Is _), (Is _), (Is _), (Is _), (Is _), (Is _)] [[], [0], [1], [2, 1], [1], [3, 4, 1], [5, 1], [6], [7, 6], [8, 6], [6], [10, 6], [6], [11, 12, 6], [13, 6], [9, 14, 6], [15, 6], [16], [17, 16], [18, 16], [16], [20, 16], [16], [21, 22, 16], [23, 16], [19, 24, 16], [16, 25, 6], [6, 26, 1], [1, 27], [28]] rfl (calmB_of (by kernel_rfl)) (fun u => by (simp only [calmPut, Act.put, lst, ls0, ls1, Nat.zero_add, Nat.reduceAdd]; rfl)) ?_ (kcc keep_is' (kcc keep_is' (kcc keep_is' (kcc keep_is' (kcc keep_is' (kcc keep_is' (kcc keep_is' (kcc keep_is' (kcc keep_is' (kcc keep_is' (kcc keep_is' (kcc keep_is' (kcc keep_is' (kcc keep_is' (kcc keep_is' (kcc keep_is' (kcc keep_is' (kcc keep_is' (kcc keep_is' (kcc keep_is' (kcc keep_is' (kcc keep_is' (kcc keep_is' (kcc keep_is' (kcc keep_is' (kcc keep_is' (kcc keep_is' (kcc keep_is' (kcc keep_is' (kcc keep_is' (calmKeep_nil))))))))))))))))))))))))))))))) ?_ ?_
        ·exact ⟨(Below.refl _ _).drew, bB.drew, bX.drew, (fun _ => rfl)⟩
        rotate_left 30
        ·skip
         refine dc2 (fun uu wq D hd hn hn2 hC hk K hK => ?_) ?_
         ·obtain ⟨hP, mB, mX, hU⟩ := hC
          clear hk
          have hu : uu 29 = .bool false := hU (hn.out 29 (calmReach_of (by decide) (by kernel_rfl)))
          simp only [hu] at hK ⊢
          have HU := hYd hu; clear hu
          go_simp
          exact hK _ _ _ rfl ⟨hP, mB, mX, hU⟩ trivial rfl
         refine dc1 (fun uu wq D hC hk K hK => ?_) ?_
         ·obtain ⟨hP, mB, mX, hU⟩ := hC
          simp only [calmKnown, lg0, lg1, and_true, Is] at hk
          have h0 := hk; clear hk
          simp only [h0] at hK ⊢
          have H0 := hYd h0; clear h0
          go_simp
          exact hK _ _ _ rfl ⟨hP, mB, mX, hU⟩ trivial rfl
         refine dc1 (fun uu wq D hC hk K hK => ?_) ?_
         ·obtain ⟨hP, mB, mX, hU⟩ := hC
          simp only [calmKnown, lg0, lg1, and_true, Is] at hk
          have h1 := hk; clear hk
          simp only [h1] at hK ⊢
          have H1 := hYd h1; clear h1
          go_simp
          exact hK _ _ _ rfl ⟨hP, mB, mX, hU⟩ trivial rfl
         refine dc1 (fun uu wq D hC hk K hK => ?_) ?_
         ·obtain ⟨hP, mB, mX, hU⟩ := hC
          simp only [calmKnown, lg0, lg1, and_true, Is] at hk
          obtain ⟨h2, h1⟩ := hk
          simp only [h2, h1] at hK ⊢
          have H2 := hYd h2; clear h2; have H1 := hYd h1; clear h1
          have cB := mB.cell; have lB := mB.lt; have cX := mX.cell; have lX := mX.lt
          have ce := (hP.cell (p := ⟨bk, off + q, none⟩) lbk3).trans HCE2.out
          have lbk9 : bk < wq.heap.size := Nat.lt_of_lt_of_le lbk3 hP.size
          go_simp
          exact hK _ _ _ rfl ⟨hP, mB, mX, hU⟩ trivial rfl
         refine dc1 (fun uu wq D hC hk K hK => ?_) ?_
         ·obtain ⟨hP, mB, mX, hU⟩ := hC
          simp only [calmKnown, lg0, lg1, and_true, Is] at hk
          have h1 := hk; clear hk
          simp only [h1] at hK ⊢
          have H1 := hYd h1; clear h1
          go_simp
          exact hK _ _ _ rfl ⟨hP, mB, mX, hU⟩ trivial rfl
         refine dc1 (fun uu wq D hC hk K hK => ?_) ?_
         ·obtain ⟨hP, mB, mX, hU⟩ := hC
          simp only [calmKnown, lg0, lg1, and_true, Is] at hk
          obtain ⟨h3, h4, h1⟩ := hk
          simp only [h3, h4, h1] at hK ⊢
          have H3 := hYd h3; clear h3; have H4 := hYd h4; clear h4; have H1 := hYd h1; clear h1
          go_simp
          exact hK _ _ _ rfl ⟨hP, mB, mX, hU⟩ trivial rfl
         refine dc1 (fun uu wq D hC hk K hK => ?_) ?_
         ·obtain ⟨hP, mB, mX, hU⟩ := hC
          simp only [calmKnown, lg0, lg1, and_true, Is] at hk
          obtain ⟨h5, h1⟩ := hk
          simp only [h5, h1] at hK ⊢
          have H5 := hYd h5; clear h5; have H1 := hYd h1; clear h1
          go_simp
          exact hK _ _ _ rfl ⟨hP, mB, mX, hU⟩ trivial rfl
         refine dc1 (fun uu wq D hC hk K hK => ?_) ?_
         ·obtain ⟨hP, mB, mX, hU⟩ := hC
          simp only [calmKnown, lg0, lg1, and_true, Is] at hk
          have h6 := hk; clear hk
          simp only [h6] at hK ⊢
          have H6 := hYd h6; clear h6
          go_simp
          exact hK _ _ _ rfl ⟨hP, mB, mX, hU⟩ trivial rfl
         refine dc1 (fun uu wq D hC hk K hK => ?_) ?_
         ·obtain ⟨hP, mB, mX, hU⟩ := hC
          simp only [calmKnown, lg0, lg1, and_true, Is] at hk
          obtain ⟨h7, h6⟩ := hk
          simp only [h7, h6] at hK ⊢
          have H7 := hYd h7; clear h7; have H6 := hYd h6; clear h6
          have cB := mB.cell; have lB := mB.lt; have cX := mX.cell; have lX := mX.lt
          have ce := (hP.cell (p := ⟨bk, off + q, none⟩) lbk3).trans HCE2.out
          have lbk9 : bk < wq.heap.size := Nat.lt_of_lt_of_le lbk3 hP.size
          go_simp
          exact hK _ _ _ rfl ⟨hP, mB, mX, hU⟩ trivial rfl
         refine dc1 (fun uu wq D hC hk K hK => ?_) ?_
         ·obtain ⟨hP, mB, mX, hU⟩ := hC
          simp only [calmKnown, lg0, lg1, and_true, Is] at hk
          obtain ⟨h8, h6⟩ := hk
          simp only [h8, h6] at hK ⊢
          have H8 := hYd h8; clear h8; have H6 := hYd h6; clear h6
          first
           | (refine' calm_op ?_ ?_; rfl; go_simp; (first | (with_reducible refine (RA2.out _).mono ?_) | (with_reducible refine (RA3.out _).mono ?_)); rintro e w2 ⟨rfl, hbl⟩; exact hK _ _ _ rfl ⟨kept_call hbl hP, Blk.keep hbl mB, Blk.keep hbl mX, hU⟩ trivial rfl)
           | (go_simp; exact hK _ _ _ rfl ⟨hP, mB, mX, hU⟩ trivial rfl)
         refine dc1 (fun uu wq D hC hk K hK => ?_) ?_
         ·obtain ⟨hP, mB, mX, hU⟩ := hC
          simp only [calmKnown, lg0, lg1, and_true, Is] at hk
          have h6 := hk; clear hk
          simp only [h6] at hK ⊢
          have H6 := hYd h6; clear h6
          go_simp
          exact hK _ _ _ rfl ⟨hP, mB, mX, hU⟩ trivial rfl
         refine dc1 (fun uu wq D hC hk K hK => ?_) ?_
         ·obtain ⟨hP, mB, mX, hU⟩ := hC
          simp only [calmKnown, lg0, lg1, and_true, Is] at hk
          obtain ⟨h10, h6⟩ := hk
          simp only [h10, h6] at hK ⊢
          have H10 := hYd h10; clear h10; have H6 := hYd h6; clear h6
          have cB := mB.cell; have lB := mB.lt; have cX := mX.cell; have lX := mX.lt
          have ce := (hP.cell (p := ⟨bk, off + q, none⟩) lbk3).trans HCE2.out
          have lbk9 : bk < wq.heap.size := Nat.lt_of_lt_of_le lbk3 hP.size
          go_simp
          exact hK _ _ _ rfl ⟨hP, mB, mX, hU⟩ trivial rfl
         refine dc1 (fun uu wq D hC hk K hK => ?_) ?_
         ·obtain ⟨hP, mB, mX, hU⟩ := hC
          simp only [calmKnown, lg0, lg1, and_true, Is] at hk
          have h6 := hk; clear hk
          simp only [h6] at hK ⊢
          have H6 := hYd h6; clear h6
          go_simp
          exact hK _ _ _ rfl ⟨hP, mB, mX, hU⟩ trivial rfl
         refine dc1 (fun uu wq D hC hk K hK => ?_) ?_
         ·obtain ⟨hP, mB, mX, hU⟩ := hC
          simp only [calmKnown, lg0, lg1, and_true, Is] at hk
          obtain ⟨h11, h12, h6⟩ := hk
          simp only [h11, h12, h6] at hK ⊢
          have H11 := hYd h11; clear h11; have H12 := hYd h12; clear h12; have H6 := hYd h6; clear h6
          go_simp
          exact hK _ _ _ rfl ⟨hP, mB, mX, hU⟩ trivial rfl
         refine dc1 (fun uu wq D hC hk K hK => ?_) ?_
         ·obtain ⟨hP, mB, mX, hU⟩ := hC
          simp only [calmKnown, lg0, lg1, and_true, Is] at hk
          obtain ⟨h13, h6⟩ := hk
          simp only [h13, h6] at hK ⊢
          have H13 := hYd h13; clear h13; have H6 := hYd h6; clear h6
          have cB := mB.cell; have lB := mB.lt; have cX := mX.cell; have lX := mX.lt
          have ce := (hP.cell (p := ⟨bk, off + q, none⟩) lbk3).trans HCE2.out
          have lbk9 : bk < wq.heap.size := Nat.lt_of_lt_of_le lbk3 hP.size
          go_simp
          exact hK _ _ _ rfl ⟨hP, mB, mX, hU⟩ trivial rfl
         refine dc1 (fun uu wq D hC hk K hK => ?_) ?_
         ·obtain ⟨hP, mB, mX, hU⟩ := hC
          simp only [calmKnown, lg0, lg1, and_true, Is] at hk
          obtain ⟨h9, h14, h6⟩ := hk
          simp only [h9, h14, h6] at hK ⊢
          have H9 := hYd h9; clear h9; have H14 := hYd h14; clear h14; have H6 := hYd h6; clear h6
          go_simp
          exact hK _ _ _ rfl ⟨hP, mB, mX, hU⟩ trivial rfl
         refine dc1 (fun uu wq D hC hk K hK => ?_) ?_
         ·obtain ⟨hP, mB, mX, hU⟩ := hC
          simp only [calmKnown, lg0, lg1, and_true, Is] at hk
          obtain ⟨h15, h6⟩ := hk
          simp only [h15, h6] at hK ⊢
          have H15 := hYd h15; clear h15; have H6 := hYd h6; clear h6
          go_simp
          exact hK _ _ _ rfl ⟨hP, mB, mX, hU⟩ trivial rfl
         refine dc1 (fun uu wq D hC hk K hK => ?_) ?_
         ·obtain ⟨hP, mB, mX, hU⟩ := hC
          simp only [calmKnown, lg0, lg1, and_true, Is] at hk
          have h16 := hk; clear hk
          simp only [h16] at hK ⊢
          have H16 := hYd h16; clear h16
          go_simp
          exact hK _ _ _ rfl ⟨hP, mB, mX, hU⟩ trivial rfl
         refine dc1 (fun uu wq D hC hk K hK => ?_) ?_
         ·obtain ⟨hP, mB, mX, hU⟩ := hC
          simp only [calmKnown, lg0, lg1, and_true, Is] at hk
          obtain ⟨h17, h16⟩ := hk
          simp only [h17, h16] at hK ⊢
          have H17 := hYd h17; clear h17; have H16 := hYd h16; clear h16
          have cB := mB.cell; have lB := mB.lt; have cX := mX.cell; have lX := mX.lt
          have ce := (hP.cell (p := ⟨bk, off + q, none⟩) lbk3).trans HCE2.out
          have lbk9 : bk < wq.heap.size := Nat.lt_of_lt_of_le lbk3 hP.size
          go_simp
          exact hK _ _ _ rfl ⟨hP, mB, mX, hU⟩ trivial rfl
         refine dc1 (fun uu wq D hC hk K hK => ?_) ?_
         ·obtain ⟨hP, mB, mX, hU⟩ := hC
          simp only [calmKnown, lg0, lg1, and_true, Is] at hk
          obtain ⟨h18, h16⟩ := hk
          simp only [h18, h16] at hK ⊢
          have H18 := hYd h18; clear h18; have H16 := hYd h16; clear h16
          first
           | (refine' calm_op ?_ ?_; rfl; go_simp; (first | (with_reducible refine (RA2.out _).mono ?_) | (with_reducible refine (RA3.out _).mono ?_)); rintro e w2 ⟨rfl, hbl⟩; exact hK _ _ _ rfl ⟨kept_call hbl hP, Blk.keep hbl mB, Blk.keep hbl mX, hU⟩ trivial rfl)
           | (go_simp; exact hK _ _ _ rfl ⟨hP, mB, mX, hU⟩ trivial rfl)
         refine dc1 (fun uu wq D hC hk K hK => ?_) ?_
         ·obtain ⟨hP, mB, mX, hU⟩ := hC
          simp only [calmKnown, lg0, lg1, and_true, Is] at hk
          have h16 := hk; clear hk
          simp only [h16] at hK ⊢
          have H16 := hYd h16; clear h16
          go_simp
          exact hK _ _ _ rfl ⟨hP, mB, mX, hU⟩ trivial rfl
         refine dc1 (fun uu wq D hC hk K hK => ?_) ?_
         ·obtain ⟨hP, mB, mX, hU⟩ := hC
          simp only [calmKnown, lg0, lg1, and_true, Is] at hk
          obtain ⟨h20, h16⟩ := hk
          simp only [h20, h16] at hK ⊢
          have H20 := hYd h20; clear h20; have H16 := hYd h16; clear h16
          have cB := mB.cell; have lB := mB.lt; have cX := mX.cell; have lX := mX.lt
          have ce := (hP.cell (p := ⟨bk, off + q, none⟩) lbk3).trans HCE2.out
          have lbk9 : bk < wq.heap.size := Nat.lt_of_lt_of_le lbk3 hP.size
          go_simp
          exact hK _ _ _ rfl ⟨hP, mB, mX, hU⟩ trivial rfl
         refine dc1 (fun uu wq D hC hk K hK => ?_) ?_
         ·obtain ⟨hP, mB, mX, hU⟩ := hC
          simp only [calmKnown, lg0, lg1, and_true, Is] at hk
          have h16 := hk; clear hk
          simp only [h16] at hK ⊢
          have H16 := hYd h16; clear h16
          go_simp
          exact hK _ _ _ rfl ⟨hP, mB, mX, hU⟩ trivial rfl
         refine dc1 (fun uu wq D hC hk K hK => ?_) ?_
         ·obtain ⟨hP, mB, mX, hU⟩ := hC
          simp only [calmKnown, lg0, lg1, and_true, Is] at hk
          obtain ⟨h21, h22, h16⟩ := hk
          simp only [h21, h22, h16] at hK ⊢
          have H21 := hYd h21; clear h21; have H22 := hYd h22; clear h22; have H16 := hYd h16; clear h16
          go_simp
          exact hK _ _ _ rfl ⟨hP, mB, mX, hU⟩ trivial rfl
         refine dc1 (fun uu wq D hC hk K hK => ?_) ?_
         ·obtain ⟨hP, mB, mX, hU⟩ := hC
          simp only [calmKnown, lg0, lg1, and_true, Is] at hk
          obtain ⟨h23, h16⟩ := hk
          simp only [h23, h16] at hK ⊢
          have H23 := hYd h23; clear h23; have H16 := hYd h16; clear h16
          have cB := mB.cell; have lB := mB.lt; have cX := mX.cell; have lX := mX.lt
          have ce := (hP.cell (p := ⟨bk, off + q, none⟩) lbk3).trans HCE2.out
          have lbk9 : bk < wq.heap.size := Nat.lt_of_lt_of_le lbk3 hP.size
          go_simp
          exact hK _ _ _ rfl ⟨hP, mB, mX, hU⟩ trivial rfl
         refine dc1 (fun uu wq D hC hk K hK => ?_) ?_
         ·obtain ⟨hP, mB, mX, hU⟩ := hC
          simp only [calmKnown, lg0, lg1, and_true, Is] at hk
          obtain ⟨h19, h24, h16⟩ := hk
          simp only [h19, h24, h16] at hK ⊢
          have H19 := hYd h19; clear h19; have H24 := hYd h24; clear h24; have H16 := hYd h16; clear h16
          go_simp
          exact hK _ _ _ rfl ⟨hP, mB, mX, hU⟩ trivial rfl
         refine dc1 (fun uu wq D hC hk K hK => ?_) ?_
         ·obtain ⟨hP, mB, mX, hU⟩ := hC
          simp only [calmKnown, lg0, lg1, and_true, Is] at hk
          obtain ⟨h16, h25, h6⟩ := hk
          simp only [h16, h25, h6] at hK ⊢
          have H16 := hYd h16; clear h16; have H25 := hYd h25; clear h25; have H6 := hYd h6; clear h6
          go_simp
          exact hK _ _ _ rfl ⟨hP, mB, mX, hU⟩ trivial rfl
         refine dc1 (fun uu wq D hC hk K hK => ?_) ?_
         ·obtain ⟨hP, mB, mX, hU⟩ := hC
          simp only [calmKnown, lg0, lg1, and_true, Is] at hk
          obtain ⟨h6, h26, h1⟩ := hk
          simp only [h6, h26, h1] at hK ⊢
          have H6 := hYd h6; clear h6; have H26 := hYd h26; clear h26; have H1 := hYd h1; clear h1
          go_simp
          exact hK _ _ _ rfl ⟨hP, mB, mX, hU⟩ trivial rfl
         refine dc1 (fun uu wq D hC hk K hK => ?_) ?_
         ·obtain ⟨hP, mB, mX, hU⟩ := hC
          simp only [calmKnown, lg0, lg1, and_true, Is] at hk
          obtain ⟨h1, h27⟩ := hk
          simp only [h1, h27] at hK ⊢
          have H1 := hYd h1; clear h1; have H27 := hYd h27; clear h27
          go_simp
          exact hK _ _ _ rfl ⟨hP, mB, mX, hU⟩ trivial rfl
         refine dc1 (fun uu wq D hC hk K hK => ?_) ?_
         ·obtain ⟨hP, mB, mX, hU⟩ := hC
          simp only [calmKnown, lg0, lg1, and_true, Is] at hk
          have h28 := hk; clear hk
          simp only [h28] at hK ⊢
          have H28 := hYd h28; clear h28
          go_simp
          exact hK _ _ _ rfl ⟨hP, mB, mX, (fun h => by cases h)⟩ trivial rfl
         exact dSteps_nil
        ·intro uu wz D hD hC hF
         obtain ⟨hP, mB, mX, hU⟩ := hC
         simp only [calmFacts, Is, and_true, true_and] at hF
         obtain ⟨f0, f1, f2, f3, f4, f5, f6, f7, f8, f9, f10, f11, f12, f13, f14, f15, f16, f17, f18, f19, f20, f21, f22, f23, f24, f25, f26, f27, f28, f29⟩ := hF
         simp only [f0, f1, f2, f3, f4, f5, f6, f7, f8, f9, f10, f11, f12, f13, f14, f15, f16, f17, f18, f19, f20, f21, f22, f23, f24, f25, f26, f27, f28, f29]
         have HKZ := hYd (kept_call hP KA)
         have HMB := hYd mB; clear mB mX hU hD hP
         go_wp2
         go_roundg (nx - (k + 1))
         case measure => omega
         case rel => exact ⟨k + 1, by omega, by omega, by go_num, by rw [HNX.out, g1, g2]; simp, HMB.out, HKZ.out⟩
       have g2 : decide (ev < m2) = false := decide_eq_false c2
       obtain ⟨z3, g3⟩ : ∃ z, decide (ev < m3) = z := ⟨_, rfl⟩
       refine' wp_region_calmD (by kernel_rfl) (fun D u9 w' => Below wA.heap.size wA w' ∧ Blk w' w.heap.size 54 #[.int .i64 sta, .int .i64 loc, .int .i64 p, .int .i64 li, .int .i64 ai, .slice (some ⟨bk, off, none⟩) n c, .slice (some ⟨bs, os, none⟩) nx sc] ∧ Blk w' wr.heap.size 57 #[.int .i64 src, .int .i64 tr, .int .i64 lo, .int .i64 ou, .int .i64 ol, .int .i64 ho, .int .i64 hl, .int .i64 ba, .int .i64 bl, .int .i64 w2', .int .i64 w3'] ∧ (D 29 = false → u9 29 = .bool false)) (fun _ _ => True) [(Is _), (Is _), (Is _), (Is _), (Is _), (Is _), (Is _), (Is _), (Is _), (Is _), (Is _), (Is _), (Is _), (Is _), (Is _), (Is _), (Is _), (Is _), (Is _), (Is _), (Is _), (Is _), (Is _), (Is _), (Is _), (Is _), (Is _), (Is _), (Is _), (Is _)] [[], [0], [1], [2, 1], [1], [3, 4, 1], [5, 1], [6], [7, 6], [8, 6], [6], [10, 6], [6], [11, 12, 6], [13, 6], [9, 14, 6], [15, 6], [16], [17, 16], [18, 16], [16], [20, 16], [16], [21, 22, 16], [23, 16], [19, 24, 16], [16, 25, 6], [6, 26, 1], [1, 27], [28]] rfl (calmB_of (by kernel_rfl)) (fun u => by (simp only [calmPut, Act.put, lst, ls0, ls1, Nat.zero_add, Nat.reduceAdd]; rfl)) ?_ (kcc keep_is' (kcc keep_is' (kcc keep_is' (kcc keep_is' (kcc keep_is' (kcc keep_is' (kcc keep_is' (kcc keep_is' (kcc keep_is' (kcc keep_is' (kcc keep_is' (kcc keep_is' (kcc keep_is' (kcc keep_is' (kcc keep_is' (kcc keep_is' (kcc keep_is' (kcc keep_is' (kcc keep_is' (kcc keep_is' (kcc keep_is' (kcc keep_is' (kcc keep_is' (kcc keep_is' (kcc keep_is' (kcc keep_is' (kcc keep_is' (kcc keep_is' (kcc keep_is' (kcc keep_is' (calmKeep_nil))))))))))))))))))))))))))))))) ?_ ?_
       ·exact ⟨(Below.refl _ _).drew, bB.drew, bX.drew, (fun _ => rfl)⟩
       rotate_left 30
       ·skip
        refine dc2 (fun uu wq D hd hn hn2 hC hk K hK => ?_) ?_
        ·obtain ⟨hP, mB, mX, hU⟩ := hC
         clear hk
         have hu : uu 29 = .bool false := hU (hn.out 29 (calmReach_of (by decide) (by kernel_rfl)))
         simp only [hu] at hK ⊢
         have HU := hYd hu; clear hu
         go_simp
         exact hK _ _ _ rfl ⟨hP, mB, mX, hU⟩ trivial rfl
        refine dc1 (fun uu wq D hC hk K hK => ?_) ?_
        ·obtain ⟨hP, mB, mX, hU⟩ := hC
         simp only [calmKnown, lg0, lg1, and_true, Is] at hk
         have h0 := hk; clear hk
         simp only [h0] at hK ⊢
         have H0 := hYd h0; clear h0
         go_simp
         exact hK _ _ _ rfl ⟨hP, mB, mX, hU⟩ trivial rfl
        refine dc1 (fun uu wq D hC hk K hK => ?_) ?_
        ·obtain ⟨hP, mB, mX, hU⟩ := hC
         simp only [calmKnown, lg0, lg1, and_true, Is] at hk
         have h1 := hk; clear hk
         simp only [h1] at hK ⊢
         have H1 := hYd h1; clear h1
         go_simp
         exact hK _ _ _ rfl ⟨hP, mB, mX, hU⟩ trivial rfl
        refine dc1 (fun uu wq D hC hk K hK => ?_) ?_
        ·obtain ⟨hP, mB, mX, hU⟩ := hC
         simp only [calmKnown, lg0, lg1, and_true, Is] at hk
         obtain ⟨h2, h1⟩ := hk
         simp only [h2, h1] at hK ⊢
         have H2 := hYd h2; clear h2; have H1 := hYd h1; clear h1
         have cB := mB.cell; have lB := mB.lt; have cX := mX.cell; have lX := mX.lt
         have ce := (hP.cell (p := ⟨bk, off + q, none⟩) lbk3).trans HCE2.out
         have lbk9 : bk < wq.heap.size := Nat.lt_of_lt_of_le lbk3 hP.size
         go_simp
         exact hK _ _ _ rfl ⟨hP, mB, mX, hU⟩ trivial rfl
        refine dc1 (fun uu wq D hC hk K hK => ?_) ?_
        ·obtain ⟨hP, mB, mX, hU⟩ := hC
         simp only [calmKnown, lg0, lg1, and_true, Is] at hk
         have h1 := hk; clear hk
         simp only [h1] at hK ⊢
         have H1 := hYd h1; clear h1
         go_simp
         exact hK _ _ _ rfl ⟨hP, mB, mX, hU⟩ trivial rfl
        refine dc1 (fun uu wq D hC hk K hK => ?_) ?_
        ·obtain ⟨hP, mB, mX, hU⟩ := hC
         simp only [calmKnown, lg0, lg1, and_true, Is] at hk
         obtain ⟨h3, h4, h1⟩ := hk
         simp only [h3, h4, h1] at hK ⊢
         have H3 := hYd h3; clear h3; have H4 := hYd h4; clear h4; have H1 := hYd h1; clear h1
         go_simp
         exact hK _ _ _ rfl ⟨hP, mB, mX, hU⟩ trivial rfl
        refine dc1 (fun uu wq D hC hk K hK => ?_) ?_
        ·obtain ⟨hP, mB, mX, hU⟩ := hC
         simp only [calmKnown, lg0, lg1, and_true, Is] at hk
         obtain ⟨h5, h1⟩ := hk
         simp only [h5, h1] at hK ⊢
         have H5 := hYd h5; clear h5; have H1 := hYd h1; clear h1
         go_simp
         exact hK _ _ _ rfl ⟨hP, mB, mX, hU⟩ trivial rfl
        refine dc1 (fun uu wq D hC hk K hK => ?_) ?_
        ·obtain ⟨hP, mB, mX, hU⟩ := hC
         simp only [calmKnown, lg0, lg1, and_true, Is] at hk
         have h6 := hk; clear hk
         simp only [h6] at hK ⊢
         have H6 := hYd h6; clear h6
         go_simp
         exact hK _ _ _ rfl ⟨hP, mB, mX, hU⟩ trivial rfl
        refine dc1 (fun uu wq D hC hk K hK => ?_) ?_
        ·obtain ⟨hP, mB, mX, hU⟩ := hC
         simp only [calmKnown, lg0, lg1, and_true, Is] at hk
         obtain ⟨h7, h6⟩ := hk
         simp only [h7, h6] at hK ⊢
         have H7 := hYd h7; clear h7; have H6 := hYd h6; clear h6
         have cB := mB.cell; have lB := mB.lt; have cX := mX.cell; have lX := mX.lt
         have ce := (hP.cell (p := ⟨bk, off + q, none⟩) lbk3).trans HCE2.out
         have lbk9 : bk < wq.heap.size := Nat.lt_of_lt_of_le lbk3 hP.size
         go_simp
         exact hK _ _ _ rfl ⟨hP, mB, mX, hU⟩ trivial rfl
        refine dc1 (fun uu wq D hC hk K hK => ?_) ?_
        ·obtain ⟨hP, mB, mX, hU⟩ := hC
         simp only [calmKnown, lg0, lg1, and_true, Is] at hk
         obtain ⟨h8, h6⟩ := hk
         simp only [h8, h6] at hK ⊢
         have H8 := hYd h8; clear h8; have H6 := hYd h6; clear h6
         first
          | (refine' calm_op ?_ ?_; rfl; go_simp; (first | (with_reducible refine (RA2.out _).mono ?_) | (with_reducible refine (RA3.out _).mono ?_)); rintro e w2 ⟨rfl, hbl⟩; exact hK _ _ _ rfl ⟨kept_call hbl hP, Blk.keep hbl mB, Blk.keep hbl mX, hU⟩ trivial rfl)
          | (go_simp; exact hK _ _ _ rfl ⟨hP, mB, mX, hU⟩ trivial rfl)
        refine dc1 (fun uu wq D hC hk K hK => ?_) ?_
        ·obtain ⟨hP, mB, mX, hU⟩ := hC
         simp only [calmKnown, lg0, lg1, and_true, Is] at hk
         have h6 := hk; clear hk
         simp only [h6] at hK ⊢
         have H6 := hYd h6; clear h6
         go_simp
         exact hK _ _ _ rfl ⟨hP, mB, mX, hU⟩ trivial rfl
        refine dc1 (fun uu wq D hC hk K hK => ?_) ?_
        ·obtain ⟨hP, mB, mX, hU⟩ := hC
         simp only [calmKnown, lg0, lg1, and_true, Is] at hk
         obtain ⟨h10, h6⟩ := hk
         simp only [h10, h6] at hK ⊢
         have H10 := hYd h10; clear h10; have H6 := hYd h6; clear h6
         have cB := mB.cell; have lB := mB.lt; have cX := mX.cell; have lX := mX.lt
         have ce := (hP.cell (p := ⟨bk, off + q, none⟩) lbk3).trans HCE2.out
         have lbk9 : bk < wq.heap.size := Nat.lt_of_lt_of_le lbk3 hP.size
         go_simp
         exact hK _ _ _ rfl ⟨hP, mB, mX, hU⟩ trivial rfl
        refine dc1 (fun uu wq D hC hk K hK => ?_) ?_
        ·obtain ⟨hP, mB, mX, hU⟩ := hC
         simp only [calmKnown, lg0, lg1, and_true, Is] at hk
         have h6 := hk; clear hk
         simp only [h6] at hK ⊢
         have H6 := hYd h6; clear h6
         go_simp
         exact hK _ _ _ rfl ⟨hP, mB, mX, hU⟩ trivial rfl
        refine dc1 (fun uu wq D hC hk K hK => ?_) ?_
        ·obtain ⟨hP, mB, mX, hU⟩ := hC
         simp only [calmKnown, lg0, lg1, and_true, Is] at hk
         obtain ⟨h11, h12, h6⟩ := hk
         simp only [h11, h12, h6] at hK ⊢
         have H11 := hYd h11; clear h11; have H12 := hYd h12; clear h12; have H6 := hYd h6; clear h6
         go_simp
         exact hK _ _ _ rfl ⟨hP, mB, mX, hU⟩ trivial rfl
        refine dc1 (fun uu wq D hC hk K hK => ?_) ?_
        ·obtain ⟨hP, mB, mX, hU⟩ := hC
         simp only [calmKnown, lg0, lg1, and_true, Is] at hk
         obtain ⟨h13, h6⟩ := hk
         simp only [h13, h6] at hK ⊢
         have H13 := hYd h13; clear h13; have H6 := hYd h6; clear h6
         have cB := mB.cell; have lB := mB.lt; have cX := mX.cell; have lX := mX.lt
         have ce := (hP.cell (p := ⟨bk, off + q, none⟩) lbk3).trans HCE2.out
         have lbk9 : bk < wq.heap.size := Nat.lt_of_lt_of_le lbk3 hP.size
         go_simp
         exact hK _ _ _ rfl ⟨hP, mB, mX, hU⟩ trivial rfl
        refine dc1 (fun uu wq D hC hk K hK => ?_) ?_
        ·obtain ⟨hP, mB, mX, hU⟩ := hC
         simp only [calmKnown, lg0, lg1, and_true, Is] at hk
         obtain ⟨h9, h14, h6⟩ := hk
         simp only [h9, h14, h6] at hK ⊢
         have H9 := hYd h9; clear h9; have H14 := hYd h14; clear h14; have H6 := hYd h6; clear h6
         go_simp
         exact hK _ _ _ rfl ⟨hP, mB, mX, hU⟩ trivial rfl
        refine dc1 (fun uu wq D hC hk K hK => ?_) ?_
        ·obtain ⟨hP, mB, mX, hU⟩ := hC
         simp only [calmKnown, lg0, lg1, and_true, Is] at hk
         obtain ⟨h15, h6⟩ := hk
         simp only [h15, h6] at hK ⊢
         have H15 := hYd h15; clear h15; have H6 := hYd h6; clear h6
         go_simp
         exact hK _ _ _ rfl ⟨hP, mB, mX, hU⟩ trivial rfl
        refine dc1 (fun uu wq D hC hk K hK => ?_) ?_
        ·obtain ⟨hP, mB, mX, hU⟩ := hC
         simp only [calmKnown, lg0, lg1, and_true, Is] at hk
         have h16 := hk; clear hk
         simp only [h16] at hK ⊢
         have H16 := hYd h16; clear h16
         go_simp
         exact hK _ _ _ rfl ⟨hP, mB, mX, hU⟩ trivial rfl
        refine dc1 (fun uu wq D hC hk K hK => ?_) ?_
        ·obtain ⟨hP, mB, mX, hU⟩ := hC
         simp only [calmKnown, lg0, lg1, and_true, Is] at hk
         obtain ⟨h17, h16⟩ := hk
         simp only [h17, h16] at hK ⊢
         have H17 := hYd h17; clear h17; have H16 := hYd h16; clear h16
         have cB := mB.cell; have lB := mB.lt; have cX := mX.cell; have lX := mX.lt
         have ce := (hP.cell (p := ⟨bk, off + q, none⟩) lbk3).trans HCE2.out
         have lbk9 : bk < wq.heap.size := Nat.lt_of_lt_of_le lbk3 hP.size
         go_simp
         exact hK _ _ _ rfl ⟨hP, mB, mX, hU⟩ trivial rfl
        refine dc1 (fun uu wq D hC hk K hK => ?_) ?_
        ·obtain ⟨hP, mB, mX, hU⟩ := hC
         simp only [calmKnown, lg0, lg1, and_true, Is] at hk
         obtain ⟨h18, h16⟩ := hk
         simp only [h18, h16] at hK ⊢
         have H18 := hYd h18; clear h18; have H16 := hYd h16; clear h16
         first
          | (refine' calm_op ?_ ?_; rfl; go_simp; (first | (with_reducible refine (RA2.out _).mono ?_) | (with_reducible refine (RA3.out _).mono ?_)); rintro e w2 ⟨rfl, hbl⟩; exact hK _ _ _ rfl ⟨kept_call hbl hP, Blk.keep hbl mB, Blk.keep hbl mX, hU⟩ trivial rfl)
          | (go_simp; exact hK _ _ _ rfl ⟨hP, mB, mX, hU⟩ trivial rfl)
        refine dc1 (fun uu wq D hC hk K hK => ?_) ?_
        ·obtain ⟨hP, mB, mX, hU⟩ := hC
         simp only [calmKnown, lg0, lg1, and_true, Is] at hk
         have h16 := hk; clear hk
         simp only [h16] at hK ⊢
         have H16 := hYd h16; clear h16
         go_simp
         exact hK _ _ _ rfl ⟨hP, mB, mX, hU⟩ trivial rfl
        refine dc1 (fun uu wq D hC hk K hK => ?_) ?_
        ·obtain ⟨hP, mB, mX, hU⟩ := hC
         simp only [calmKnown, lg0, lg1, and_true, Is] at hk
         obtain ⟨h20, h16⟩ := hk
         simp only [h20, h16] at hK ⊢
         have H20 := hYd h20; clear h20; have H16 := hYd h16; clear h16
         have cB := mB.cell; have lB := mB.lt; have cX := mX.cell; have lX := mX.lt
         have ce := (hP.cell (p := ⟨bk, off + q, none⟩) lbk3).trans HCE2.out
         have lbk9 : bk < wq.heap.size := Nat.lt_of_lt_of_le lbk3 hP.size
         go_simp
         exact hK _ _ _ rfl ⟨hP, mB, mX, hU⟩ trivial rfl
        refine dc1 (fun uu wq D hC hk K hK => ?_) ?_
        ·obtain ⟨hP, mB, mX, hU⟩ := hC
         simp only [calmKnown, lg0, lg1, and_true, Is] at hk
         have h16 := hk; clear hk
         simp only [h16] at hK ⊢
         have H16 := hYd h16; clear h16
         go_simp
         exact hK _ _ _ rfl ⟨hP, mB, mX, hU⟩ trivial rfl
        refine dc1 (fun uu wq D hC hk K hK => ?_) ?_
        ·obtain ⟨hP, mB, mX, hU⟩ := hC
         simp only [calmKnown, lg0, lg1, and_true, Is] at hk
         obtain ⟨h21, h22, h16⟩ := hk
         simp only [h21, h22, h16] at hK ⊢
         have H21 := hYd h21; clear h21; have H22 := hYd h22; clear h22; have H16 := hYd h16; clear h16
         go_simp
         exact hK _ _ _ rfl ⟨hP, mB, mX, hU⟩ trivial rfl
        refine dc1 (fun uu wq D hC hk K hK => ?_) ?_
        ·obtain ⟨hP, mB, mX, hU⟩ := hC
         simp only [calmKnown, lg0, lg1, and_true, Is] at hk
         obtain ⟨h23, h16⟩ := hk
         simp only [h23, h16] at hK ⊢
         have H23 := hYd h23; clear h23; have H16 := hYd h16; clear h16
         have cB := mB.cell; have lB := mB.lt; have cX := mX.cell; have lX := mX.lt
         have ce := (hP.cell (p := ⟨bk, off + q, none⟩) lbk3).trans HCE2.out
         have lbk9 : bk < wq.heap.size := Nat.lt_of_lt_of_le lbk3 hP.size
         go_simp
         exact hK _ _ _ rfl ⟨hP, mB, mX, hU⟩ trivial rfl
        refine dc1 (fun uu wq D hC hk K hK => ?_) ?_
        ·obtain ⟨hP, mB, mX, hU⟩ := hC
         simp only [calmKnown, lg0, lg1, and_true, Is] at hk
         obtain ⟨h19, h24, h16⟩ := hk
         simp only [h19, h24, h16] at hK ⊢
         have H19 := hYd h19; clear h19; have H24 := hYd h24; clear h24; have H16 := hYd h16; clear h16
         go_simp
         exact hK _ _ _ rfl ⟨hP, mB, mX, hU⟩ trivial rfl
        refine dc1 (fun uu wq D hC hk K hK => ?_) ?_
        ·obtain ⟨hP, mB, mX, hU⟩ := hC
         simp only [calmKnown, lg0, lg1, and_true, Is] at hk
         obtain ⟨h16, h25, h6⟩ := hk
         simp only [h16, h25, h6] at hK ⊢
         have H16 := hYd h16; clear h16; have H25 := hYd h25; clear h25; have H6 := hYd h6; clear h6
         go_simp
         exact hK _ _ _ rfl ⟨hP, mB, mX, hU⟩ trivial rfl
        refine dc1 (fun uu wq D hC hk K hK => ?_) ?_
        ·obtain ⟨hP, mB, mX, hU⟩ := hC
         simp only [calmKnown, lg0, lg1, and_true, Is] at hk
         obtain ⟨h6, h26, h1⟩ := hk
         simp only [h6, h26, h1] at hK ⊢
         have H6 := hYd h6; clear h6; have H26 := hYd h26; clear h26; have H1 := hYd h1; clear h1
         go_simp
         exact hK _ _ _ rfl ⟨hP, mB, mX, hU⟩ trivial rfl
        refine dc1 (fun uu wq D hC hk K hK => ?_) ?_
        ·obtain ⟨hP, mB, mX, hU⟩ := hC
         simp only [calmKnown, lg0, lg1, and_true, Is] at hk
         obtain ⟨h1, h27⟩ := hk
         simp only [h1, h27] at hK ⊢
         have H1 := hYd h1; clear h1; have H27 := hYd h27; clear h27
         go_simp
         exact hK _ _ _ rfl ⟨hP, mB, mX, hU⟩ trivial rfl
        refine dc1 (fun uu wq D hC hk K hK => ?_) ?_
        ·obtain ⟨hP, mB, mX, hU⟩ := hC
         simp only [calmKnown, lg0, lg1, and_true, Is] at hk
         have h28 := hk; clear hk
         simp only [h28] at hK ⊢
         have H28 := hYd h28; clear h28
         go_simp
         exact hK _ _ _ rfl ⟨hP, mB, mX, (fun h => by cases h)⟩ trivial rfl
        exact dSteps_nil
       ·intro uu wz D hD hC hF
        obtain ⟨hP, mB, mX, hU⟩ := hC
        simp only [calmFacts, Is, and_true, true_and] at hF
        obtain ⟨f0, f1, f2, f3, f4, f5, f6, f7, f8, f9, f10, f11, f12, f13, f14, f15, f16, f17, f18, f19, f20, f21, f22, f23, f24, f25, f26, f27, f28, f29⟩ := hF
        simp only [f0, f1, f2, f3, f4, f5, f6, f7, f8, f9, f10, f11, f12, f13, f14, f15, f16, f17, f18, f19, f20, f21, f22, f23, f24, f25, f26, f27, f28, f29]
        have HKZ := hYd (kept_call hP KA)
        have HMB := hYd mB; clear mB mX hU hD hP
        go_wp2
        go_roundg (nx - (k + 1))
        case measure => omega
        case rel => exact ⟨k + 1, by omega, by omega, by go_num, by rw [HNX.out, g1, g2, g3]; simp, HMB.out, HKZ.out⟩
     ·obtain rfl : k = nx := by omega
      have gk : decide ((k : Int) < (k : Int)) = false := decide_eq_false (by omega)
      have gkn : decide (k < k) = false := decide_eq_false (by omega)
      have htk : (xs.take k).any (lieB q ev) = b9 := by rw [HX.out, List.take_length]; exact HB9.out
      rw [htk]
      clear htk HB9 HCE
      have R5 : wr.ownsRow v1.heap.size 3 1 (.slice A' m c') m (ints (liesQ (⟨sta, loc, p, li, ai, es, xs⟩ : Sch) q)) := (Past.below (X := []) K2).own HROW.out (by simp)
      have H5 := hYd (And.intro R5 (And.intro bB (kept_call K2 HKR.out)))
      clear R5 bB K2 ce
      cases b9 with
      | false =>
       have HST2 := hYd (HST.out.trans (by simp) : liesQ (⟨sta, loc, p, li, ai, es, xs⟩ : Sch) (q + 1) = liesQ (⟨sta, loc, p, li, ai, es, xs⟩ : Sch) q)
       go_wp2
       go_roundg (n - (q + 1))
       case measure => omega
       case rel => exact ⟨q + 1, m, A', c', by omega, by omega, by go_num, rfl, by rw [HST2.out]; exact HM.out, by rw [HST2.out]; exact H5.out.1, by omega, H5.out.2.1, H5.out.2.2⟩
      | true =>
       have HST2 := hYd (HST.out.trans (by simp) : liesQ (⟨sta, loc, p, li, ai, es, xs⟩ : Sch) (q + 1) = liesQ (⟨sta, loc, p, li, ai, es, xs⟩ : Sch) q ++ [(q : Int)])
       obtain ⟨i0, hif, hz0, hz1, hz2⟩ := info_parts infoInt
       generalize hv : (Value.slice A' m c') = v9 at *
       have hrl2 := World.ownsRow.lt H5.out.1
       clear hv
       go_wp2_with (at_builtin; refine wpList_append_lies _ rfl _ _ 22 rfl v1.heap.size 3 i0 (.int .i64 0) 1 8 Tryz.underlying22 hif hz0 hz1 hz2 rfl (by decide) v9 m (ints (liesQ (⟨sta, loc, p, li, ai, es, xs⟩ : Sch) q)) rfl ((Past.below (X := []) ((Below.refl _ _).alloc (Nat.le_refl _) _)).own H5.out.1 (by simp)) ⟨wr.heap.size, 0, none⟩ 1 1 [.int .i64 q] rfl rfl (World.news_of_block (t := 3) (fr := (0, 0)) (Blk.new _ _ _)) ?c2 (by decide) ?c3 ?c4 ?c5 _ rfl ?_)
       case c2 => first | rfl | (intro u hu; simp at hu; subst hu; rfl)
       case c3 => unfold maxLen; omega
       case c4 => omega
       case c5 => first | omega | (simp <;> omega)
       intro g7 cp7 w7 hown hgrow hlie hglt
       have K7 : Below w.heap.size w w7 := (H5.out.2.2.alloc (Below.size H5.out.2.2) _).grown hgrow (by simp; omega) (fun k hk => by have := hrl2 k hk; omega)
       have bB7 : Blk w7 w.heap.size 54 #[.int .i64 sta, .int .i64 loc, .int .i64 p, .int .i64 li, .int .i64 ai, .slice (some ⟨bk, off, none⟩) n c, .slice SA k sc] := (hgrow.block _ (by simp; omega) (fun e => by have h9 := hrl2 _ e.symm; omega)).trans (H5.out.2.1.alloc _)
       have R7 : w7.ownsRow v1.heap.size 3 1 (.slice (some ⟨g7, 0, none⟩) (m + 1) cp7) (m + 1) (ints (liesQ (⟨sta, loc, p, li, ai, es, xs⟩ : Sch) (q + 1))) := by rw [HST2.out, ints_snoc]; exact hown
       have hz7 := hgrow.size; simp only [World.size_alloc] at hz7
       have H7 := hYd (And.intro K7 (And.intro R7 bB7))
       clear hown hgrow hlie hglt K7 R7 bB7
       go_wp2
       go_roundg (n - (q + 1))
       case measure => omega
       case rel => exact ⟨q + 1, m + 1, _, _, by omega, by omega, by go_num, rfl, by rw [HST2.out, List.length_append, List.length_singleton, ← HM.out], H7.out.2.1, by omega, H7.out.2.2, H7.out.1⟩
   ·obtain rfl : q = n := by omega
    have gq : decide ((q : Int) < (q : Int)) = false := decide_eq_false (by omega)
    have gqn : decide (q < q) = false := decide_eq_false (by omega)
    go_wp2
    refine bodyPost_ret (v := .tuple #[.slice A' m c', .int .i64 0]) (by simp [results, Tryz.results30, go_sem, *]) rfl ?_
    refine ⟨fun h => absurd HER.out h, fun _ => ⟨A', c', ?_, ?_⟩, KR⟩
    ·show _ = Ending.returned (.tuple #[.slice A' (liesQ _ es.length).length c', .int .i64 0]); rw [← HN.out, ← HM.out]
    ·show World.ownsRow _ _ _ _ (.slice A' (liesQ _ es.length).length c') (liesQ _ es.length).length (ints (liesQ _ es.length)); rw [← HN.out, ← HM.out]; exact own_weaken HROW.out (by omega)
 ·have e1 : (er == 0) = false := by simpa using he0
  have e2 : (er != 0) = true := by simpa using he0
  go_enter Tryz.func30, Tryz.ntmps30
  go_wp2_with fail
  refine (RC.out _ (HH.out.below bl0)).mono ?_
  rintro e v1 ⟨rfl, hb⟩
  have hq : Past [] _ v1 := Past.below hb
  clear hb
  have Kv1 : Past [] w v1 := Past.trans pa1 hq
  have Zv1 : w.heap.size ≤ v1.heap.size := Nat.le_trans (by first | exact Nat.le_refl _ | omega | (simp <;> omega)) hq.1
  have bB' : Blk v1 (w.heap.size) 54 #[.int .i64 sta, .int .i64 loc, .int .i64 p, .int .i64 li, .int .i64 ai, .slice A n c, .slice SA nx sc] := hq.blk (bn0) (by simp <;> omega)
  clear hq
  have bB := bB'; clear bB'
  obtain ⟨cB, fB, lB, eB, kB⟩ := Blk.facts bB
  have oB := lB
  go_wp2
  refine bodyPost_ret (v := .tuple #[.slice none 0 0, .int .i64 er]) (by simp [results, Tryz.results30, go_sem, *]) rfl ?_
  exact ⟨fun _ => by rw [HER.out], fun h => absurd (HER.out.symm.trans h) he0, Past.toBelow pa1⟩
end Go.Proofs.YtlnboheahbfgfaaGreat
