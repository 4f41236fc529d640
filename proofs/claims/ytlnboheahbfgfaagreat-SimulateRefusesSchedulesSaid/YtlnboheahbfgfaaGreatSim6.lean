/- simulate.Run. -/
import Derived.Laws.MakeOwn
import Derived.Test.YtlnboheahbfgfaaGreatJ32
import Derived.Test.YtlnboheahbfgfaaGreatSim4
import Derived.Test.YtlnboheahbfgfaaGreatSim5
import Derived.Test.YtlnboheahbfgfaaGreatJ40
namespace Go.Proofs.YtlnboheahbfgfaaGreat
open Go.RowKit Go.Shelf Go.Sort
set_option linter.unusedSimpArgs false
set_option linter.unusedVariables false

def rCells (rs : List Rep) : List Value := rs.flatMap Rep.cs
theorem rCells_snoc (rs : List Rep) (x : Rep) : rCells (rs ++ [x]) = rCells rs ++ x.cs := by simp [rCells]
theorem rCells_get (rs : List Rep) : ∀ (j i : Nat), j < rs.length → i < 11 → (rCells rs)[j * 11 + i]? = (rs.getD j .zero).cs[i]? := by
 induction rs with
 | nil => intro j i h; simp at h
 | cons x xs ih =>
  intro j i hj hi
  have e : rCells (x :: xs) = x.cs ++ rCells xs := rfl
  have hc : x.cs.length = 11 := rfl
  cases j with
  | zero => rw [e, List.getElem?_append_left (by omega)]; simp
  | succ j => rw [e, List.getElem?_append_right (by omega), hc, show (j + 1) * 11 + i - 11 = j * 11 + i by omega, ih j i (by simpa using hj) hi]; simp
def RowR (w : World) (base : Nat) (v : Value) (rs : List Rep) : Prop := w.ownsRow base 64 11 v rs.length (rCells rs)
theorem RowR.nil {w : World} {base : Nat} : RowR w base (.slice none 0 0) [] := World.ownsRow_nil _ _ _ _
theorem RowR.lt {w : World} {base : Nat} {v : Value} {rs : List Rep} (h : RowR w base v rs) : ∀ k, v.ownBlock = some k → base ≤ k ∧ k < w.heap.size := World.ownsRow.lt h
theorem RowR.past {X : List Nat} {w w' : World} {base : Nat} {v : Value} {rs : List Rep} (h : RowR w base v rs) (hp : Past X w w') (hX : ∀ k ∈ X, k < base) : RowR w' base v rs :=
 hp.own h (fun k hk hm => by have := (h.lt k hk).1; have := hX k hm; omega)
theorem RowR.below {w w' : World} {base : Nat} {v : Value} {rs : List Rep} (h : RowR w base v rs) (hb : Below w.heap.size w w') : RowR w' base v rs := h.past (X := []) (Past.below hb) (by simp)
theorem RowR.weaken {w : World} {b B : Nat} {v : Value} {rs : List Rep} (h : RowR w B v rs) (hb : b ≤ B) : RowR w b v rs := by
 refine ⟨h.1, ?_⟩
 rcases h.2 with hq | ⟨g, cap, cur, e, hB, rest⟩
 ·exact .inl hq
 ·exact .inr ⟨g, cap, cur, e, Nat.le_trans hb hB, rest⟩
theorem infoRep : (Tryz.prog.info? 64).map (fun i => (i.zero, i.size, i.bytes)) = some (some (.agg #[.int .i64 0, .int .i64 0, .bool false, .int .i64 0, .int .i64 0, .int .i64 0, .int .i64 0, .bool false, .bool false, .int .i64 0, .int .i64 0]), 11, 80) := by kernel_rfl
theorem infoKw : (Tryz.prog.info? 104).map (fun i => (i.zero, i.size, i.bytes)) = some (some (.agg #[.bool false, .int .i64 0, .int .i64 0, .int .i64 0, .int .i64 0, .int .i64 0, .int .i64 0]), 7, 56) := by kernel_rfl
theorem src_made (n : Nat) : SrcAt (madeCells #[.bool false, .int .i64 0, .int .i64 0, .int .i64 0, .int .i64 0, .int .i64 0, .int .i64 0] (n * 7)) (List.replicate n (false, .zero)) := by
 refine ⟨by simp [madeCells], fun j hj i hi => ?_⟩
 rw [List.length_replicate] at hj
 have hlt : j * 7 + i < n * 7 := by omega
 have e : (List.replicate n ((false, K6.zero) : Kw)).getD j (false, .zero) = (false, .zero) := by
  rw [List.getD_eq_getElem?_getD, List.getElem?_replicate, if_pos hj]; rfl
 rw [e]
 have hm : (j * 7 + i) % 7 = i := by omega
 obtain rfl | rfl | rfl | rfl | rfl | rfl | rfl : i = 0 ∨ i = 1 ∨ i = 2 ∨ i = 3 ∨ i = 4 ∨ i = 5 ∨ i = 6 := by omega
 all_goals (rw [Array.getElem?_eq_getElem (by simp [madeCells]; omega)]; simp only [madeCells, Array.getElem_map, Array.getElem_range]; simp only [List.size_toArray, List.length_cons, List.length_nil, Nat.reduceAdd, hm]; rfl)
theorem src_set {cur : Array Value} {l : List Kw} (h : SrcAt cur l) (q : Nat) (hq : q < l.length) (k : Kw) : SrcAt (setArr cur (q * 7) (kwC k)) (l.set q k) := by
 have hk : (kwC k).length = 7 := rfl
 refine ⟨by rw [setArr_size, List.length_set]; exact h.1, fun j hj i hi => ?_⟩
 rw [List.length_set] at hj
 rw [setArr_get _ _ _ _ (by rw [hk, h.1]; omega), hk, getD_set']
 by_cases e : j = q
 ·subst e
  rw [if_pos (by omega), if_pos ⟨rfl, hq⟩]; congr 1; omega
 ·rw [if_neg (by omega), if_neg (by simp [e])]; exact h.2 j hj i hi
theorem Past.belowX {X : List Nat} {w a c : World} (h : Below w.heap.size w a) (k : Past X a c) (hX : ∀ x ∈ X, w.heap.size ≤ x) : Below w.heap.size w c :=
 ⟨k.2.1.trans h.os, k.2.2.1.trans h.tape, k.2.2.2.1.trans h.output, Nat.le_trans h.size k.1, fun q hq => (k.2.2.2.2 q (Nat.lt_of_lt_of_le hq h.size) (fun hm => by have := hX q hm; omega)).trans (h.block q hq)⟩
def RunR (w : World) (s : Sch) (e : Ending) (w' : World) : Prop := (chkE s ≠ 0 → e = .returned (.tuple #[.slice none 0 0, .int .i64 (chkE s)])) ∧ (chkE s = 0 → ∃ (m : Sim) (rs : List Rep) (A : Option Addr) (c : Nat), RunN s s.xs.length m rs ∧ e = .returned (.tuple #[.slice A rs.length c, .int .i64 0]) ∧ RowR w' w.heap.size (.slice A rs.length c) rs) ∧ Below w.heap.size w w'
def SimRel (w : World) (s : Sch) (A SA : Option Addr) (n nx c sc gp gs b0 B : Nat) (sta loc p li ai : Int) (G : Nat) (v i : Value) (wr : World) : Prop := ∃ (q : Nat) (m : Sim) (rs : List Rep) (A' : Option Addr) (c' : Nat) (cur : Array Value), q ≤ nx ∧ G = nx - q ∧ i = .int .i64 q ∧ RunN s q m rs ∧ v = .slice A' rs.length c' ∧ RowR wr B (.slice A' rs.length c') rs ∧ Blk wr gp 106 #[.int .i64 sta, .int .i64 loc, .int .i64 p, .int .i64 li, .int .i64 ai, .slice A n c, .slice SA nx sc, .int .i64 m.t, .int .i64 m.u, .slice (some ⟨gs, 0, none⟩) n n, .bool m.own.1, .int .i64 m.own.2.at_, .int .i64 m.own.2.lo, .int .i64 m.own.2.hi, .int .i64 m.own.2.pp, .int .i64 m.own.2.le, .int .i64 m.own.2.re, .int .i64 m.ck.aim, .int .i64 m.ck.rate, .bool m.ck.set, .bool m.ck.held, .int .i64 m.ck.at_, .int .i64 m.ck.shown] ∧ Blk wr gs 104 cur ∧ SrcAt cur m.by_ ∧ Blk wr b0 54 #[.int .i64 sta, .int .i64 loc, .int .i64 p, .int .i64 li, .int .i64 ai, .slice A n c, .slice SA nx sc] ∧ B ≤ wr.heap.size ∧ Below w.heap.size w wr
set_option maxRecDepth 100000 in
set_option maxHeartbeats 8000000 in
theorem irun_any (s : Sch) (A SA : Option Addr) (c sc : Nat) (w : World) (h : SchAt w s A SA) :
  Calls Tryz.prog 24 #[.agg #[.int .i64 s.sta, .int .i64 s.loc, .int .i64 s.p, .int .i64 s.li, .int .i64 s.ai, .slice A s.es.length c, .slice SA s.xs.length sc]] w (RunR w s) := by
 have HH := hYd h
 have RC := hYd (fun W h => icheck_any s A SA c sc W h)
 clear h
 obtain ⟨S, hS⟩ : ∃ S, s = S := ⟨_, rfl⟩
 skip
 obtain ⟨sta, loc, p, li, ai, es, xs⟩ := s
 dsimp only at RC ⊢
 obtain ⟨n, hn⟩ : ∃ n, n = es.length := ⟨_, rfl⟩
 obtain ⟨nx, hnx⟩ : ∃ n, n = xs.length := ⟨_, rfl⟩
 obtain ⟨er, her⟩ : ∃ er, chkE ⟨sta, loc, p, li, ai, es, xs⟩ = er := ⟨_, rfl⟩
 simp only [← hn, ← hnx, her] at RC ⊢
 have HN := hYd hn; have HX := hYd hnx; have HER := hYd her; clear hn hnx her hS
 by_cases he0 : er = 0
 ·skip
  subst he0
  go_enter Tryz.func24, Tryz.ntmps24
  go_wp2_with fail
  refine (RC.out _ (HH.out.below bl0)).mono ?_
  rintro e v1 ⟨rfl, hb⟩
  have hq : Past [] _ v1 := Past.below hb
  clear hb
  have Kv1 : Past [] w v1 := Past.trans pa1 hq
  have Zv1 : w.heap.size ≤ v1.heap.size := Nat.le_trans (by first | exact Nat.le_refl _ | omega | (simp <;> omega)) hq.1
  have bB' : Blk v1 (w.heap.size) 54 #[.int .i64 sta, .int .i64 loc, .int .i64 p, .int .i64 li, .int .i64 ai, .slice A n c, .slice SA nx sc] := hq.blk (bn0) (by simp <;> omega)
  clear hq
  have bB := bB'; clear bB'
  obtain ⟨cB, fB, lB, eB, kB⟩ := Blk.facts bB
  have oB := lB
  clear RC
  obtain ⟨i0, hif, hz0, hz1, hz2⟩ := info_parts infoKw
  go_upto_region 4 with fail
  have hn8 : n ≤ 8 := by have := (chkE_0 HER.out).2.1; rw [HN.out]; exact this
  obtain ⟨gs, hgs⟩ : ∃ gs, v1.heap.size = gs := ⟨_, rfl⟩
  refine' wp_region_calmD (by kernel_rfl) (fun D u9 w' => Past [] v1 w' ∧ Blk w' w.heap.size 54 #[.int .i64 sta, .int .i64 loc, .int .i64 p, .int .i64 li, .int .i64 ai, .slice A n c, .slice SA nx sc] ∧ (D 8 = false → w'.heap.size = gs) ∧ (D 8 = true → D 13 = false → w'.heap.size = gs + 1) ∧ (D 8 = true → Blk w' gs 104 (madeCells #[.bool false, .int .i64 0, .int .i64 0, .int .i64 0, .int .i64 0, .int .i64 0, .int .i64 0] (n * 7))) ∧ (D 13 = true → Blk w' (gs + 1) 106 #[.int .i64 sta, .int .i64 loc, .int .i64 p, .int .i64 li, .int .i64 ai, .slice A n c, .slice SA nx sc, .int .i64 sta, .int .i64 loc, .slice (some ⟨gs, 0, none⟩) n n, .bool false, .int .i64 0, .int .i64 0, .int .i64 0, .int .i64 0, .int .i64 0, .int .i64 0, .int .i64 ai, .int .i64 1000000, .bool false, .bool false, .int .i64 0, .int .i64 0])) (fun _ _ => True) [(Is _), (Is _), (Is _), (Is _), (Is _), (Is _), (Is _), (Is _), (Is _), (Is _), (Is _), (Is _), (Is _), (Is _), (Is _)] [[], [], [1], [], [3], [], [5], [6], [7], [], [9], [10], [0, 2, 4, 8, 11], [12], [13]] rfl (by kernel_rfl) (fun u => by (simp only [calmPut, Act.put, lst, ls0, ls1, Nat.zero_add, Nat.reduceAdd]; rfl)) ?_ (kcc keep_is' (kcc keep_is' (kcc keep_is' (kcc keep_is' (kcc keep_is' (kcc keep_is' (kcc keep_is' (kcc keep_is' (kcc keep_is' (kcc keep_is' (kcc keep_is' (kcc keep_is' (kcc keep_is' (kcc keep_is' (kcc keep_is' (calmKeep_nil)))))))))))))))) ?_ ?_
  ·exact ⟨(Past.refl _ _).drew, bB, (fun _ => hgs), (fun h => by cases h), (fun h => by cases h), (fun h => by cases h)⟩
  rotate_left 15
  ·skip
   refine dc2 (fun uu wq D hd hn hn2 hC hk K hK => ?_) ?_
   ·obtain ⟨hP, mB, s0, s1, g1, g2⟩ := hC
    clear hk
    have cB := mB.cell; have lB := mB.lt
    go_simp
    exact hK _ _ _ rfl ⟨hP, mB, s0, s1, g1, g2⟩ trivial rfl
   refine dc2 (fun uu wq D hd hn hn2 hC hk K hK => ?_) ?_
   ·obtain ⟨hP, mB, s0, s1, g1, g2⟩ := hC
    clear hk
    go_simp
    exact hK _ _ _ rfl ⟨hP, mB, s0, s1, g1, g2⟩ trivial rfl
   refine dc2 (fun uu wq D hd hn hn2 hC hk K hK => ?_) ?_
   ·obtain ⟨hP, mB, s0, s1, g1, g2⟩ := hC
    simp only [calmKnown, lg0, lg1, and_true, Is] at hk
    have h1 := hk; clear hk
    simp only [h1] at hK ⊢
    have H1 := hYd h1; clear h1
    have cB := mB.cell; have lB := mB.lt
    go_simp
    exact hK _ _ _ rfl ⟨hP, mB, s0, s1, g1, g2⟩ trivial rfl
   refine dc2 (fun uu wq D hd hn hn2 hC hk K hK => ?_) ?_
   ·obtain ⟨hP, mB, s0, s1, g1, g2⟩ := hC
    clear hk
    go_simp
    exact hK _ _ _ rfl ⟨hP, mB, s0, s1, g1, g2⟩ trivial rfl
   refine dc2 (fun uu wq D hd hn hn2 hC hk K hK => ?_) ?_
   ·obtain ⟨hP, mB, s0, s1, g1, g2⟩ := hC
    simp only [calmKnown, lg0, lg1, and_true, Is] at hk
    have h3 := hk; clear hk
    simp only [h3] at hK ⊢
    have H3 := hYd h3; clear h3
    have cB := mB.cell; have lB := mB.lt
    go_simp
    exact hK _ _ _ rfl ⟨hP, mB, s0, s1, g1, g2⟩ trivial rfl
   refine dc2 (fun uu wq D hd hn hn2 hC hk K hK => ?_) ?_
   ·obtain ⟨hP, mB, s0, s1, g1, g2⟩ := hC
    clear hk
    go_simp
    exact hK _ _ _ rfl ⟨hP, mB, s0, s1, g1, g2⟩ trivial rfl
   refine dc2 (fun uu wq D hd hn hn2 hC hk K hK => ?_) ?_
   ·obtain ⟨hP, mB, s0, s1, g1, g2⟩ := hC
    simp only [calmKnown, lg0, lg1, and_true, Is] at hk
    have h5 := hk; clear hk
    simp only [h5] at hK ⊢
    have H5 := hYd h5; clear h5
    have cB := mB.cell; have lB := mB.lt
    go_simp
    exact hK _ _ _ rfl ⟨hP, mB, s0, s1, g1, g2⟩ trivial rfl
   refine dc2 (fun uu wq D hd hn hn2 hC hk K hK => ?_) ?_
   ·obtain ⟨hP, mB, s0, s1, g1, g2⟩ := hC
    simp only [calmKnown, lg0, lg1, and_true, Is] at hk
    have h6 := hk; clear hk
    simp only [h6] at hK ⊢
    have H6 := hYd h6; clear h6
    go_simp
    exact hK _ _ _ rfl ⟨hP, mB, s0, s1, g1, g2⟩ trivial rfl
   refine dc2 (fun uu wq D hd hn hn2 hC hk K hK => ?_) ?_
   ·obtain ⟨hP, mB, s0, s1, g1, g2⟩ := hC
    simp only [calmKnown, lg0, lg1, and_true, Is] at hk
    have h7 := hk; clear hk
    simp only [h7] at hK ⊢
    have H7 := hYd h7; clear h7
    have z0 := s0 hd
    have hmk := run_makeSlice (P := Tryz.prog) (w := wq) 102 104 i0 _ Tryz.underlying102 hif hz0 .i64 .i64 (n : Int) (n : Int) (by omega) (Int.le_refl _) (by rw [hz1]; simp only [Int.toNat_natCast]; omega) (by rw [hz2]; omega) (by omega)
    simp only [Int.toNat_natCast, hz1, z0] at hmk
    go_simp
    exact hK _ _ _ rfl ⟨hP.allocs _, mB.alloc _, (fun h => by cases h), (fun _ _ => by simp [z0]), (fun _ => Blk.newE z0.symm), (fun h => absurd (h.symm.trans (hn.out 13 (by kernel_rfl))) (by decide))⟩ trivial rfl
   refine dc2 (fun uu wq D hd hn hn2 hC hk K hK => ?_) ?_
   ·obtain ⟨hP, mB, s0, s1, g1, g2⟩ := hC
    clear hk
    go_simp
    exact hK _ _ _ rfl ⟨hP, mB, s0, s1, g1, g2⟩ trivial rfl
   refine dc2 (fun uu wq D hd hn hn2 hC hk K hK => ?_) ?_
   ·obtain ⟨hP, mB, s0, s1, g1, g2⟩ := hC
    simp only [calmKnown, lg0, lg1, and_true, Is] at hk
    have h9 := hk; clear hk
    simp only [h9] at hK ⊢
    have H9 := hYd h9; clear h9
    have cB := mB.cell; have lB := mB.lt
    go_simp
    exact hK _ _ _ rfl ⟨hP, mB, s0, s1, g1, g2⟩ trivial rfl
   refine dc2 (fun uu wq D hd hn hn2 hC hk K hK => ?_) ?_
   ·obtain ⟨hP, mB, s0, s1, g1, g2⟩ := hC
    simp only [calmKnown, lg0, lg1, and_true, Is] at hk
    have h10 := hk; clear hk
    simp only [h10] at hK ⊢
    have H10 := hYd h10; clear h10
    go_simp
    exact hK _ _ _ rfl ⟨hP, mB, s0, s1, g1, g2⟩ trivial rfl
   refine dc2 (fun uu wq D hd hn hn2 hC hk K hK => ?_) ?_
   ·obtain ⟨hP, mB, s0, s1, g1, g2⟩ := hC
    simp only [calmKnown, lg0, lg1, and_true, Is] at hk
    obtain ⟨h0, h2, h4, h8, h11⟩ := hk
    simp only [h0, h2, h4, h8, h11] at hK ⊢
    have H0 := hYd h0; clear h0; have H2 := hYd h2; clear h2; have H4 := hYd h4; clear h4; have H8 := hYd h8; clear h8; have H11 := hYd h11; clear h11
    go_simp
    exact hK _ _ _ rfl ⟨hP, mB, s0, s1, g1, g2⟩ trivial rfl
   refine dc2 (fun uu wq D hd hn hn2 hC hk K hK => ?_) ?_
   ·obtain ⟨hP, mB, s0, s1, g1, g2⟩ := hC
    simp only [calmKnown, lg0, lg1, and_true, Is] at hk
    have h12 := hk; clear hk
    simp only [h12] at hK ⊢
    have H12 := hYd h12; clear h12
    have d8 : D 8 = true := hn2.out 8 (by kernel_rfl)
    have z1 := s1 d8 hd
    go_simp
    exact hK _ _ _ rfl ⟨hP.allocs _, mB.alloc _, (fun h => absurd (h.symm.trans d8) (by decide)), (fun _ h => by cases h), (fun _ => (g1 d8).alloc _), (fun _ => Blk.newE z1.symm)⟩ trivial rfl
   refine dc2 (fun uu wq D hd hn hn2 hC hk K hK => ?_) ?_
   ·obtain ⟨hP, mB, s0, s1, g1, g2⟩ := hC
    simp only [calmKnown, lg0, lg1, and_true, Is] at hk
    have h13 := hk; clear hk
    simp only [h13] at hK ⊢
    have H13 := hYd h13; clear h13
    go_simp
    exact hK _ _ _ rfl ⟨hP, mB, s0, s1, g1, g2⟩ trivial rfl
   exact dSteps_nil
  ·intro uu w2 D hD hC hF
   obtain ⟨hP, mB, s0, s1, g1, g2⟩ := hC
   simp only [calmFacts, Is, and_true, true_and] at hF
   obtain ⟨f0, f1, f2, f3, f4, f5, f6, f7, f8, f9, f10, f11, f12, f13, f14⟩ := hF
   simp only [f0, f1, f2, f3, f4, f5, f6, f7, f8, f9, f10, f11, f12, f13, f14]
   have bS := g1 (hD 8 (by decide))
   have bP := g2 (hD 13 (by decide))
   have bB2 := mB
   have KW2 : Below w.heap.size w w2 := Past.toBelow (Past.trans Kv1 hP)
   have Z2 : w.heap.size < gs := by have := Kv1.1; omega
   clear hP mB s0 s1 g1 g2 hD bB cB fB lB eB kB Kv1
   have lP := bP.lt
   have ZB : gs + 2 ≤ w2.heap.size := by omega
   have HS := hYd bS; have HP := hYd bP; have HB := hYd bB2; have HK := hYd KW2
   clear bS bP bB2 KW2 hif hz0 hz1 hz2
   have cB := HB.out.cell; have lB := HB.out.lt
   have HQ : Hid (∀ q, q < nx → (xs.getD q .zero).rg n = true) := hYd (fun q hq => by have h9 := (chkE_0 HER.out).2.2.2.2 (xs.getD q .zero) (stp_get (s := ⟨sta, loc, p, li, ai, es, xs⟩) (by show q < xs.length; rw [← HX.out]; exact hq)); rw [HN.out]; exact (stpE_0 h9).1)
   have hx64 : nx ≤ 64 := by have := (chkE_0 HER.out).2.2.1; rw [HX.out]; exact this
   go_wp2
   go_loopg [6, 33] nx (fun G v i wr => SimRel w ⟨sta, loc, p, li, ai, es, xs⟩ A SA n nx c sc (gs + 1) gs w.heap.size w2.heap.size sta loc p li ai G v i wr)
   case atStart =>
    refine ⟨0, (⟨sta, loc, p, li, ai, es, xs⟩ : Sch).init, [], none, 0, _, by omega, by omega, rfl, ⟨rfl, rfl⟩, rfl, RowR.nil, HP.out, HS.out, ?_, HB.out, Nat.le_refl _, HK.out⟩
    show SrcAt _ (List.replicate es.length (false, K6.zero))
    rw [← HN.out]; exact src_made n
   case round =>
    obtain ⟨q, m, rs, A', c', cur, hq, rfl, rfl, hrun, rfl, hrow, bP, bS, hsrc, bB, hBw, KR⟩ := hrel
    have ZR := KR.size
    clear HS HP HB HK cB lB
    have HRUN := hYd hrun; have HROW := hYd hrow; have HSRC := hYd hsrc; have HKR := hYd KR
    have hrl := hrow.lt
    clear hrun hrow hsrc
    by_cases hlt : q < nx
    ·have gq : decide ((q : Int) < (nx : Int)) = true := decide_eq_true (by omega)
     have gqn : decide (q < nx) = true := decide_eq_true hlt
     have wq9 : IntKind.i64.wrap ((q : Int) + 1) = ((q + 1 : Nat) : Int) := by rw [IntWalk.i64_in _ (by omega)]; omega
     have hst9 : StpsAt wr SA xs.length xs := (HH.out.below KR).2
     obtain ⟨bk9, off9, rfl, lbk9, d0, d1, d2, d3, d4, d5, d6, d7, d8, d9, d10⟩ := hst9.cells (show q < xs.length by rw [← HX.out]; exact hlt)
     clear hst9
     have hrg := HQ.out q hlt
     obtain ⟨x, hx⟩ : ∃ x, xs.getD q .zero = x := ⟨_, rfl⟩
     rw [hx] at hrg
     simp only [hx] at d0 d1 d2 d3 d4 d5 d6 d7 d8 d9 d10
     obtain ⟨s0, s1, y0, y1, y2, y3, y4, y5, y6, y7, z2, z3⟩ := Stp.rg_all hrg
     obtain ⟨src, hsrc⟩ : ∃ src : Nat, x.src = src := ⟨x.src.toNat, by omega⟩
     obtain ⟨xs0, tr, lo, ou, ol, ho, hl, ba, bl9, w2', w3'⟩ := x
     dsimp only at hsrc s0 s1 y0 y1 y2 y3 y4 y5 y6 y7 z2 z3 d0 d1 d2 d3 d4 d5 d6 d7 d8 d9 d10
     subst hsrc
     clear hrg
     have hx' : xs.getD q .zero = (⟨(src : Int), tr, lo, ou, ol, ho, hl, ba, bl9, w2', w3'⟩ : Stp) := hx
     have HXQ := hYd hx'; clear hx hx'
     have hinv := RunN.inv HER.out (show q ≤ xs.length by rw [← HX.out]; omega) HRUN.out
     obtain ⟨i1, i2, i3, i4, i5, -⟩ := hinv
     obtain ⟨⟨a1, a2⟩, ⟨a3, a4⟩, -⟩ := Sch.rg_all (chkE_0 HER.out).2.2.2.1
     dsimp only at i1 i2 i3 i4 i5 a1 a2 a3 a4
     have hq64 : (q : Int) < 64 := by omega
     have hT : -576460752303423488 ≤ m.t ∧ m.t ≤ 576460752303423488 := by omega
     have hU : -576460752303423488 ≤ m.u ∧ m.u ≤ 576460752303423488 := by omega
     clear i1 i2 i3 i4 a1 a2 a3 a4 hq64
     have hsn : src < n := by omega
     have hsl : src < m.by_.length := by rw [i5, ← HN.out]; exact hsn
     have hbyl : m.by_.length = n := by rw [i5, HN.out]
     clear i5
     have HBYL := hYd hbyl; clear hbyl
     obtain ⟨a0, a1, ae, hask⟩ : ∃ a0 a1 ae, (⟨sta, loc, p, li, ai, es, xs⟩ : Sch).ask m (⟨(src : Int), tr, lo, ou, ol, ho, hl, ba, bl9, w2', w3'⟩ : Stp) = (a0, a1, ae) := ⟨_, _, _, rfl⟩
     obtain ⟨mx, my, me, hmg⟩ := MG_ex (knowns ((⟨sta, loc, p, li, ai, es, xs⟩ : Sch).hear m (⟨(src : Int), tr, lo, ou, ol, ho, hl, ba, bl9, w2', w3'⟩ : Stp))) (uAft m (⟨(src : Int), tr, lo, ou, ol, ho, hl, ba, bl9, w2', w3'⟩ : Stp)) li
     obtain ⟨m', hm'⟩ : ∃ m', (⟨sta, loc, p, li, ai, es, xs⟩ : Sch).nxt m (⟨(src : Int), tr, lo, ou, ol, ho, hl, ba, bl9, w2', w3'⟩ : Stp) (mx, my, me) = m' := ⟨_, rfl⟩
     obtain ⟨r9, hr9⟩ : ∃ r, (⟨sta, loc, p, li, ai, es, xs⟩ : Sch).rep m (⟨(src : Int), tr, lo, ou, ol, ho, hl, ba, bl9, w2', w3'⟩ : Stp) (mx, my, me) = r := ⟨_, rfl⟩
     have ht' : m.t + tr + ou + ho + ba = m'.t := by rw [← hm']; rfl
     have hu' : m.u + lo + ol + hl + bl9 = m'.u := by rw [← hm']; rfl
     have hby' : (⟨sta, loc, p, li, ai, es, xs⟩ : Sch).hear m (⟨(src : Int), tr, lo, ou, ol, ho, hl, ba, bl9, w2', w3'⟩ : Stp) = m'.by_ := by rw [← hm']; rfl
     have hown' : m'.own = (if me = 0 then takeK (m.own.1, ⟨m.own.2.at_, m.own.2.lo, m.own.2.hi, m.own.2.pp, m.own.2.le, m.own.2.re⟩) m'.u mx my p else (m.own.1, ⟨m.own.2.at_, m.own.2.lo, m.own.2.hi, m.own.2.pp, m.own.2.le, m.own.2.re⟩)) := by rw [← hm']; rfl
     have hck' : m'.ck = ckOf (m'.own.1, ⟨m'.own.2.at_, m'.own.2.lo, m'.own.2.hi, m'.own.2.pp, m'.own.2.le, m'.own.2.re⟩) ⟨m.ck.aim, m.ck.rate, m.ck.set, m.ck.held, m.ck.at_, m.ck.shown⟩ m'.u := by rw [← hm']; rfl
     have hrp' : r9 = repOf (m'.own.1, ⟨m'.own.2.at_, m'.own.2.lo, m'.own.2.hi, m'.own.2.pp, m'.own.2.le, m'.own.2.re⟩) ⟨m.ck.aim, m.ck.rate, m.ck.set, m.ck.held, m.ck.at_, m.ck.shown⟩ m'.u m'.t := by rw [← hr9, ← hm']; rfl
     have hmg' : MG (knowns m'.by_) m'.u li mx my me := by rw [← hby', ← hu']; exact hmg
     have hrun' : RunN (⟨sta, loc, p, li, ai, es, xs⟩ : Sch) (q + 1) m' (rs ++ [r9]) := ⟨m, rs, (mx, my, me), HRUN.out, by show MG (knowns ((⟨sta, loc, p, li, ai, es, xs⟩ : Sch).hear m (xs.getD q .zero))) (uAft m (xs.getD q .zero)) li mx my me; rw [HXQ.out]; exact hmg, by show m' = (⟨sta, loc, p, li, ai, es, xs⟩ : Sch).nxt m (xs.getD q .zero) _; rw [HXQ.out]; exact hm'.symm, by show _ = rs ++ [(⟨sta, loc, p, li, ai, es, xs⟩ : Sch).rep m (xs.getD q .zero) _]; rw [HXQ.out, hr9]⟩
     have hby0 : (ae = 0 → m'.by_ = m.by_.set src (takeK (m.by_.getD src (false, .zero)) m'.u a0 a1 p)) ∧ (ae ≠ 0 → m'.by_ = m.by_) := by
      rw [← hby', ← hu']
      unfold Sch.hear
      rw [hask]
      exact ⟨fun h => by rw [if_pos h]; rfl, fun h => by rw [if_neg h]⟩
     have HBY0 := hYd hby0; have HOWN := hYd hown'; have HCK := hYd hck'; have HRP := hYd hrp'; have HMG := hYd hmg'; have HRUN2 := hYd hrun'
     clear hby0 hby' hown' hck' hrp' hmg' hrun' hmg hm' hr9
     have RK := hYd (fun W hB hE => ask_any (gs + 1) n c A es (⟨(src : Int), tr, lo, ou, ol, ho, hl, ba, bl9, w2', w3'⟩ : Stp) (VS := .slice (some ⟨bk9, off9, none⟩) nx sc) (VQ := .slice (some ⟨gs, 0, none⟩) n n) (sta := sta) (loc := loc) (p := p) (li := li) (ai := ai) (t := m.t) (u := m.u) (os := m.own.1) (ka := m.own.2.at_) (klo := m.own.2.lo) (khi := m.own.2.hi) (kp := m.own.2.pp) (kle := m.own.2.le) (kre := m.own.2.re) (cai := m.ck.aim) (cra := m.ck.rate) (cse := m.ck.set) (che := m.ck.held) (cat := m.ck.at_) (csh := m.ck.shown) W hB hE s0 s1 y0 y1 y2 y3 y4 y5 y6 y7 z2 z3 hT hU)
     dsimp only [Int.toNat_natCast] at RK
     have RA : Hid (∀ W, Calls Tryz.prog 48 #[.agg #[.int .i64 (m.u + lo), .int .i64 (m.t + tr + ou + w2'), .int .i64 (m.t + tr + ou + ho + w3'), .int .i64 (m.u + lo + ol + hl + bl9), .int .i64 (es.getD src 0)], .int .i64 p] W (RB W (.tuple #[.agg #[.int .i64 a0, .int .i64 a1], .int .i64 ae]))) := hYd (fun W => by
      have h := at_any (m.u + lo) (m.t + tr + ou + w2') (m.t + tr + ou + ho + w3') (m.u + lo + ol + hl + bl9) (es.getD src 0) p W
      rw [atT_V, show atT (m.u + lo) (m.t + tr + ou + w2') (m.t + tr + ou + ho + w3') (m.u + lo + ol + hl + bl9) (es.getD src 0) p = (a0, a1, ae) from hask] at h
      exact h)
     clear hask
     rw [ht', hu'] at RK
     rw [hu'] at RA
     have HT9 := hYd ht'; have HU9 := hYd hu'; clear ht' hu'
     generalize m.u + lo = T1 at RK RA
     generalize m.t + tr + ou + w2' = T2 at RK RA
     generalize m.t + tr + ou + ho + w3' = T3 at RK RA
     generalize es.getD src 0 = e0 at RK RA
     clear hT hU HT9 HU9 z2 z3 y0 y1 y2 y3 y4 y5 y6 y7
     have gsn : decide ((src : Int) < (n : Int)) = true := decide_eq_true s1
     have gsnn : decide (src < n) = true := decide_eq_true hsn
     have HE : Hid (NsAt w A n es) := hYd (by have h9 : NsAt w A es.length es := HH.out.1; rw [← HN.out] at h9; exact h9)
     have hPW : gs + 1 < wr.heap.size := bP.lt
     have cB := bB.cell; have lB := bB.lt; have cP := bP.cell; have lPz := bP.lt; have lSz := bS.lt
     go_upto_region 9 with fail
     obtain ⟨wA, hwA⟩ : ∃ x : World, x = wr.alloc (.cells #[.int .i64 src, .int .i64 tr, .int .i64 lo, .int .i64 ou, .int .i64 ol, .int .i64 ho, .int .i64 hl, .int .i64 ba, .int .i64 bl9, .int .i64 w2', .int .i64 w3'] 57) := ⟨_, rfl⟩
     have hqA : Past [gs + 1, gs] wr wA := by rw [hwA]; exact (Past.refl _ _).allocs _
     have bX : Blk wA wr.heap.size 57 #[.int .i64 src, .int .i64 tr, .int .i64 lo, .int .i64 ou, .int .i64 ol, .int .i64 ho, .int .i64 hl, .int .i64 ba, .int .i64 bl9, .int .i64 w2', .int .i64 w3'] := by rw [hwA]; exact Blk.new _ _ _
     have bP' := bP; have bS' := bS; have bB' := bB; clear bP bS bB cB lB cP lPz lSz
     have bP : Blk wA (gs + 1) 106 #[.int .i64 sta, .int .i64 loc, .int .i64 p, .int .i64 li, .int .i64 ai, .slice A n c, .slice (some ⟨bk9, off9, none⟩) nx sc, .int .i64 m.t, .int .i64 m.u, .slice (some ⟨gs, 0, none⟩) n n, .bool m.own.1, .int .i64 m.own.2.at_, .int .i64 m.own.2.lo, .int .i64 m.own.2.hi, .int .i64 m.own.2.pp, .int .i64 m.own.2.le, .int .i64 m.own.2.re, .int .i64 m.ck.aim, .int .i64 m.ck.rate, .bool m.ck.set, .bool m.ck.held, .int .i64 m.ck.at_, .int .i64 m.ck.shown] := by rw [hwA]; exact bP'.alloc _
     have bS : Blk wA gs 104 cur := by rw [hwA]; exact bS'.alloc _
     have bB : Blk wA w.heap.size 54 #[.int .i64 sta, .int .i64 loc, .int .i64 p, .int .i64 li, .int .i64 ai, .slice A n c, .slice (some ⟨bk9, off9, none⟩) nx sc] := by rw [hwA]; exact bB'.alloc _
     have ZA : wr.heap.size + 1 ≤ wA.heap.size := by rw [hwA]; simp
     rw [← hwA]
     clear hwA bP' bS' bB' d0 d1 d2 d3 d4 d5 d6 d7 d8 d9 d10
     obtain ⟨cP, fP, lP, eP, kP⟩ := Blk.facts bP
     obtain ⟨cS, fS, lS, eS, kS⟩ := Blk.facts bS
     obtain ⟨cB, fB, lB, eB, kB⟩ := Blk.facts bB
     obtain ⟨cX, fX, lX, eX, kX⟩ := Blk.facts bX
     have oX := lX
     refine' wp_region_calmD (by kernel_rfl) (fun D u9 w' => Past [gs + 1, gs] wA w' ∧ (D 2 = false → Blk w' (gs + 1) 106 #[.int .i64 sta, .int .i64 loc, .int .i64 p, .int .i64 li, .int .i64 ai, .slice A n c, .slice (some ⟨bk9, off9, none⟩) nx sc, .int .i64 m.t, .int .i64 m.u, .slice (some ⟨gs, 0, none⟩) n n, .bool m.own.1, .int .i64 m.own.2.at_, .int .i64 m.own.2.lo, .int .i64 m.own.2.hi, .int .i64 m.own.2.pp, .int .i64 m.own.2.le, .int .i64 m.own.2.re, .int .i64 m.ck.aim, .int .i64 m.ck.rate, .bool m.ck.set, .bool m.ck.held, .int .i64 m.ck.at_, .int .i64 m.ck.shown]) ∧ (D 2 = true → Blk w' (gs + 1) 106 #[.int .i64 sta, .int .i64 loc, .int .i64 p, .int .i64 li, .int .i64 ai, .slice A n c, .slice (some ⟨bk9, off9, none⟩) nx sc, .int .i64 m'.t, .int .i64 m'.u, .slice (some ⟨gs, 0, none⟩) n n, .bool m.own.1, .int .i64 m.own.2.at_, .int .i64 m.own.2.lo, .int .i64 m.own.2.hi, .int .i64 m.own.2.pp, .int .i64 m.own.2.le, .int .i64 m.own.2.re, .int .i64 m.ck.aim, .int .i64 m.ck.rate, .bool m.ck.set, .bool m.ck.held, .int .i64 m.ck.at_, .int .i64 m.ck.shown]) ∧ Blk w' (gs) 104 cur ∧ Blk w' (w.heap.size) 54 #[.int .i64 sta, .int .i64 loc, .int .i64 p, .int .i64 li, .int .i64 ai, .slice A n c, .slice (some ⟨bk9, off9, none⟩) nx sc] ∧ Blk w' (wr.heap.size) 57 #[.int .i64 src, .int .i64 tr, .int .i64 lo, .int .i64 ou, .int .i64 ol, .int .i64 ho, .int .i64 hl, .int .i64 ba, .int .i64 bl9, .int .i64 w2', .int .i64 w3'] ∧ NewD wA.heap.size 29 #[.int .i64 0, .int .i64 0] #[.int .i64 a0, .int .i64 a1] (D 9) (D 10) (u9 9) w' ∧ wA.heap.size ≤ w'.heap.size) (fun _ _ => True) [(Is _), (Is _), (Is _), (Is _), (Is _), (Is _), (Is _), (Is _), (Is _), (fun _ _ _ => True), (fun _ _ _ => True), (Is _)] [[], [], [0, 1], [], [3], [2, 4], [5], [6], [6], [], [9, 7], [8]] rfl (by kernel_rfl) (fun u => by (simp only [calmPut, Act.put, lst, ls0, ls1, Nat.zero_add, Nat.reduceAdd]; rfl)) ?_ (kcc keep_is' (kcc keep_is' (kcc keep_is' (kcc keep_is' (kcc keep_is' (kcc keep_is' (kcc keep_is' (kcc keep_is' (kcc keep_is' (kcc keep_triv (kcc keep_triv (kcc keep_is' (calmKeep_nil))))))))))))) ?_ ?_
     ·exact ⟨pa1, (fun _ => bn1), (fun h => by cases h), bn1, bn1, bn1, NewD.start _, (by first | exact Nat.le_refl _ | omega | (simp <;> omega))⟩
     rotate_left 10
     ·skip
      refine dc2 (fun uu wq D hd hn hn2 hC hk K hK => ?_) ?_
      ·obtain ⟨hP, mP, yP, mS, mB, mX, nN, hZ⟩ := hC
       clear hk
       go_simp
       exact hK _ _ _ rfl ⟨hP, mP, yP, mS, mB, mX, nN, hZ⟩ trivial rfl
      refine dc2 (fun uu wq D hd hn hn2 hC hk K hK => ?_) ?_
      ·obtain ⟨hP, mP, yP, mS, mB, mX, nN, hZ⟩ := hC
       clear hk
       have cS := mS.cell; have lS := mS.lt
       have cB := mB.cell; have lB := mB.lt
       have cX := mX.cell; have lX := mX.lt
       have hB := mP (hn.out 2 (by kernel_rfl)); have cP := hB.cell; have lP := hB.lt
       go_simp
       exact hK _ _ _ rfl ⟨hP, mP, yP, mS, mB, mX, nN, hZ⟩ trivial rfl
      refine dc2 (fun uu wq D hd hn hn2 hC hk K hK => ?_) ?_
      ·obtain ⟨hP, mP, yP, mS, mB, mX, nN, hZ⟩ := hC
       simp only [calmKnown, lg0, lg1, and_true, Is] at hk
       obtain ⟨h0, h1⟩ := hk
       simp only [h0, h1] at hK ⊢
       have H0 := hYd h0; clear h0; have H1 := hYd h1; clear h1
       have hB := mP hd
       go_wp2_with fail
       refine (RK.out _ hB (HE.out.below (Past.belowX HKR.out (Past.trans hqA hP) (by simp <;> omega)))).mono ?_
       rintro e w9 ⟨rfl, bP9, hq9⟩
       exact hK _ _ _ rfl ⟨Past.trans hP (Past.more (by simp) hq9), (fun h => by cases h), (fun _ => bP9), hq9.blk mS (by simp <;> omega), hq9.blk mB (by simp <;> omega), hq9.blk mX (by simp <;> omega), nN.past hq9 (by simp <;> omega), Nat.le_trans hZ hq9.1⟩ trivial rfl
      refine dc2 (fun uu wq D hd hn hn2 hC hk K hK => ?_) ?_
      ·obtain ⟨hP, mP, yP, mS, mB, mX, nN, hZ⟩ := hC
       clear hk
       go_simp
       exact hK _ _ _ rfl ⟨hP, mP, yP, mS, mB, mX, nN, hZ⟩ trivial rfl
      refine dc2 (fun uu wq D hd hn hn2 hC hk K hK => ?_) ?_
      ·obtain ⟨hP, mP, yP, mS, mB, mX, nN, hZ⟩ := hC
       simp only [calmKnown, lg0, lg1, and_true, Is] at hk
       have h3 := hk; clear hk
       simp only [h3] at hK ⊢
       have H3 := hYd h3; clear h3
       have cS := mS.cell; have lS := mS.lt
       have cB := mB.cell; have lB := mB.lt
       have cX := mX.cell; have lX := mX.lt
       go_simp
       exact hK _ _ _ rfl ⟨hP, mP, yP, mS, mB, mX, nN, hZ⟩ trivial rfl
      refine dc2 (fun uu wq D hd hn hn2 hC hk K hK => ?_) ?_
      ·obtain ⟨hP, mP, yP, mS, mB, mX, nN, hZ⟩ := hC
       simp only [calmKnown, lg0, lg1, and_true, Is] at hk
       obtain ⟨h2, h4⟩ := hk
       simp only [h2, h4] at hK ⊢
       have H2 := hYd h2; clear h2; have H4 := hYd h4; clear h4
       go_wp2_with fail
       first | (with_reducible refine (RA.out _).mono ?_)
       rintro e w2 ⟨rfl, hbl⟩
       exact hK _ _ _ rfl ⟨hP.call hbl, (fun h => Blk.keep hbl (mP h)), (fun h => Blk.keep hbl (yP h)), Blk.keep hbl mS, Blk.keep hbl mB, Blk.keep hbl mX, nN.below hbl, Nat.le_trans hZ hbl.size⟩ trivial rfl
      refine dc2 (fun uu wq D hd hn hn2 hC hk K hK => ?_) ?_
      ·obtain ⟨hP, mP, yP, mS, mB, mX, nN, hZ⟩ := hC
       simp only [calmKnown, lg0, lg1, and_true, Is] at hk
       have h5 := hk; clear hk
       simp only [h5] at hK ⊢
       have H5 := hYd h5; clear h5
       go_simp
       exact hK _ _ _ rfl ⟨hP, mP, yP, mS, mB, mX, nN, hZ⟩ trivial rfl
      refine dc2 (fun uu wq D hd hn hn2 hC hk K hK => ?_) ?_
      ·obtain ⟨hP, mP, yP, mS, mB, mX, nN, hZ⟩ := hC
       simp only [calmKnown, lg0, lg1, and_true, Is] at hk
       have h6 := hk; clear hk
       simp only [h6] at hK ⊢
       have H6 := hYd h6; clear h6
       go_simp
       exact hK _ _ _ rfl ⟨hP, mP, yP, mS, mB, mX, nN, hZ⟩ trivial rfl
      refine dc2 (fun uu wq D hd hn hn2 hC hk K hK => ?_) ?_
      ·obtain ⟨hP, mP, yP, mS, mB, mX, nN, hZ⟩ := hC
       simp only [calmKnown, lg0, lg1, and_true, Is] at hk
       have h6 := hk; clear hk
       simp only [h6] at hK ⊢
       have H6 := hYd h6; clear h6
       go_simp
       exact hK _ _ _ rfl ⟨hP, mP, yP, mS, mB, mX, nN, hZ⟩ trivial rfl
      refine dc2 (fun uu wq D hd hn hn2 hC hk K hK => ?_) ?_
      ·obtain ⟨hP, mP, yP, mS, mB, mX, nN, hZ⟩ := hC
       clear hk
       have d10 := hn.out 10 (by kernel_rfl)
       go_simp
       exact hK _ _ _ rfl ⟨hP.allocs _, (fun h => (mP h).alloc _), (fun h => (yP h).alloc _), mS.alloc _, mB.alloc _, mX.alloc _, NewD.made hZ d10, Nat.le_trans hZ (by simp)⟩ trivial trivial
      refine dc2 (fun uu wq D hd hn hn2 hC hk K hK => ?_) ?_
      ·obtain ⟨hP, mP, yP, mS, mB, mX, nN, hZ⟩ := hC
       simp only [calmKnown, lg0, lg1, and_true, Is] at hk
       obtain ⟨-, h7⟩ := hk
       simp only [h7] at hK ⊢
       have H7 := hYd h7; clear h7
       have da : D 9 = true := hn2.out 9 (by kernel_rfl)
       obtain ⟨gn, hgn, gb, gl, hB⟩ := nN.one da hd
       simp only [hgn] at hK ⊢
       have hc9 := hB.cell; have hf9 := hB.frozen
       have hB2 := setAll_blk [.int .i64 a0, .int .i64 a1] 0 wq _ hB
       simp only [setArr, lst, ls0, ls1, Nat.zero_add, Nat.reduceAdd] at hB2
       go_simp
       exact hK _ undef (setAll wq gn 0 [.int .i64 a0, .int .i64 a1]) rfl ⟨(setAll_past gb [.int .i64 a0, .int .i64 a1] 0 wq hP), (fun h => setAll_far (show gs + 1 ≠ gn by first | omega | (simp <;> omega)) [.int .i64 a0, .int .i64 a1] 0 wq (mP h)), (fun h => setAll_far (show gs + 1 ≠ gn by first | omega | (simp <;> omega)) [.int .i64 a0, .int .i64 a1] 0 wq (yP h)), setAll_far (show gs ≠ gn by first | omega | (simp <;> omega)) [.int .i64 a0, .int .i64 a1] 0 wq mS, setAll_far (show w.heap.size ≠ gn by first | omega | (simp <;> omega)) [.int .i64 a0, .int .i64 a1] 0 wq mB, setAll_far (show wr.heap.size ≠ gn by first | omega | (simp <;> omega)) [.int .i64 a0, .int .i64 a1] 0 wq mX, (show NewD _ _ _ _ (D 9) true (uu 9) _ from by rw [hgn]; exact NewD.stored gb hB2), (by rw [setAll_size]; exact hZ)⟩ trivial trivial
      refine dc2 (fun uu wq D hd hn hn2 hC hk K hK => ?_) ?_
      ·obtain ⟨hP, mP, yP, mS, mB, mX, nN, hZ⟩ := hC
       simp only [calmKnown, lg0, lg1, and_true, Is] at hk
       have h8 := hk; clear hk
       simp only [h8] at hK ⊢
       have H8 := hYd h8; clear h8
       go_simp
       exact hK _ _ _ rfl ⟨hP, mP, yP, mS, mB, mX, nN, hZ⟩ trivial rfl
      exact dSteps_nil
     ·intro uu v1 D hD hC hF
      obtain ⟨hP, mP, yP, mS, mB, mX, nN, hZ⟩ := hC
      simp only [calmFacts, Is, and_true, true_and] at hF
      obtain ⟨f0, f1, f2, f3, f4, f5, f6, f7, f8, f11⟩ := hF
      simp only [f0, f1, f2, f3, f4, f5, f6, f7, f8, f11]
      have bbP := yP (hD 2 (by decide))
      obtain ⟨gN, e9N, gbN, glN, bN'⟩ := nN.last (hD 9 (by decide)) (hD 10 (by decide))
      simp only [e9N]
      clear e9N
      have hq := hP; clear hP
      have Kv1 : Past [gs + 1, gs] wr v1 := Past.trans hqA hq
      have Zv1 := hZ; clear hZ
      clear hq hqA
      clear bP cP fP lP eP kP; have bP := bbP
      clear bS cS fS lS eS kS; have bS := mS
      clear bB cB fB lB eB kB; have bB := mB
      clear bX cX fX lX eX kX; have bX := mX
      clear mP mS mB mX yP bbP nN hD
      have bN := bN'; clear bN'
      obtain ⟨cP, fP, lP, eP, kP⟩ := Blk.facts bP
      obtain ⟨cS, fS, lS, eS, kS⟩ := Blk.facts bS
      obtain ⟨cB, fB, lB, eB, kB⟩ := Blk.facts bB
      obtain ⟨cX, fX, lX, eX, kX⟩ := Blk.facts bX
      obtain ⟨cN, fN, lN, eN, kN⟩ := Blk.facts bN
      have oN := lN
      clear RK RA HE
      by_cases hae : ae = 0
      ·have hby := HBY0.out.1 hae
       subst hae
       have HBY := hYd hby; clear hby HBY0
       have hsr : SrcAt (setArr cur (src * 7) (kwC (takeK (m.by_.getD src (false, .zero)) m'.u a0 a1 p))) m'.by_ := by rw [HBY.out]; exact src_set HSRC.out src hsl _
       have HSR := hYd hsr; have HBL := hYd (show m'.by_.length = n by rw [HBY.out, List.length_set]; exact HBYL.out); clear hsr
       go_upto_region 11 with fail
       refine' wp_region_calmD (by kernel_rfl) (fun D u9 w' => Past [gs + 1, gs] v1 w' ∧ Blk w' (gs + 1) 106 #[.int .i64 sta, .int .i64 loc, .int .i64 p, .int .i64 li, .int .i64 ai, .slice A n c, .slice (some ⟨bk9, off9, none⟩) nx sc, .int .i64 m'.t, .int .i64 m'.u, .slice (some ⟨gs, 0, none⟩) n n, .bool m.own.1, .int .i64 m.own.2.at_, .int .i64 m.own.2.lo, .int .i64 m.own.2.hi, .int .i64 m.own.2.pp, .int .i64 m.own.2.le, .int .i64 m.own.2.re, .int .i64 m.ck.aim, .int .i64 m.ck.rate, .bool m.ck.set, .bool m.ck.held, .int .i64 m.ck.at_, .int .i64 m.ck.shown] ∧ (D 14 = false → Blk w' (gs) 104 cur) ∧ (D 14 = true → Blk w' (gs) 104 (setArr cur (src * 7) (kwC (takeK (m.by_.getD src (false, .zero)) m'.u a0 a1 p)))) ∧ Blk w' (w.heap.size) 54 #[.int .i64 sta, .int .i64 loc, .int .i64 p, .int .i64 li, .int .i64 ai, .slice A n c, .slice (some ⟨bk9, off9, none⟩) nx sc] ∧ Blk w' (wr.heap.size) 57 #[.int .i64 src, .int .i64 tr, .int .i64 lo, .int .i64 ou, .int .i64 ol, .int .i64 ho, .int .i64 hl, .int .i64 ba, .int .i64 bl9, .int .i64 w2', .int .i64 w3'] ∧ Blk w' (gN) 29 #[.int .i64 a0, .int .i64 a1] ∧ v1.heap.size ≤ w'.heap.size) (fun _ _ => True) [(Is _), (Is _), (Is _), (Is _), (Is _), (Is _), (Is _), (Is _), (Is _), (Is _), (Is _), (Is _), (Is _), (Is _), (Is _)] [[], [0], [1], [2], [], [4], [3, 5], [], [7], [8], [9], [], [], [12], [6, 10, 11, 13]] rfl (by kernel_rfl) (fun u => by (simp only [calmPut, Act.put, lst, ls0, ls1, Nat.zero_add, Nat.reduceAdd]; rfl)) ?_ (kcc keep_is' (kcc keep_is' (kcc keep_is' (kcc keep_is' (kcc keep_is' (kcc keep_is' (kcc keep_is' (kcc keep_is' (kcc keep_is' (kcc keep_is' (kcc keep_is' (kcc keep_is' (kcc keep_is' (kcc keep_is' (kcc keep_is' (calmKeep_nil)))))))))))))))) ?_ ?_
       ·exact ⟨pa1, bn1, (fun _ => bn1), (fun h => by cases h), bn1, bn1, bn1, (by first | exact Nat.le_refl _ | omega | (simp <;> omega))⟩
       rotate_left 15
       ·skip
        refine dc2 (fun uu wq D hd hn hn2 hC hk K hK => ?_) ?_
        ·obtain ⟨hP, mP, mS, yS, mB, mX, mN, hZ⟩ := hC
         clear hk
         go_simp
         exact hK _ _ _ rfl ⟨hP, mP, mS, yS, mB, mX, mN, hZ⟩ trivial rfl
        refine dc2 (fun uu wq D hd hn hn2 hC hk K hK => ?_) ?_
        ·obtain ⟨hP, mP, mS, yS, mB, mX, mN, hZ⟩ := hC
         simp only [calmKnown, lg0, lg1, and_true, Is] at hk
         have h0 := hk; clear hk
         simp only [h0] at hK ⊢
         have H0 := hYd h0; clear h0
         go_simp
         exact hK _ _ _ rfl ⟨hP, mP, mS, yS, mB, mX, mN, hZ⟩ trivial rfl
        refine dc2 (fun uu wq D hd hn hn2 hC hk K hK => ?_) ?_
        ·obtain ⟨hP, mP, mS, yS, mB, mX, mN, hZ⟩ := hC
         simp only [calmKnown, lg0, lg1, and_true, Is] at hk
         have h1 := hk; clear hk
         simp only [h1] at hK ⊢
         have H1 := hYd h1; clear h1
         go_simp
         exact hK _ _ _ rfl ⟨hP, mP, mS, yS, mB, mX, mN, hZ⟩ trivial rfl
        refine dc2 (fun uu wq D hd hn hn2 hC hk K hK => ?_) ?_
        ·obtain ⟨hP, mP, mS, yS, mB, mX, mN, hZ⟩ := hC
         simp only [calmKnown, lg0, lg1, and_true, Is] at hk
         have h2 := hk; clear hk
         simp only [h2] at hK ⊢
         have H2 := hYd h2; clear h2
         have cP := mP.cell; have lP := mP.lt
         have cB := mB.cell; have lB := mB.lt
         have cX := mX.cell; have lX := mX.lt
         have cN := mN.cell; have lN := mN.lt
         have hB := mS (hn.out 14 (by kernel_rfl)); have cS := hB.cell; have lS := hB.lt
         go_simp
         exact hK _ _ _ rfl ⟨hP, mP, mS, yS, mB, mX, mN, hZ⟩ trivial rfl
        refine dc2 (fun uu wq D hd hn hn2 hC hk K hK => ?_) ?_
        ·obtain ⟨hP, mP, mS, yS, mB, mX, mN, hZ⟩ := hC
         clear hk
         go_simp
         exact hK _ _ _ rfl ⟨hP, mP, mS, yS, mB, mX, mN, hZ⟩ trivial rfl
        refine dc2 (fun uu wq D hd hn hn2 hC hk K hK => ?_) ?_
        ·obtain ⟨hP, mP, mS, yS, mB, mX, mN, hZ⟩ := hC
         simp only [calmKnown, lg0, lg1, and_true, Is] at hk
         have h4 := hk; clear hk
         simp only [h4] at hK ⊢
         have H4 := hYd h4; clear h4
         have cP := mP.cell; have lP := mP.lt
         have cB := mB.cell; have lB := mB.lt
         have cX := mX.cell; have lX := mX.lt
         have cN := mN.cell; have lN := mN.lt
         have hB := mS (hn.out 14 (by kernel_rfl)); have cS := hB.cell; have lS := hB.lt
         go_simp
         exact hK _ _ _ rfl ⟨hP, mP, mS, yS, mB, mX, mN, hZ⟩ trivial rfl
        refine dc2 (fun uu wq D hd hn hn2 hC hk K hK => ?_) ?_
        ·obtain ⟨hP, mP, mS, yS, mB, mX, mN, hZ⟩ := hC
         simp only [calmKnown, lg0, lg1, and_true, Is] at hk
         obtain ⟨h3, h5⟩ := hk
         simp only [h3, h5] at hK ⊢
         have H3 := hYd h3; clear h3; have H5 := hYd h5; clear h5
         go_simp
         exact hK _ _ _ rfl ⟨hP, mP, mS, yS, mB, mX, mN, hZ⟩ trivial rfl
        refine dc2 (fun uu wq D hd hn hn2 hC hk K hK => ?_) ?_
        ·obtain ⟨hP, mP, mS, yS, mB, mX, mN, hZ⟩ := hC
         clear hk
         go_simp
         exact hK _ _ _ rfl ⟨hP, mP, mS, yS, mB, mX, mN, hZ⟩ trivial rfl
        refine dc2 (fun uu wq D hd hn hn2 hC hk K hK => ?_) ?_
        ·obtain ⟨hP, mP, mS, yS, mB, mX, mN, hZ⟩ := hC
         simp only [calmKnown, lg0, lg1, and_true, Is] at hk
         have h7 := hk; clear hk
         simp only [h7] at hK ⊢
         have H7 := hYd h7; clear h7
         go_simp
         exact hK _ _ _ rfl ⟨hP, mP, mS, yS, mB, mX, mN, hZ⟩ trivial rfl
        refine dc2 (fun uu wq D hd hn hn2 hC hk K hK => ?_) ?_
        ·obtain ⟨hP, mP, mS, yS, mB, mX, mN, hZ⟩ := hC
         simp only [calmKnown, lg0, lg1, and_true, Is] at hk
         have h8 := hk; clear hk
         simp only [h8] at hK ⊢
         have H8 := hYd h8; clear h8
         go_simp
         exact hK _ _ _ rfl ⟨hP, mP, mS, yS, mB, mX, mN, hZ⟩ trivial rfl
        refine dc2 (fun uu wq D hd hn hn2 hC hk K hK => ?_) ?_
        ·obtain ⟨hP, mP, mS, yS, mB, mX, mN, hZ⟩ := hC
         simp only [calmKnown, lg0, lg1, and_true, Is] at hk
         have h9 := hk; clear hk
         simp only [h9] at hK ⊢
         have H9 := hYd h9; clear h9
         have cP := mP.cell; have lP := mP.lt
         have cB := mB.cell; have lB := mB.lt
         have cX := mX.cell; have lX := mX.lt
         have cN := mN.cell; have lN := mN.lt
         have hB := mS (hn.out 14 (by kernel_rfl)); have cS := hB.cell; have lS := hB.lt
         go_simp
         exact hK _ _ _ rfl ⟨hP, mP, mS, yS, mB, mX, mN, hZ⟩ trivial rfl
        refine dc2 (fun uu wq D hd hn hn2 hC hk K hK => ?_) ?_
        ·obtain ⟨hP, mP, mS, yS, mB, mX, mN, hZ⟩ := hC
         clear hk
         have cP := mP.cell; have lP := mP.lt
         have cB := mB.cell; have lB := mB.lt
         have cX := mX.cell; have lX := mX.lt
         have cN := mN.cell; have lN := mN.lt
         have hB := mS (hn.out 14 (by kernel_rfl)); have cS := hB.cell; have lS := hB.lt
         go_simp
         exact hK _ _ _ rfl ⟨hP, mP, mS, yS, mB, mX, mN, hZ⟩ trivial rfl
        refine dc2 (fun uu wq D hd hn hn2 hC hk K hK => ?_) ?_
        ·obtain ⟨hP, mP, mS, yS, mB, mX, mN, hZ⟩ := hC
         clear hk
         go_simp
         exact hK _ _ _ rfl ⟨hP, mP, mS, yS, mB, mX, mN, hZ⟩ trivial rfl
        refine dc2 (fun uu wq D hd hn hn2 hC hk K hK => ?_) ?_
        ·obtain ⟨hP, mP, mS, yS, mB, mX, mN, hZ⟩ := hC
         simp only [calmKnown, lg0, lg1, and_true, Is] at hk
         have h12 := hk; clear hk
         simp only [h12] at hK ⊢
         have H12 := hYd h12; clear h12
         have cP := mP.cell; have lP := mP.lt
         have cB := mB.cell; have lB := mB.lt
         have cX := mX.cell; have lX := mX.lt
         have cN := mN.cell; have lN := mN.lt
         have hB := mS (hn.out 14 (by kernel_rfl)); have cS := hB.cell; have lS := hB.lt
         go_simp
         exact hK _ _ _ rfl ⟨hP, mP, mS, yS, mB, mX, mN, hZ⟩ trivial rfl
        refine dc2 (fun uu wq D hd hn hn2 hC hk K hK => ?_) ?_
        ·obtain ⟨hP, mP, mS, yS, mB, mX, mN, hZ⟩ := hC
         simp only [calmKnown, lg0, lg1, and_true, Is] at hk
         obtain ⟨h6, h10, h11, h13⟩ := hk
         simp only [h6, h10, h11, h13] at hK ⊢
         have H6 := hYd h6; clear h6; have H10 := hYd h10; clear h10; have H11 := hYd h11; clear h11; have H13 := hYd h13; clear h13
         have hB := mS hd
         go_wp2_with fail
         refine (take_any gs (src * 7) 104 cur (m.by_.getD src (false, .zero)) m'.u a0 a1 p _ hB (fun j hj => HSRC.out.2 src hsl j hj)).mono ?_
         rintro e w9 ⟨rfl, bP9, hq9⟩
         exact hK _ _ _ rfl ⟨Past.trans hP (Past.more (by simp) hq9), hq9.blk mP (by simp <;> omega), (fun h => by cases h), (fun _ => bP9), hq9.blk mB (by simp <;> omega), hq9.blk mX (by simp <;> omega), hq9.blk mN (by simp <;> omega), Nat.le_trans hZ hq9.1⟩ trivial rfl
        exact dSteps_nil
       ·intro uu v2 D hD hC hF
        obtain ⟨hP, mP, mS, yS, mB, mX, mN, hZ⟩ := hC
        simp only [calmFacts, Is, and_true, true_and] at hF
        obtain ⟨f0, f1, f2, f3, f4, f5, f6, f7, f8, f9, f10, f11, f12, f13, f14⟩ := hF
        simp only [f0, f1, f2, f3, f4, f5, f6, f7, f8, f9, f10, f11, f12, f13, f14]
        have bbS := yS (hD 14 (by decide))
        have hq := hP; clear hP
        have Kv2 : Past [gs + 1, gs] wr v2 := Past.trans Kv1 hq
        have Zv2 := hZ; clear hZ
        clear hq Kv1
        clear bP cP fP lP eP kP; have bP := mP
        clear bS cS fS lS eS kS; have bS := bbS
        clear bB cB fB lB eB kB; have bB := mB
        clear bX cX fX lX eX kX; have bX := mX
        clear bN cN fN lN eN kN; have bN := mN
        clear mP mS mB mX mN yS bbS hD
        obtain ⟨cP, fP, lP, eP, kP⟩ := Blk.facts bP
        obtain ⟨cS, fS, lS, eS, kS⟩ := Blk.facts bS
        obtain ⟨cB, fB, lB, eB, kB⟩ := Blk.facts bB
        obtain ⟨cX, fX, lX, eX, kX⟩ := Blk.facts bX
        obtain ⟨cN, fN, lN, eN, kN⟩ := Blk.facts bN
        obtain ⟨cur2, hcur2⟩ : ∃ cur2, (setArr cur (src * 7) (kwC (takeK (m.by_.getD src (false, .zero)) m'.u a0 a1 p))) = cur2 := ⟨_, rfl⟩
        rw [hcur2] at HSR bS
        clear hcur2 cS fS lS eS kS
        obtain ⟨cS, fS, lS, eS, kS⟩ := Blk.facts bS
        go_wp2_with fail
        refine (pmerge_any (gs + 1) gs n cur2 m'.by_ mx my me m'.own _ bn1 bn1 (by omega) HBL.out (by omega) HSR.out HMG.out HOWN.out).mono ?_
        rintro e v3 ⟨rfl, bP9, hq0⟩
        have hq : Past [gs + 1, gs] _ _ := Past.more (by simp) hq0
        have Kv3 : Past [gs + 1, gs] wr v3 := Past.trans pa1 hq
        have Zv3 : v2.heap.size ≤ v3.heap.size := Nat.le_trans (by first | exact Nat.le_refl _ | omega | (simp <;> omega)) hq.1
        have bP' := bP9
        have bS' : Blk v3 (gs) 104 cur2 := hq0.blk (bn1) (by simp <;> omega)
        have bB' : Blk v3 (w.heap.size) 54 #[.int .i64 sta, .int .i64 loc, .int .i64 p, .int .i64 li, .int .i64 ai, .slice A n c, .slice (some ⟨bk9, off9, none⟩) nx sc] := hq0.blk (bn1) (by simp <;> omega)
        have bX' : Blk v3 (wr.heap.size) 57 #[.int .i64 src, .int .i64 tr, .int .i64 lo, .int .i64 ou, .int .i64 ol, .int .i64 ho, .int .i64 hl, .int .i64 ba, .int .i64 bl9, .int .i64 w2', .int .i64 w3'] := hq0.blk (bn1) (by simp <;> omega)
        have bN' : Blk v3 (gN) 29 #[.int .i64 a0, .int .i64 a1] := hq0.blk (bn1) (by simp <;> omega)
        clear hq Kv2
        clear bP cP fP lP eP kP; have bP := bP'; clear bP'
        clear bS cS fS lS eS kS; have bS := bS'; clear bS'
        clear bB cB fB lB eB kB; have bB := bB'; clear bB'
        clear bX cX fX lX eX kX; have bX := bX'; clear bX'
        clear bN cN fN lN eN kN; have bN := bN'; clear bN'
        obtain ⟨cP, fP, lP, eP, kP⟩ := Blk.facts bP
        obtain ⟨cS, fS, lS, eS, kS⟩ := Blk.facts bS
        obtain ⟨cB, fB, lB, eB, kB⟩ := Blk.facts bB
        obtain ⟨cX, fX, lX, eX, kX⟩ := Blk.facts bX
        obtain ⟨cN, fN, lN, eN, kN⟩ := Blk.facts bN
        clear bP9 hq0
        go_wp2_with fail
        refine (report_any (gs + 1) m'.ck r9 _ bn1 HCK.out HRP.out).mono ?_
        rintro e v4 ⟨rfl, bP9, hq0⟩
        have hq : Past [gs + 1, gs] _ _ := Past.more (by simp) hq0
        clear HOWN HCK HRP HMG
        obtain ⟨r0, r1, r2, r3, r4, ⟨r5, r6, r7, r8, r9', r10⟩⟩ := r9
        simp only [Rep.cs, Clk.cs, List.cons_append, List.nil_append]
        have Kv4 : Past [gs + 1, gs] wr v4 := Past.trans pa1 hq
        have Zv4 : v3.heap.size ≤ v4.heap.size := Nat.le_trans (by first | exact Nat.le_refl _ | omega | (simp <;> omega)) hq.1
        have bP' := bP9
        have bS' : Blk v4 (gs) 104 cur2 := hq0.blk (bn1) (by simp <;> omega)
        have bB' : Blk v4 (w.heap.size) 54 #[.int .i64 sta, .int .i64 loc, .int .i64 p, .int .i64 li, .int .i64 ai, .slice A n c, .slice (some ⟨bk9, off9, none⟩) nx sc] := hq0.blk (bn1) (by simp <;> omega)
        have bX' : Blk v4 (wr.heap.size) 57 #[.int .i64 src, .int .i64 tr, .int .i64 lo, .int .i64 ou, .int .i64 ol, .int .i64 ho, .int .i64 hl, .int .i64 ba, .int .i64 bl9, .int .i64 w2', .int .i64 w3'] := hq0.blk (bn1) (by simp <;> omega)
        have bN' : Blk v4 (gN) 29 #[.int .i64 a0, .int .i64 a1] := hq0.blk (bn1) (by simp <;> omega)
        clear hq Kv3
        clear bP cP fP lP eP kP; have bP := bP'; clear bP'
        clear bS cS fS lS eS kS; have bS := bS'; clear bS'
        clear bB cB fB lB eB kB; have bB := bB'; clear bB'
        clear bX cX fX lX eX kX; have bX := bX'; clear bX'
        clear bN cN fN lN eN kN; have bN := bN'; clear bN'
        obtain ⟨cP, fP, lP, eP, kP⟩ := Blk.facts bP
        obtain ⟨cS, fS, lS, eS, kS⟩ := Blk.facts bS
        obtain ⟨cB, fB, lB, eB, kB⟩ := Blk.facts bB
        obtain ⟨cX, fX, lX, eX, kX⟩ := Blk.facts bX
        obtain ⟨cN, fN, lN, eN, kN⟩ := Blk.facts bN
        clear bP9 hq0
        obtain ⟨i0, hif, hz0, hz1, hz2⟩ := info_parts infoRep
        have hrl64 : rs.length ≤ 64 := by have h9 := (RunN.len HRUN.out).1; omega
        have HROW2 := hYd (HROW.out.past Kv4 (show ∀ k ∈ ([gs + 1, gs] : List Nat), k < w2.heap.size by intro k hk; simp at hk; omega))
        have KB9 : Below w.heap.size w v4 := Past.belowX HKR.out Kv4 (show ∀ k ∈ ([gs + 1, gs] : List Nat), w.heap.size ≤ k by intro k hk; simp at hk; omega)
        have HKB := hYd KB9; clear KB9
        generalize hv : (Value.slice A' rs.length c') = v9 at *
        have hrl2 := RowR.lt HROW2.out
        clear hv HROW hrl
        go_wp2_with (at_builtin; refine wpList_append_lies _ rfl _ _ 58 rfl w2.heap.size 64 i0 (.agg #[.int .i64 0, .int .i64 0, .bool false, .int .i64 0, .int .i64 0, .int .i64 0, .int .i64 0, .bool false, .bool false, .int .i64 0, .int .i64 0]) 11 80 Tryz.underlying58 hif hz0 hz1 hz2 rfl (by decide) v9 rs.length (rCells rs) rfl (RowR.below HROW2.out ((Below.refl _ _).alloc (Nat.le_refl _) _)) ⟨v4.heap.size, 0, none⟩ 1 1 [.int .i64 r0, .int .i64 r1, .bool r2, .int .i64 r3, .int .i64 r4, .int .i64 r5, .int .i64 r6, .bool r7, .bool r8, .int .i64 r9', .int .i64 r10] rfl rfl (World.news_of_block (t := 64) (fr := (0, 0)) (Blk.new _ _ _)) ?c2 (by decide) ?c3 ?c4 ?c5 _ rfl ?_)
        case c2 => first | exact ⟨rfl, rfl, rfl, rfl, rfl, rfl, rfl, rfl, rfl, rfl, rfl⟩ | (intro u hu; simp at hu; rcases hu with rfl | rfl | rfl | rfl | rfl | rfl | rfl | rfl | rfl | rfl | rfl <;> rfl)
        case c3 => unfold maxLen; omega
        case c4 => omega
        case c5 => first | omega | (simp <;> omega)
        intro g7 cp7 w7 hown hgrow hlie hglt
        have K7 : Below w.heap.size w w7 := (HKB.out.alloc (Below.size HKB.out) _).grown hgrow (by simp; omega) (fun k hk => by have := hrl2 k hk; omega)
        have R7 : RowR w7 w2.heap.size (.slice (some ⟨g7, 0, none⟩) (rs ++ [(⟨r0, r1, r2, r3, r4, ⟨r5, r6, r7, r8, r9', r10⟩⟩ : Rep)]).length cp7) (rs ++ [(⟨r0, r1, r2, r3, r4, ⟨r5, r6, r7, r8, r9', r10⟩⟩ : Rep)]) := by
         unfold RowR
         rw [List.length_append, List.length_singleton, rCells_snoc]; exact hown
        have bP7 : Blk w7 (gs + 1) 106 #[.int .i64 sta, .int .i64 loc, .int .i64 p, .int .i64 li, .int .i64 ai, .slice A n c, .slice (some ⟨bk9, off9, none⟩) nx sc, .int .i64 m'.t, .int .i64 m'.u, .slice (some ⟨gs, 0, none⟩) n n, .bool m'.own.1, .int .i64 m'.own.2.at_, .int .i64 m'.own.2.lo, .int .i64 m'.own.2.hi, .int .i64 m'.own.2.pp, .int .i64 m'.own.2.le, .int .i64 m'.own.2.re, .int .i64 m'.ck.aim, .int .i64 m'.ck.rate, .bool m'.ck.set, .bool m'.ck.held, .int .i64 m'.ck.at_, .int .i64 m'.ck.shown] := (hgrow.block _ (by simp; omega) (fun e => by have h9 := hrl2 _ e.symm; omega)).trans (bP.alloc _)
        have bS7 : Blk w7 (gs) 104 cur2 := (hgrow.block _ (by simp; omega) (fun e => by have h9 := hrl2 _ e.symm; omega)).trans (bS.alloc _)
        have bB7 : Blk w7 (w.heap.size) 54 #[.int .i64 sta, .int .i64 loc, .int .i64 p, .int .i64 li, .int .i64 ai, .slice A n c, .slice (some ⟨bk9, off9, none⟩) nx sc] := (hgrow.block _ (by simp; omega) (fun e => by have h9 := hrl2 _ e.symm; omega)).trans (bB.alloc _)
        have H7 := hYd (And.intro K7 (And.intro R7 (And.intro bP7 (And.intro bS7 (And.intro (show w2.heap.size ≤ w7.heap.size by have h9 := hgrow.size; simp only [World.size_alloc] at h9; omega) bB7)))))
        clear hown hgrow hlie hglt K7 R7 bP7 bS7 bB7
        go_wp2
        go_roundg (nx - (q + 1))
        case measure => omega
        case rel => exact ⟨q + 1, m', rs ++ [(⟨r0, r1, r2, r3, r4, ⟨r5, r6, r7, r8, r9', r10⟩⟩ : Rep)], _, _, cur2, by omega, by omega, by go_num, HRUN2.out, by rw [List.length_append, List.length_singleton], H7.out.2.1, H7.out.2.2.1, H7.out.2.2.2.1, HSR.out, H7.out.2.2.2.2.2, H7.out.2.2.2.2.1, H7.out.1⟩
      ·have hby := HBY0.out.2 hae
       have g1 : (ae == 0) = false := by simpa using hae
       have HSR := hYd (show SrcAt cur m'.by_ by rw [hby]; exact HSRC.out)
       have HBL := hYd (show m'.by_.length = n by rw [hby]; exact HBYL.out)
       clear hby HBY0
       go_wp2_with fail
       refine (pmerge_any (gs + 1) gs n cur m'.by_ mx my me m'.own _ bn1 bn1 (by omega) HBL.out (by omega) HSR.out HMG.out HOWN.out).mono ?_
       rintro e v2 ⟨rfl, bP9, hq0⟩
       have hq : Past [gs + 1, gs] _ _ := Past.more (by simp) hq0
       have Kv2 : Past [gs + 1, gs] wr v2 := Past.trans pa1 hq
       have Zv2 : v1.heap.size ≤ v2.heap.size := Nat.le_trans (by first | exact Nat.le_refl _ | omega | (simp <;> omega)) hq.1
       have bP' := bP9
       have bS' : Blk v2 (gs) 104 cur := hq0.blk (bn1) (by simp <;> omega)
       have bB' : Blk v2 (w.heap.size) 54 #[.int .i64 sta, .int .i64 loc, .int .i64 p, .int .i64 li, .int .i64 ai, .slice A n c, .slice (some ⟨bk9, off9, none⟩) nx sc] := hq0.blk (bn1) (by simp <;> omega)
       have bX' : Blk v2 (wr.heap.size) 57 #[.int .i64 src, .int .i64 tr, .int .i64 lo, .int .i64 ou, .int .i64 ol, .int .i64 ho, .int .i64 hl, .int .i64 ba, .int .i64 bl9, .int .i64 w2', .int .i64 w3'] := hq0.blk (bn1) (by simp <;> omega)
       have bN' : Blk v2 (gN) 29 #[.int .i64 a0, .int .i64 a1] := hq0.blk (bn1) (by simp <;> omega)
       clear hq Kv1
       clear bP cP fP lP eP kP; have bP := bP'; clear bP'
       clear bS cS fS lS eS kS; have bS := bS'; clear bS'
       clear bB cB fB lB eB kB; have bB := bB'; clear bB'
       clear bX cX fX lX eX kX; have bX := bX'; clear bX'
       clear bN cN fN lN eN kN; have bN := bN'; clear bN'
       obtain ⟨cP, fP, lP, eP, kP⟩ := Blk.facts bP
       obtain ⟨cS, fS, lS, eS, kS⟩ := Blk.facts bS
       obtain ⟨cB, fB, lB, eB, kB⟩ := Blk.facts bB
       obtain ⟨cX, fX, lX, eX, kX⟩ := Blk.facts bX
       obtain ⟨cN, fN, lN, eN, kN⟩ := Blk.facts bN
       clear bP9 hq0
       go_wp2_with fail
       refine (report_any (gs + 1) m'.ck r9 _ bn1 HCK.out HRP.out).mono ?_
       rintro e v3 ⟨rfl, bP9, hq0⟩
       have hq : Past [gs + 1, gs] _ _ := Past.more (by simp) hq0
       clear HOWN HCK HRP HMG
       obtain ⟨r0, r1, r2, r3, r4, ⟨r5, r6, r7, r8, r9', r10⟩⟩ := r9
       simp only [Rep.cs, Clk.cs, List.cons_append, List.nil_append]
       have Kv3 : Past [gs + 1, gs] wr v3 := Past.trans pa1 hq
       have Zv3 : v2.heap.size ≤ v3.heap.size := Nat.le_trans (by first | exact Nat.le_refl _ | omega | (simp <;> omega)) hq.1
       have bP' := bP9
       have bS' : Blk v3 (gs) 104 cur := hq0.blk (bn1) (by simp <;> omega)
       have bB' : Blk v3 (w.heap.size) 54 #[.int .i64 sta, .int .i64 loc, .int .i64 p, .int .i64 li, .int .i64 ai, .slice A n c, .slice (some ⟨bk9, off9, none⟩) nx sc] := hq0.blk (bn1) (by simp <;> omega)
       have bX' : Blk v3 (wr.heap.size) 57 #[.int .i64 src, .int .i64 tr, .int .i64 lo, .int .i64 ou, .int .i64 ol, .int .i64 ho, .int .i64 hl, .int .i64 ba, .int .i64 bl9, .int .i64 w2', .int .i64 w3'] := hq0.blk (bn1) (by simp <;> omega)
       have bN' : Blk v3 (gN) 29 #[.int .i64 a0, .int .i64 a1] := hq0.blk (bn1) (by simp <;> omega)
       clear hq Kv2
       clear bP cP fP lP eP kP; have bP := bP'; clear bP'
       clear bS cS fS lS eS kS; have bS := bS'; clear bS'
       clear bB cB fB lB eB kB; have bB := bB'; clear bB'
       clear bX cX fX lX eX kX; have bX := bX'; clear bX'
       clear bN cN fN lN eN kN; have bN := bN'; clear bN'
       obtain ⟨cP, fP, lP, eP, kP⟩ := Blk.facts bP
       obtain ⟨cS, fS, lS, eS, kS⟩ := Blk.facts bS
       obtain ⟨cB, fB, lB, eB, kB⟩ := Blk.facts bB
       obtain ⟨cX, fX, lX, eX, kX⟩ := Blk.facts bX
       obtain ⟨cN, fN, lN, eN, kN⟩ := Blk.facts bN
       clear bP9 hq0
       obtain ⟨i0, hif, hz0, hz1, hz2⟩ := info_parts infoRep
       have hrl64 : rs.length ≤ 64 := by have h9 := (RunN.len HRUN.out).1; omega
       have HROW2 := hYd (HROW.out.past Kv3 (show ∀ k ∈ ([gs + 1, gs] : List Nat), k < w2.heap.size by intro k hk; simp at hk; omega))
       have KB9 : Below w.heap.size w v3 := Past.belowX HKR.out Kv3 (show ∀ k ∈ ([gs + 1, gs] : List Nat), w.heap.size ≤ k by intro k hk; simp at hk; omega)
       have HKB := hYd KB9; clear KB9
       generalize hv : (Value.slice A' rs.length c') = v9 at *
       have hrl2 := RowR.lt HROW2.out
       clear hv HROW hrl
       go_wp2_with (at_builtin; refine wpList_append_lies _ rfl _ _ 58 rfl w2.heap.size 64 i0 (.agg #[.int .i64 0, .int .i64 0, .bool false, .int .i64 0, .int .i64 0, .int .i64 0, .int .i64 0, .bool false, .bool false, .int .i64 0, .int .i64 0]) 11 80 Tryz.underlying58 hif hz0 hz1 hz2 rfl (by decide) v9 rs.length (rCells rs) rfl (RowR.below HROW2.out ((Below.refl _ _).alloc (Nat.le_refl _) _)) ⟨v3.heap.size, 0, none⟩ 1 1 [.int .i64 r0, .int .i64 r1, .bool r2, .int .i64 r3, .int .i64 r4, .int .i64 r5, .int .i64 r6, .bool r7, .bool r8, .int .i64 r9', .int .i64 r10] rfl rfl (World.news_of_block (t := 64) (fr := (0, 0)) (Blk.new _ _ _)) ?c2 (by decide) ?c3 ?c4 ?c5 _ rfl ?_)
       case c2 => first | exact ⟨rfl, rfl, rfl, rfl, rfl, rfl, rfl, rfl, rfl, rfl, rfl⟩ | (intro u hu; simp at hu; rcases hu with rfl | rfl | rfl | rfl | rfl | rfl | rfl | rfl | rfl | rfl | rfl <;> rfl)
       case c3 => unfold maxLen; omega
       case c4 => omega
       case c5 => first | omega | (simp <;> omega)
       intro g7 cp7 w7 hown hgrow hlie hglt
       have K7 : Below w.heap.size w w7 := (HKB.out.alloc (Below.size HKB.out) _).grown hgrow (by simp; omega) (fun k hk => by have := hrl2 k hk; omega)
       have R7 : RowR w7 w2.heap.size (.slice (some ⟨g7, 0, none⟩) (rs ++ [(⟨r0, r1, r2, r3, r4, ⟨r5, r6, r7, r8, r9', r10⟩⟩ : Rep)]).length cp7) (rs ++ [(⟨r0, r1, r2, r3, r4, ⟨r5, r6, r7, r8, r9', r10⟩⟩ : Rep)]) := by
        unfold RowR
        rw [List.length_append, List.length_singleton, rCells_snoc]; exact hown
       have bP7 : Blk w7 (gs + 1) 106 #[.int .i64 sta, .int .i64 loc, .int .i64 p, .int .i64 li, .int .i64 ai, .slice A n c, .slice (some ⟨bk9, off9, none⟩) nx sc, .int .i64 m'.t, .int .i64 m'.u, .slice (some ⟨gs, 0, none⟩) n n, .bool m'.own.1, .int .i64 m'.own.2.at_, .int .i64 m'.own.2.lo, .int .i64 m'.own.2.hi, .int .i64 m'.own.2.pp, .int .i64 m'.own.2.le, .int .i64 m'.own.2.re, .int .i64 m'.ck.aim, .int .i64 m'.ck.rate, .bool m'.ck.set, .bool m'.ck.held, .int .i64 m'.ck.at_, .int .i64 m'.ck.shown] := (hgrow.block _ (by simp; omega) (fun e => by have h9 := hrl2 _ e.symm; omega)).trans (bP.alloc _)
       have bS7 : Blk w7 (gs) 104 cur := (hgrow.block _ (by simp; omega) (fun e => by have h9 := hrl2 _ e.symm; omega)).trans (bS.alloc _)
       have bB7 : Blk w7 (w.heap.size) 54 #[.int .i64 sta, .int .i64 loc, .int .i64 p, .int .i64 li, .int .i64 ai, .slice A n c, .slice (some ⟨bk9, off9, none⟩) nx sc] := (hgrow.block _ (by simp; omega) (fun e => by have h9 := hrl2 _ e.symm; omega)).trans (bB.alloc _)
       have H7 := hYd (And.intro K7 (And.intro R7 (And.intro bP7 (And.intro bS7 (And.intro (show w2.heap.size ≤ w7.heap.size by have h9 := hgrow.size; simp only [World.size_alloc] at h9; omega) bB7)))))
       clear hown hgrow hlie hglt K7 R7 bP7 bS7 bB7
       go_wp2
       go_roundg (nx - (q + 1))
       case measure => omega
       case rel => exact ⟨q + 1, m', rs ++ [(⟨r0, r1, r2, r3, r4, ⟨r5, r6, r7, r8, r9', r10⟩⟩ : Rep)], _, _, cur, by omega, by omega, by go_num, HRUN2.out, by rw [List.length_append, List.length_singleton], H7.out.2.1, H7.out.2.2.1, H7.out.2.2.2.1, HSR.out, H7.out.2.2.2.2.2, H7.out.2.2.2.2.1, H7.out.1⟩
    ·obtain rfl : q = nx := by omega
     have gq : decide ((q : Int) < (q : Int)) = false := decide_eq_false (by omega)
     have gqn : decide (q < q) = false := decide_eq_false (by omega)
     have cB := bB.cell; have lB := bB.lt
     go_wp2
     refine bodyPost_ret (v := .tuple #[.slice A' rs.length c', .int .i64 0]) (by simp [results, Tryz.results24, go_sem, *]) rfl ?_
     refine ⟨fun h => absurd HER.out h, fun _ => ⟨m, rs, A', c', by show RunN _ xs.length m rs; rw [← HX.out]; exact HRUN.out, rfl, ?_⟩, KR⟩
     exact HROW.out.weaken (by omega)
 ·have e1 : (er == 0) = false := by simpa using he0
  have e2 : (er != 0) = true := by simpa using he0
  go_enter Tryz.func24, Tryz.ntmps24
  go_wp2_with fail
  refine (RC.out _ (HH.out.below bl0)).mono ?_
  rintro e v1 ⟨rfl, hb⟩
  have hq : Past [] _ v1 := Past.below hb
  clear hb
  have Kv1 : Past [] w v1 := Past.trans pa1 hq
  have Zv1 : w.heap.size ≤ v1.heap.size := Nat.le_trans (by first | exact Nat.le_refl _ | omega | (simp <;> omega)) hq.1
  have bB' : Blk v1 (w.heap.size) 54 #[.int .i64 sta, .int .i64 loc, .int .i64 p, .int .i64 li, .int .i64 ai, .slice A n c, .slice SA nx sc] := hq.blk (bn0) (by simp <;> omega)
  clear hq
  have bB := bB'; clear bB'
  obtain ⟨cB, fB, lB, eB, kB⟩ := Blk.facts bB
  have oB := lB
  go_wp2
  refine bodyPost_ret (v := .tuple #[.slice none 0 0, .int .i64 er]) (by simp [results, Tryz.results24, go_sem, *]) rfl ?_
  exact ⟨fun _ => by rw [HER.out], fun h => absurd (HER.out.symm.trans h) he0, Past.toBelow pa1⟩
end Go.Proofs.YtlnboheahbfgfaaGreat
