/- The reference's simulate: Run. -/
import Derived.Test.YtlnboheahbfgfaaGreatR41L
import Derived.Test.YtlnboheahbfgfaaGreatJ47
import Derived.Test.YtlnboheahbfgfaaGreatSim6
namespace Go.Proofs.YtlnboheahbfgfaaGreat
open Go.RowKit Go.Shelf Go.Sort
set_option linter.unusedSimpArgs false
set_option linter.unusedVariables false

theorem infoBl : (Tryz.prog.info? 4).map (fun i => (i.zero, i.size, i.bytes)) = some (some (.bool false), 1, 1) := by kernel_rfl
theorem Blk.ne_type {w : World} {g g' : Nat} {t t' : TypeId} {cs cs' : Array Value} (h : Blk w g t cs) (h' : Blk w g' t' cs') (ht : t ≠ t') : g ≠ g' := by
 intro e; subst e
 unfold Blk at h h'
 rw [h] at h'; injection h' with h'; injection h' with _ h' _; exact ht h'
def MdF (b : Nat) (t : TypeId) (cs : Array Value) (n : Nat) (d : Bool) (v : Value) (w : World) : Prop := d = true → ∃ g, v = .slice (some ⟨g, 0, none⟩) n n ∧ b ≤ g ∧ Blk w g t cs
theorem MdF.start {b : Nat} {t : TypeId} {cs : Array Value} {n : Nat} {v : Value} {w : World} : MdF b t cs n false v w := fun h => by cases h
theorem MdF.alloc {b : Nat} {t : TypeId} {cs : Array Value} {n : Nat} {d : Bool} {v : Value} {w : World} (h : MdF b t cs n d v w) (o : Obj) : MdF b t cs n d v (w.alloc o) := fun hd => by
 obtain ⟨g, e, hb, hB⟩ := h hd; exact ⟨g, e, hb, hB.alloc _⟩
theorem MdF.new {b : Nat} {t : TypeId} {cs : Array Value} {n : Nat} {w : World} (hb : b ≤ w.heap.size) : MdF b t cs n true (.slice (some ⟨w.heap.size, 0, none⟩) n n) (w.alloc (.cells cs t)) := fun _ => ⟨_, rfl, hb, Blk.new _ _ _⟩
theorem by_made (n : Nat) : ByAt (madeCells #[.bool false] n) (madeCells #[.int .i64 0, .int .i64 0, .int .i64 0, .int .i64 0, .int .i64 0, .int .i64 0] (n * 6)) (List.replicate n (false, .zero)) := by
 refine ⟨by simp [madeCells], by simp [madeCells], fun j hj => ?_⟩
 rw [List.length_replicate] at hj
 have e : (List.replicate n ((false, K6.zero) : Kw)).getD j (false, .zero) = (false, .zero) := by
  rw [List.getD_eq_getElem?_getD, List.getElem?_replicate, if_pos hj]; rfl
 rw [e]
 refine ⟨?_, fun i hi => ?_⟩
 ·rw [Array.getElem?_eq_getElem (by simp [madeCells]; omega)]; simp only [madeCells, Array.getElem_map, Array.getElem_range]; simp [Nat.mod_one]
 ·have hm : (j * 6 + i) % 6 = i := by omega
  obtain rfl | rfl | rfl | rfl | rfl | rfl : i = 0 ∨ i = 1 ∨ i = 2 ∨ i = 3 ∨ i = 4 ∨ i = 5 := by omega
  all_goals (rw [Array.getElem?_eq_getElem (by simp [madeCells]; omega)]; simp only [madeCells, Array.getElem_map, Array.getElem_range]; simp only [List.size_toArray, List.length_cons, List.length_nil, Nat.reduceAdd, hm]; rfl)
def RSRel (w : World) (s : Sch) (A SA : Option Addr) (n nx c sc gm gs gb gc B : Nat) (sta loc p li ai : Int) (G : Nat) (tv uv v i : Value) (wr : World) : Prop := ∃ (q : Nat) (m : Sim) (rs : List Rep) (A' : Option Addr) (c' : Nat) (cs cb : Array Value), q ≤ nx ∧ G = nx - q ∧ i = .int .i64 q ∧ RunN s q m rs ∧ tv = .int .i64 m.t ∧ uv = .int .i64 m.u ∧ v = .slice A' rs.length c' ∧ RowR wr B (.slice A' rs.length c') rs ∧ Blk wr gm 116 #[.slice (some ⟨gs, 0, none⟩) n n, .slice (some ⟨gb, 0, none⟩) n n, .bool m.own.1, .int .i64 m.own.2.at_, .int .i64 m.own.2.lo, .int .i64 m.own.2.hi, .int .i64 m.own.2.pp, .int .i64 m.own.2.le, .int .i64 m.own.2.re] ∧ Blk wr gs 4 cs ∧ Blk wr gb 43 cb ∧ ByAt cs cb m.by_ ∧ Blk wr gc 62 #[.int .i64 m.ck.aim, .int .i64 m.ck.rate, .bool m.ck.set, .bool m.ck.held, .int .i64 m.ck.at_, .int .i64 m.ck.shown] ∧ Blk wr w.heap.size 54 #[.int .i64 sta, .int .i64 loc, .int .i64 p, .int .i64 li, .int .i64 ai, .slice A n c, .slice SA nx sc] ∧ B ≤ wr.heap.size ∧ Below w.heap.size w wr
set_option maxRecDepth 100000 in
set_option maxHeartbeats 8000000 in
theorem rrun_any (s : Sch) (A SA : Option Addr) (c sc : Nat) (w : World) (h : SchAt w s A SA) :
  Calls Tryz.prog 31 #[.agg #[.int .i64 s.sta, .int .i64 s.loc, .int .i64 s.p, .int .i64 s.li, .int .i64 s.ai, .slice A s.es.length c, .slice SA s.xs.length sc]] w (RunR w s) := by
 have HH := hYd h
 have RC := hYd (fun W h => rcheck_any s A SA c sc W h)
 clear h
 obtain ⟨sta, loc, p, li, ai, es, xs⟩ := s
 dsimp only at RC ⊢
 obtain ⟨n, hn⟩ : ∃ n, n = es.length := ⟨_, rfl⟩
 obtain ⟨nx, hnx⟩ : ∃ n, n = xs.length := ⟨_, rfl⟩
 obtain ⟨er, her⟩ : ∃ er, chkE ⟨sta, loc, p, li, ai, es, xs⟩ = er := ⟨_, rfl⟩
 simp only [← hn, ← hnx, her] at RC ⊢
 have HN := hYd hn; have HX := hYd hnx; have HER := hYd her; clear hn hnx her
 by_cases he0 : er = 0
 rotate_left
 ·have e1 : (er == 0) = false := by simpa using he0
  have e2 : (er != 0) = true := by simpa using he0
  go_enter Tryz.func31, Tryz.ntmps31
  go_wp2_with fail
  refine (RC.out _ (HH.out.below bl0)).mono ?_
  rintro e v1 ⟨rfl, hb⟩
  have hq : Past [] _ v1 := Past.below hb
  have hq0 : Past [] _ v1 := Past.below hb
  clear hb
  have Kv1 : Past [] w v1 := Past.trans pa1 hq
  have Zv1 : w.heap.size ≤ v1.heap.size := Nat.le_trans (by first | exact Nat.le_refl _ | omega | (simp <;> omega)) hq.1
  have bB' : Blk v1 (w.heap.size) 54 #[.int .i64 sta, .int .i64 loc, .int .i64 p, .int .i64 li, .int .i64 ai, .slice A n c, .slice SA nx sc] := hq0.blk (bn0) (by simp <;> omega)
  clear hq
  have bB := bB'; clear bB'
  obtain ⟨cB, fB, lB, eB, kB⟩ := Blk.facts bB
  have oB := lB
  clear hq0
  go_wp2
  refine bodyPost_ret (v := .tuple #[.slice none 0 0, .int .i64 er]) (by simp [results, Tryz.results31, go_sem, *]) rfl ?_
  exact ⟨fun _ => by rw [HER.out], fun h => absurd (HER.out.symm.trans h) he0, Past.toBelow pa1⟩
 subst he0
 go_enter Tryz.func31, Tryz.ntmps31
 go_wp2_with fail
 refine (RC.out _ (HH.out.below bl0)).mono ?_
 rintro e v1 ⟨rfl, hb⟩
 have hq : Past [] _ v1 := Past.below hb
 have hq0 : Past [] _ v1 := Past.below hb
 clear hb
 have Kv1 : Past [] w v1 := Past.trans pa1 hq
 have Zv1 : w.heap.size ≤ v1.heap.size := Nat.le_trans (by first | exact Nat.le_refl _ | omega | (simp <;> omega)) hq.1
 have bB' : Blk v1 (w.heap.size) 54 #[.int .i64 sta, .int .i64 loc, .int .i64 p, .int .i64 li, .int .i64 ai, .slice A n c, .slice SA nx sc] := hq0.blk (bn0) (by simp <;> omega)
 clear hq
 have bB := bB'; clear bB'
 obtain ⟨cB, fB, lB, eB, kB⟩ := Blk.facts bB
 have oB := lB
 clear hq0
 clear RC
 have hn8 : n ≤ 8 := by have := (chkE_0 HER.out).2.1; rw [HN.out]; exact this
 obtain ⟨i0, hif, hz0, hz1, hz2⟩ := info_parts infoBl
 obtain ⟨j0, hjf, hj0, hj1, hj2⟩ := info_parts infoKn
 go_upto_region 4 with fail
 refine' wp_region_calmD (by kernel_rfl) (fun D u9 w' => Past [] v1 w' ∧ Blk w' w.heap.size 54 #[.int .i64 sta, .int .i64 loc, .int .i64 p, .int .i64 li, .int .i64 ai, .slice A n c, .slice SA nx sc] ∧ MdF v1.heap.size 4 (madeCells #[.bool false] n) n (D 3) (u9 3) w' ∧ MdF v1.heap.size 43 (madeCells #[.int .i64 0, .int .i64 0, .int .i64 0, .int .i64 0, .int .i64 0, .int .i64 0] (n * 6)) n (D 7) (u9 7) w' ∧ (D 8 = true → u9 8 = .agg #[u9 3, u9 7, .bool false, .int .i64 0, .int .i64 0, .int .i64 0, .int .i64 0, .int .i64 0, .int .i64 0]) ∧ (D 9 = true → ∃ g, u9 9 = .pointer (some ⟨g, 0, none⟩) ∧ v1.heap.size ≤ g ∧ Blk w' g 116 #[u9 3, u9 7, .bool false, .int .i64 0, .int .i64 0, .int .i64 0, .int .i64 0, .int .i64 0, .int .i64 0]) ∧ (D 10 = true → u9 10 = u9 9)) (fun _ _ => True) [(Is _), (Is _), (Is _), (fun _ _ _ => True), (Is _), (Is _), (Is _), (fun _ _ _ => True), (fun _ _ _ => True), (fun _ _ _ => True), (fun _ _ _ => True)] [[], [0], [1], [2], [], [4], [5], [6], [3, 7], [8], [9]] rfl (calmB_of (by kernel_rfl)) (fun u => by (simp only [calmPut, Act.put, lst, ls0, ls1, Nat.zero_add, Nat.reduceAdd]; rfl)) ?_ (kcc keep_is' (kcc keep_is' (kcc keep_is' (kcc keep_triv (kcc keep_is' (kcc keep_is' (kcc keep_is' (kcc keep_triv (kcc keep_triv (kcc keep_triv (kcc keep_triv (calmKeep_nil)))))))))))) ?_ ?_
 ·exact ⟨(Past.refl _ _).drew, bB, MdF.start, MdF.start, (fun h => by cases h), (fun h => by cases h), (fun h => by cases h)⟩
 rotate_left 6
 ·skip
  refine dc0 (fun uu wq D hC K hK => ?_) ?_
  ·obtain ⟨hP, mB, m3, m7, x8, x9, x10⟩ := hC
   go_simp
   exact hK _ _ _ rfl ⟨hP, mB, m3, m7, x8, x9, x10⟩ trivial rfl
  refine dc1 (fun uu wq D hC hk K hK => ?_) ?_
  ·obtain ⟨hP, mB, m3, m7, x8, x9, x10⟩ := hC
   simp only [calmKnown, lg0, lg1, and_true, Is] at hk
   have h0 := hk; clear hk
   simp only [h0] at hK ⊢
   have H0 := hYd h0; clear h0
   have cB := mB.cell; have lB := mB.lt
   go_simp
   exact hK _ _ _ rfl ⟨hP, mB, m3, m7, x8, x9, x10⟩ trivial rfl
  refine dc1 (fun uu wq D hC hk K hK => ?_) ?_
  ·obtain ⟨hP, mB, m3, m7, x8, x9, x10⟩ := hC
   simp only [calmKnown, lg0, lg1, and_true, Is] at hk
   have h1 := hk; clear hk
   simp only [h1] at hK ⊢
   have H1 := hYd h1; clear h1
   go_simp
   exact hK _ _ _ rfl ⟨hP, mB, m3, m7, x8, x9, x10⟩ trivial rfl
  refine dc2 (fun uu wq D hd hn hn2 hC hk K hK => ?_) ?_
  ·obtain ⟨hP, mB, m3, m7, x8, x9, x10⟩ := hC
   simp only [calmKnown, lg0, lg1, and_true, Is] at hk
   have h2 := hk; clear hk
   simp only [h2] at hK ⊢
   have H2 := hYd h2; clear h2
   have hmk := run_makeSlice (P := Tryz.prog) (w := wq) 113 4 i0 _ Tryz.underlying113 hif hz0 .i64 .i64 (n : Int) (n : Int) (by omega) (Int.le_refl _) (by rw [hz1]; simp only [Int.toNat_natCast]; omega) (by rw [hz2]; omega) (by omega)
   simp only [Int.toNat_natCast, hz1] at hmk
   have hsz := hP.1
   go_simp
   exact hK _ _ _ rfl ⟨hP.allocs _, mB.alloc _, MdF.new hsz, m7.alloc _, (fun h => absurd (h.symm.trans (hn.out 8 (calmReach_of (by decide) (by kernel_rfl)))) (by decide)), (fun h => absurd (h.symm.trans (hn.out 9 (calmReach_of (by decide) (by kernel_rfl)))) (by decide)), (fun h => absurd (h.symm.trans (hn.out 10 (calmReach_of (by decide) (by kernel_rfl)))) (by decide))⟩ trivial trivial
  refine dc0 (fun uu wq D hC K hK => ?_) ?_
  ·obtain ⟨hP, mB, m3, m7, x8, x9, x10⟩ := hC
   go_simp
   exact hK _ _ _ rfl ⟨hP, mB, m3, m7, x8, x9, x10⟩ trivial rfl
  refine dc1 (fun uu wq D hC hk K hK => ?_) ?_
  ·obtain ⟨hP, mB, m3, m7, x8, x9, x10⟩ := hC
   simp only [calmKnown, lg0, lg1, and_true, Is] at hk
   have h4 := hk; clear hk
   simp only [h4] at hK ⊢
   have H4 := hYd h4; clear h4
   have cB := mB.cell; have lB := mB.lt
   go_simp
   exact hK _ _ _ rfl ⟨hP, mB, m3, m7, x8, x9, x10⟩ trivial rfl
  refine dc1 (fun uu wq D hC hk K hK => ?_) ?_
  ·obtain ⟨hP, mB, m3, m7, x8, x9, x10⟩ := hC
   simp only [calmKnown, lg0, lg1, and_true, Is] at hk
   have h5 := hk; clear hk
   simp only [h5] at hK ⊢
   have H5 := hYd h5; clear h5
   go_simp
   exact hK _ _ _ rfl ⟨hP, mB, m3, m7, x8, x9, x10⟩ trivial rfl
  refine dc2 (fun uu wq D hd hn hn2 hC hk K hK => ?_) ?_
  ·obtain ⟨hP, mB, m3, m7, x8, x9, x10⟩ := hC
   simp only [calmKnown, lg0, lg1, and_true, Is] at hk
   have h6 := hk; clear hk
   simp only [h6] at hK ⊢
   have H6 := hYd h6; clear h6
   have hmk := run_makeSlice (P := Tryz.prog) (w := wq) 114 43 j0 _ Tryz.underlying114 hjf hj0 .i64 .i64 (n : Int) (n : Int) (by omega) (Int.le_refl _) (by rw [hj1]; simp only [Int.toNat_natCast]; omega) (by rw [hj2]; omega) (by omega)
   simp only [Int.toNat_natCast, hj1] at hmk
   have hsz := hP.1
   go_simp
   exact hK _ _ _ rfl ⟨hP.allocs _, mB.alloc _, m3.alloc _, MdF.new hsz, (fun h => absurd (h.symm.trans (hn.out 8 (calmReach_of (by decide) (by kernel_rfl)))) (by decide)), (fun h => absurd (h.symm.trans (hn.out 9 (calmReach_of (by decide) (by kernel_rfl)))) (by decide)), (fun h => absurd (h.symm.trans (hn.out 10 (calmReach_of (by decide) (by kernel_rfl)))) (by decide))⟩ trivial trivial
  refine dc2 (fun uu wq D hd hn hn2 hC hk K hK => ?_) ?_
  ·obtain ⟨hP, mB, m3, m7, x8, x9, x10⟩ := hC
   simp only [calmKnown, lg0, lg1, and_true, Is] at hk
   obtain ⟨-, -⟩ := hk
   obtain ⟨g3, e3, -, -⟩ := m3 (hn2.out 3 (calmReach_of (by decide) (by kernel_rfl)))
   obtain ⟨g7, e7, -, -⟩ := m7 (hn2.out 7 (calmReach_of (by decide) (by kernel_rfl)))
   simp only [e3, e7] at hK ⊢
   go_simp
   exact hK _ _ _ rfl ⟨hP, mB, m3, m7, (fun _ => by show Value.agg _ = Value.agg #[uu 3, uu 7, .bool false, .int .i64 0, .int .i64 0, .int .i64 0, .int .i64 0, .int .i64 0, .int .i64 0]; rw [e3, e7]), (fun h => absurd (h.symm.trans (hn.out 9 (calmReach_of (by decide) (by kernel_rfl)))) (by decide)), (fun h => absurd (h.symm.trans (hn.out 10 (calmReach_of (by decide) (by kernel_rfl)))) (by decide))⟩ trivial trivial
  refine dc2 (fun uu wq D hd hn hn2 hC hk K hK => ?_) ?_
  ·obtain ⟨hP, mB, m3, m7, x8, x9, x10⟩ := hC
   simp only [calmKnown, lg0, lg1, and_true, Is] at hk
   clear hk
   obtain ⟨g3, e3, -, -⟩ := m3 (hn2.out 3 (calmReach_of (by decide) (by kernel_rfl)))
   obtain ⟨g7, e7, -, -⟩ := m7 (hn2.out 7 (calmReach_of (by decide) (by kernel_rfl)))
   have e8 := x8 (hn2.out 8 (calmReach_of (by decide) (by kernel_rfl)))
   have hsz := hP.1
   have e8' := e8
   rw [e3, e7] at e8'
   simp only [e8', e3, e7] at hK ⊢
   go_simp
   exact hK _ _ _ rfl ⟨hP.allocs _, mB.alloc _, m3.alloc _, m7.alloc _, x8, (fun _ => ⟨_, rfl, hsz, by show Blk _ _ _ #[uu 3, uu 7, .bool false, .int .i64 0, .int .i64 0, .int .i64 0, .int .i64 0, .int .i64 0, .int .i64 0]; rw [e3, e7]; exact Blk.new _ _ _⟩), (fun h => absurd (h.symm.trans (hn.out 10 (calmReach_of (by decide) (by kernel_rfl)))) (by decide))⟩ trivial trivial
  refine dc2 (fun uu wq D hd hn hn2 hC hk K hK => ?_) ?_
  ·obtain ⟨hP, mB, m3, m7, x8, x9, x10⟩ := hC
   simp only [calmKnown, lg0, lg1, and_true, Is] at hk
   clear hk
   obtain ⟨g9, e9, -, -⟩ := x9 (hn2.out 9 (calmReach_of (by decide) (by kernel_rfl)))
   simp only [e9] at hK ⊢
   go_simp
   exact hK _ _ _ rfl ⟨hP, mB, m3, m7, x8, x9, (fun _ => by show Value.pointer _ = uu 9; rw [e9])⟩ trivial trivial
  exact dSteps_nil
 ·intro uu w2 D hD hC hF
  obtain ⟨hP, mB, m3, m7, x8, x9, x10⟩ := hC
  simp only [calmFacts, Is, and_true, true_and] at hF
  obtain ⟨f0, f1, f2, f4, f5, f6⟩ := hF
  simp only [f0, f1, f2, f4, f5, f6]
  obtain ⟨gs, e3, hgs, bS⟩ := m3 (hD 3 (by decide))
  obtain ⟨gb, e7, hgb, bK⟩ := m7 (hD 7 (by decide))
  obtain ⟨gm, e9, hgm, bM⟩ := x9 (hD 9 (by decide))
  have e8 := x8 (hD 8 (by decide))
  have e10 := (x10 (hD 10 (by decide))).trans e9
  rw [e3, e7] at bM e8
  simp only [e3, e7, e8, e9, e10]
  have KW2 : Below w.heap.size w w2 := Past.toBelow (Past.trans Kv1 hP)
  have Zb : w.heap.size < v1.heap.size := lB
  have bB2 := mB
  clear m3 m7 x8 x9 x10 e3 e7 e8 e9 e10 hP mB hD bB cB fB lB eB kB Kv1 hif hz0 hz1 hz2 hjf hj0 hj1 hj2
  have n1 : gm ≠ gs := Blk.ne_type bM bS (by decide)
  have n2 : gm ≠ gb := Blk.ne_type bM bK (by decide)
  have n3 : gs ≠ gb := Blk.ne_type bS bK (by decide)
  have lM := bM.lt; have lS := bS.lt; have lK := bK.lt; have lB2 := bB2.lt; have cB2 := bB2.cell
  go_upto_region 6 with fail
  obtain ⟨wA, hwA⟩ : ∃ x : World, x = w2.alloc (.cells #[.int .i64 ai, .int .i64 1000000, .bool false, .bool false, .int .i64 0, .int .i64 0] 62) := ⟨_, rfl⟩
  have SA1 : Below w2.heap.size w2 wA := by rw [hwA]; exact (Below.refl _ _).alloc (Nat.le_refl _) _
  have bC : Blk wA w2.heap.size 62 #[.int .i64 ai, .int .i64 1000000, .bool false, .bool false, .int .i64 0, .int .i64 0] := by rw [hwA]; exact Blk.new _ _ _
  have ZA : w2.heap.size + 1 ≤ wA.heap.size := by rw [hwA]; simp
  rw [← hwA]
  have bM' := bM.below SA1; have bS' := bS.below SA1; have bK' := bK.below SA1; have bB' := bB2.below SA1
  have KA := kept_call SA1 KW2
  clear hwA bM bS bK bB2 cB2 SA1 KW2
  refine' wp_region_calmD (by kernel_rfl) (fun D u9 w' => w' = wA.drew ∧ True) (fun _ _ => True) [(Is _), (Is _), (Is _), (Is _), (Is _), (Is _)] [[], [0], [], [2], [1], [3]] rfl (calmB_of (by kernel_rfl)) (fun u => by (simp only [calmPut, Act.put, lst, ls0, ls1, Nat.zero_add, Nat.reduceAdd]; rfl)) ?_ (kcc keep_is' (kcc keep_is' (kcc keep_is' (kcc keep_is' (kcc keep_is' (kcc keep_is' (calmKeep_nil))))))) ?_ ?_
  ·exact ⟨rfl, trivial⟩
  rotate_left 6
  ·skip
   refine dc0 (fun uu wq D hC K hK => ?_) ?_
   ·obtain ⟨rfl, hT9⟩ := hC
    go_simp
    exact hK _ _ _ rfl ⟨rfl, hT9⟩ trivial rfl
   refine dc1 (fun uu wq D hC hk K hK => ?_) ?_
   ·obtain ⟨rfl, hT9⟩ := hC
    simp only [calmKnown, lg0, lg1, and_true, Is] at hk
    have h0 := hk; clear hk
    simp only [h0] at hK ⊢
    have H0 := hYd h0; clear h0
    have bBd := bB'.drew; have cB := bBd.cell; have lB := bBd.lt
    go_simp
    exact hK _ _ _ rfl ⟨rfl, hT9⟩ trivial rfl
   refine dc0 (fun uu wq D hC K hK => ?_) ?_
   ·obtain ⟨rfl, hT9⟩ := hC
    go_simp
    exact hK _ _ _ rfl ⟨rfl, hT9⟩ trivial rfl
   refine dc1 (fun uu wq D hC hk K hK => ?_) ?_
   ·obtain ⟨rfl, hT9⟩ := hC
    simp only [calmKnown, lg0, lg1, and_true, Is] at hk
    have h2 := hk; clear hk
    simp only [h2] at hK ⊢
    have H2 := hYd h2; clear h2
    have bBd := bB'.drew; have cB := bBd.cell; have lB := bBd.lt
    go_simp
    exact hK _ _ _ rfl ⟨rfl, hT9⟩ trivial rfl
   refine dc1 (fun uu wq D hC hk K hK => ?_) ?_
   ·obtain ⟨rfl, hT9⟩ := hC
    simp only [calmKnown, lg0, lg1, and_true, Is] at hk
    have h1 := hk; clear hk
    simp only [h1] at hK ⊢
    have H1 := hYd h1; clear h1
    go_simp
    exact hK _ _ _ rfl ⟨rfl, hT9⟩ trivial rfl
   refine dc1 (fun uu wq D hC hk K hK => ?_) ?_
   ·obtain ⟨rfl, hT9⟩ := hC
    simp only [calmKnown, lg0, lg1, and_true, Is] at hk
    have h3 := hk; clear hk
    simp only [h3] at hK ⊢
    have H3 := hYd h3; clear h3
    go_simp
    exact hK _ _ _ rfl ⟨rfl, hT9⟩ trivial rfl
   exact dSteps_nil
  ·intro uu w3 D hD hC hF
   obtain ⟨rfl, hT9⟩ := hC
   simp only [calmFacts, Is, and_true, true_and] at hF
   obtain ⟨f0, f1, f2, f3, f4, f5⟩ := hF
   simp only [f0, f1, f2, f3, f4, f5]
   clear hD hT9
   have HS := hYd bS'.drew; have HM := hYd bM'.drew; have HKb := hYd bK'.drew; have HCk := hYd bC.drew; have HB := hYd bB'.drew; have HKv := hYd KA.drew
   clear bS' bM' bK' bC bB' KA
   have HQ : Hid (∀ q, q < nx → (xs.getD q .zero).rg n = true) := hYd (fun q hq => by have h9 := (chkE_0 HER.out).2.2.2.2 (xs.getD q .zero) (stp_get (s := ⟨sta, loc, p, li, ai, es, xs⟩) (by show q < xs.length; rw [← HX.out]; exact hq)); rw [HN.out]; exact (stpE_0 h9).1)
   have hx64 : nx ≤ 64 := by have := (chkE_0 HER.out).2.2.1; rw [HX.out]; exact this
   obtain ⟨gc, hgc⟩ : ∃ gc, w2.heap.size = gc := ⟨_, rfl⟩
   have hgc1 : w.heap.size < gc := by omega
   have hgs1 : gs < gc := by omega
   have hgb1 : gb < gc := by omega
   have hgm1 : gm < gc := by omega
   have hgcA : gc < wA.heap.size := by omega
   have hgs0 : w.heap.size < gs := by omega
   have hgb0 : w.heap.size < gb := by omega
   have hgm0 : w.heap.size < gm := by omega
   rw [hgc] at HCk ⊢
   have HGC := hYd hgc; clear hgc
   have cB := HB.out.cell; have lB := HB.out.lt
   go_wp2
   go_loopg [7, 8, 9, 10] nx (fun G tv uv v i wr => RSRel w ⟨sta, loc, p, li, ai, es, xs⟩ A SA n nx c sc gm gs gb gc wA.heap.size sta loc p li ai G tv uv v i wr)
   case atStart =>
    refine ⟨0, (⟨sta, loc, p, li, ai, es, xs⟩ : Sch).init, [], none, 0, _, _, by omega, by omega, rfl, ⟨rfl, rfl⟩, rfl, rfl, rfl, RowR.nil, HM.out, HS.out, HKb.out, ?_, HCk.out, HB.out, Nat.le_refl _, HKv.out⟩
    show ByAt _ _ (List.replicate es.length (false, K6.zero))
    rw [← HN.out]; exact by_made n
   case round =>
    obtain ⟨q, m, rs, A', c', cs, cb, hq, rfl, rfl, hrun, rfl, rfl, rfl, hrow, bM, bS, bK, hby0, bC, bB, hBw, KR⟩ := hrel
    have ZR := KR.size
    clear HS HM HKb HCk HB HKv cB lB
    have HRUN := hYd hrun; have HROW := hYd hrow; have HBY9 := hYd hby0; have HKR := hYd KR
    have hrl := hrow.lt
    clear hrun hrow hby0
    by_cases hlt : q < nx
    ·have gq : decide ((q : Int) < (nx : Int)) = true := decide_eq_true (by omega)
     have gqn : decide (q < nx) = true := decide_eq_true hlt
     have wq9 : IntKind.i64.wrap ((q : Int) + 1) = ((q + 1 : Nat) : Int) := by rw [IntWalk.i64_in _ (by omega)]; omega
     have hst9 : StpsAt wr SA xs.length xs := (HH.out.below KR).2
     obtain ⟨bk9, off9, rfl, lbk9, d0, d1, d2, d3, d4, d5, d6, d7, d8, d9, d10⟩ := hst9.cells (show q < xs.length by rw [← HX.out]; exact hlt)
     clear hst9
     have hrg := HQ.out q hlt
     obtain ⟨x, hx⟩ : ∃ x, xs.getD q .zero = x := ⟨_, rfl⟩
     rw [hx] at hrg
     simp only [hx] at d0 d1 d2 d3 d4 d5 d6 d7 d8 d9 d10
     obtain ⟨s0, s1, y0, y1, y2, y3, y4, y5, y6, y7, z2, z3⟩ := Stp.rg_all hrg
     obtain ⟨src, hsrc⟩ : ∃ src : Nat, x.src = src := ⟨x.src.toNat, by omega⟩
     obtain ⟨xs0, tr, lo, ou, ol, ho, hl, ba, bl9, w2', w3'⟩ := x
     dsimp only at hsrc s0 s1 y0 y1 y2 y3 y4 y5 y6 y7 z2 z3 d0 d1 d2 d3 d4 d5 d6 d7 d8 d9 d10
     subst hsrc
     clear hrg
     have hx' : xs.getD q .zero = (⟨(src : Int), tr, lo, ou, ol, ho, hl, ba, bl9, w2', w3'⟩ : Stp) := hx
     have HXQ := hYd hx'; clear hx hx'
     have hinv0 := RunN.inv HER.out (show q ≤ xs.length by rw [← HX.out]; omega) HRUN.out
     obtain ⟨i1, i2, i3, i4, i5, -⟩ := id hinv0
     obtain ⟨⟨a1, a2⟩, ⟨a3, a4⟩, -⟩ := Sch.rg_all (chkE_0 HER.out).2.2.2.1
     dsimp only at i1 i2 i3 i4 i5 a1 a2 a3 a4
     have hq64 : (q : Int) < 64 := by omega
     have hT : -576460752303423488 ≤ m.t ∧ m.t ≤ 576460752303423488 := by omega
     have hU : -576460752303423488 ≤ m.u ∧ m.u ≤ 576460752303423488 := by omega
     clear i1 i2 i3 i4 a1 a2 a3 a4 hq64
     have hsn : src < n := by omega
     have hbyl : m.by_.length = n := by rw [i5, HN.out]
     clear i5
     have HBYL := hYd hbyl; clear hbyl
     obtain ⟨a0, a1, ae, hask⟩ : ∃ a0 a1 ae, (⟨sta, loc, p, li, ai, es, xs⟩ : Sch).ask m (⟨(src : Int), tr, lo, ou, ol, ho, hl, ba, bl9, w2', w3'⟩ : Stp) = (a0, a1, ae) := ⟨_, _, _, rfl⟩
     obtain ⟨mx, my, me, hmg⟩ := MG_ex (knowns ((⟨sta, loc, p, li, ai, es, xs⟩ : Sch).hear m (⟨(src : Int), tr, lo, ou, ol, ho, hl, ba, bl9, w2', w3'⟩ : Stp))) (uAft m (⟨(src : Int), tr, lo, ou, ol, ho, hl, ba, bl9, w2', w3'⟩ : Stp)) li
     have hle := (hinv0.hear HER.out (show q < xs.length by rw [← HX.out]; exact hlt) HXQ.out).2.2.2.2.2.2
     have hlo := (hinv0.next HER.out (show q < xs.length by rw [← HX.out]; exact hlt) HXQ.out (a := (mx, my, me)) hmg).2.1
     rw [hask] at hle
     dsimp only [Int.toNat_natCast] at hle hlo
     clear hinv0
     obtain ⟨m', hm'⟩ : ∃ m', (⟨sta, loc, p, li, ai, es, xs⟩ : Sch).nxt m (⟨(src : Int), tr, lo, ou, ol, ho, hl, ba, bl9, w2', w3'⟩ : Stp) (mx, my, me) = m' := ⟨_, rfl⟩
     obtain ⟨r9, hr9⟩ : ∃ r, (⟨sta, loc, p, li, ai, es, xs⟩ : Sch).rep m (⟨(src : Int), tr, lo, ou, ol, ho, hl, ba, bl9, w2', w3'⟩ : Stp) (mx, my, me) = r := ⟨_, rfl⟩
     have ht' : m.t + tr + ou + ho + ba = m'.t := by rw [← hm']; rfl
     have hu' : m.u + lo + ol + hl + bl9 = m'.u := by rw [← hm']; rfl
     have hu2 : uAft m (⟨(src : Int), tr, lo, ou, ol, ho, hl, ba, bl9, w2', w3'⟩ : Stp) = m'.u := by rw [← hm']; rfl
     rw [hu2] at hle hlo
     clear hu2
     have hby' : (⟨sta, loc, p, li, ai, es, xs⟩ : Sch).hear m (⟨(src : Int), tr, lo, ou, ol, ho, hl, ba, bl9, w2', w3'⟩ : Stp) = m'.by_ := by rw [← hm']; rfl
     have hown' : m'.own = (if me = 0 then takeK (m.own.1, ⟨m.own.2.at_, m.own.2.lo, m.own.2.hi, m.own.2.pp, m.own.2.le, m.own.2.re⟩) m'.u mx my p else (m.own.1, ⟨m.own.2.at_, m.own.2.lo, m.own.2.hi, m.own.2.pp, m.own.2.le, m.own.2.re⟩)) := by rw [← hm']; rfl
     have hck' : m'.ck = ckOf (m'.own.1, ⟨m'.own.2.at_, m'.own.2.lo, m'.own.2.hi, m'.own.2.pp, m'.own.2.le, m'.own.2.re⟩) ⟨m.ck.aim, m.ck.rate, m.ck.set, m.ck.held, m.ck.at_, m.ck.shown⟩ m'.u := by rw [← hm']; rfl
     have hrp' : r9 = repOf (m'.own.1, ⟨m'.own.2.at_, m'.own.2.lo, m'.own.2.hi, m'.own.2.pp, m'.own.2.le, m'.own.2.re⟩) ⟨m.ck.aim, m.ck.rate, m.ck.set, m.ck.held, m.ck.at_, m.ck.shown⟩ m'.u m'.t := by rw [← hr9, ← hm']; rfl
     have hmg' : MG (knowns m'.by_) m'.u li mx my me := by rw [← hby', ← hu']; exact hmg
     have hrun' : RunN (⟨sta, loc, p, li, ai, es, xs⟩ : Sch) (q + 1) m' (rs ++ [r9]) := ⟨m, rs, (mx, my, me), HRUN.out, by show MG (knowns ((⟨sta, loc, p, li, ai, es, xs⟩ : Sch).hear m (xs.getD q .zero))) (uAft m (xs.getD q .zero)) li mx my me; rw [HXQ.out]; exact hmg, by show m' = (⟨sta, loc, p, li, ai, es, xs⟩ : Sch).nxt m (xs.getD q .zero) _; rw [HXQ.out]; exact hm'.symm, by show _ = rs ++ [(⟨sta, loc, p, li, ai, es, xs⟩ : Sch).rep m (xs.getD q .zero) _]; rw [HXQ.out, hr9]⟩
     have hbyq : m'.by_ = if ae = 0 then m.by_.set src (takeK (m.by_.getD src (false, .zero)) m'.u a0 a1 p) else m.by_ := by
      rw [← hby', ← hu']
      unfold Sch.hear
      rw [hask]
      rfl
     have HBYQ := hYd hbyq; have HOWN := hYd hown'; have HCK := hYd hck'; have HRP := hYd hrp'; have HMG := hYd hmg'; have HRUN2 := hYd hrun'; have HLE := hYd hle; have HLO := hYd hlo
     clear hbyq hby' hown' hck' hrp' hmg' hrun' hmg hm' hr9 hle hlo
     have wa1 : IntKind.i64.wrap (m.t + tr) = m.t + tr := IntWalk.i64_in _ (by omega)
     have wb1 : IntKind.i64.wrap (m.u + lo) = m.u + lo := IntWalk.i64_in _ (by omega)
     have wa2 : IntKind.i64.wrap (m.t + tr + ou) = m.t + tr + ou := IntWalk.i64_in _ (by omega)
     have wb2 : IntKind.i64.wrap (m.u + lo + ol) = m.u + lo + ol := IntWalk.i64_in _ (by omega)
     have wv2 : IntKind.i64.wrap (m.t + tr + ou + w2') = m.t + tr + ou + w2' := IntWalk.i64_in _ (by omega)
     have wa3 : IntKind.i64.wrap (m.t + tr + ou + ho) = m.t + tr + ou + ho := IntWalk.i64_in _ (by omega)
     have wb3 : IntKind.i64.wrap (m.u + lo + ol + hl) = m.u + lo + ol + hl := IntWalk.i64_in _ (by omega)
     have wv3 : IntKind.i64.wrap (m.t + tr + ou + ho + w3') = m.t + tr + ou + ho + w3' := IntWalk.i64_in _ (by omega)
     have wa4 : IntKind.i64.wrap (m.t + tr + ou + ho + ba) = m'.t := by rw [IntWalk.i64_in _ (by omega)]; exact ht'
     have wb4 : IntKind.i64.wrap (m.u + lo + ol + hl + bl9) = m'.u := by rw [IntWalk.i64_in _ (by omega)]; exact hu'
     have hask2 : atT (m.u + lo) (m.t + tr + ou + w2') (m.t + tr + ou + ho + w3') m'.u (es.getD src 0) p = (a0, a1, ae) := by rw [← hu']; exact hask
     clear hask hT hU ht' hu' z2 z3 y0 y1 y2 y3 y4 y5 y6 y7
     obtain ⟨mt0, hmt0⟩ : ∃ z, m.t = z := ⟨_, rfl⟩
     obtain ⟨mu0, hmu0⟩ : ∃ z, m.u = z := ⟨_, rfl⟩
     simp only [hmt0, hmu0] at wa1 wb1 wa2 wb2 wv2 wa3 wb3 wv3 wa4 wb4 hask2 ⊢
     clear hmt0 hmu0
     obtain ⟨T1, hT1⟩ : ∃ z, mt0 + tr = z := ⟨_, rfl⟩
     obtain ⟨U1, hU1⟩ : ∃ z, mu0 + lo = z := ⟨_, rfl⟩
     replace wa1 := wa1.trans hT1; replace wb1 := wb1.trans hU1
     rw [hT1] at wa2 wv2 wa3 wv3 wa4 hask2; rw [hU1] at wb2 wb3 wb4 hask2
     clear hT1 hU1
     obtain ⟨T2, hT2⟩ : ∃ z, T1 + ou = z := ⟨_, rfl⟩
     obtain ⟨U2, hU2⟩ : ∃ z, U1 + ol = z := ⟨_, rfl⟩
     replace wa2 := wa2.trans hT2; replace wb2 := wb2.trans hU2
     rw [hT2] at wv2 wa3 wv3 wa4 hask2; rw [hU2] at wb3 wb4
     clear hT2 hU2
     obtain ⟨T3, hT3⟩ : ∃ z, T2 + ho = z := ⟨_, rfl⟩
     obtain ⟨U3, hU3⟩ : ∃ z, U2 + hl = z := ⟨_, rfl⟩
     replace wa3 := wa3.trans hT3; replace wb3 := wb3.trans hU3
     rw [hT3] at wv3 wa4 hask2; rw [hU3] at wb4
     clear hT3 hU3
     obtain ⟨Y2v, hV2⟩ : ∃ z, T2 + w2' = z := ⟨_, rfl⟩
     obtain ⟨Y3v, hV3⟩ : ∃ z, T3 + w3' = z := ⟨_, rfl⟩
     replace wv2 := wv2.trans hV2; replace wv3 := wv3.trans hV3
     rw [hV2, hV3] at hask2
     clear hV2 hV3
     have hes : NsAt wr A n es := by have h9 : NsAt wr A es.length es := (HH.out.below KR).1; rw [← HN.out] at h9; exact h9
     obtain ⟨be9, oe9, rfl, lbe9, hce⟩ := hes.2.2 (by omega)
     have de := hce src hsn
     obtain ⟨e0, he0⟩ : ∃ e0, es.getD src 0 = e0 := ⟨_, rfl⟩
     rw [he0] at hask2 de
     have HASK := hYd hask2
     clear hes hce he0 hask2
     have gsn : decide ((src : Int) < (n : Int)) = true := decide_eq_true s1
     have gsnn : decide (src < n) = true := decide_eq_true hsn
     have lM := bM.lt; have lS := bS.lt; have lK := bK.lt; have lC := bC.lt
     have cB := bB.cell; have lB := bB.lt
     go_upto_region 13 with fail
     obtain ⟨wB, hwB⟩ : ∃ x9 : World, x9 = (wr.alloc (.cells #[.int .i64 src, .int .i64 tr, .int .i64 lo, .int .i64 ou, .int .i64 ol, .int .i64 ho, .int .i64 hl, .int .i64 ba, .int .i64 bl9, .int .i64 w2', .int .i64 w3'] 57)).alloc (.cells #[.int .i64 0, .int .i64 0, .int .i64 0, .int .i64 0, .int .i64 e0] 92) := ⟨_, rfl⟩
     have hqA : Past [gm, gs, gb, gc] wr wB := by rw [hwB]; exact ((Past.refl _ _).allocs _).allocs _
     have bX : Blk wB wr.heap.size 57 #[.int .i64 src, .int .i64 tr, .int .i64 lo, .int .i64 ou, .int .i64 ol, .int .i64 ho, .int .i64 hl, .int .i64 ba, .int .i64 bl9, .int .i64 w2', .int .i64 w3'] := by rw [hwB]; exact (Blk.new _ _ _).alloc _
     have bY : Blk wB (wr.heap.size + 1) 92 #[.int .i64 0, .int .i64 0, .int .i64 0, .int .i64 0, .int .i64 e0] := by rw [hwB]; exact Blk.new1 _ _ _ _
     have bM' : Blk wB gm 116 #[.slice (some ⟨gs, 0, none⟩) n n, .slice (some ⟨gb, 0, none⟩) n n, .bool m.own.1, .int .i64 m.own.2.at_, .int .i64 m.own.2.lo, .int .i64 m.own.2.hi, .int .i64 m.own.2.pp, .int .i64 m.own.2.le, .int .i64 m.own.2.re] := by rw [hwB]; exact (bM.alloc _).alloc _
     have bS' : Blk wB gs 4 cs := by rw [hwB]; exact (bS.alloc _).alloc _
     have bK' : Blk wB gb 43 cb := by rw [hwB]; exact (bK.alloc _).alloc _
     have bC' : Blk wB gc 62 #[.int .i64 m.ck.aim, .int .i64 m.ck.rate, .bool m.ck.set, .bool m.ck.held, .int .i64 m.ck.at_, .int .i64 m.ck.shown] := by rw [hwB]; exact (bC.alloc _).alloc _
     have bB' : Blk wB w.heap.size 54 #[.int .i64 sta, .int .i64 loc, .int .i64 p, .int .i64 li, .int .i64 ai, .slice (some ⟨be9, oe9, none⟩) n c, .slice (some ⟨bk9, off9, none⟩) nx sc] := by rw [hwB]; exact (bB.alloc _).alloc _
     have ZB : wr.heap.size + 2 ≤ wB.heap.size := by rw [hwB]; simp
     rw [← hwB]
     clear hwB bM bS bK bC bB cB lB d0 d1 d2 d3 d4 d5 d6 d7 d8 d9 d10 de
     have bM := bM'; have bS := bS'; have bK := bK'; have bC := bC'; have bB := bB'; clear bM' bS' bK' bC' bB'
     obtain ⟨cM, fM, lM, eM, kM⟩ := Blk.facts bM
     obtain ⟨cS, fS, lS, eS, kS⟩ := Blk.facts bS
     obtain ⟨cK, fK, lK, eK, kK⟩ := Blk.facts bK
     obtain ⟨cC, fC, lC, eC, kC⟩ := Blk.facts bC
     obtain ⟨cB, fB, lB, eB, kB⟩ := Blk.facts bB
     obtain ⟨cX, fX, lX, eX, kX⟩ := Blk.facts bX
     obtain ⟨cY, fY, lY, eY, kY⟩ := Blk.facts bY
     have oX := lX; have oY := lY
     refine' wp_region_calmD (by kernel_rfl) (fun D u9 w' => w' = wB.drew ∧ (D 8 = false → u9 8 = .int .i64 mt0) ∧ (D 9 = false → u9 9 = .int .i64 mu0)) (fun _ _ => True) [(Is _), (Is _), (Is _), (Is _), (Is _), (Is _), (Is _), (Is _), (Is _), (Is _)] [[], [], [1], [0, 2], [], [], [5], [4, 6], [3], [7]] rfl (calmB_of (by kernel_rfl)) (fun u => by (simp only [calmPut, Act.put, lst, ls0, ls1, Nat.zero_add, Nat.reduceAdd]; rfl)) ?_ (kcc keep_is' (kcc keep_is' (kcc keep_is' (kcc keep_is' (kcc keep_is' (kcc keep_is' (kcc keep_is' (kcc keep_is' (kcc keep_is' (kcc keep_is' (calmKeep_nil))))))))))) ?_ ?_
     ·exact ⟨rfl, (fun _ => rfl), (fun _ => rfl)⟩
     rotate_left 10
     ·skip
      refine dc2 (fun uu wq D hd hn hn2 hC hk K hK => ?_) ?_
      ·obtain ⟨rfl, hA9, hB9⟩ := hC
       clear hk
       have hu : uu 8 = .int .i64 mt0 := hA9 (hn.out 8 (calmReach_of (by decide) (by kernel_rfl)))
       simp only [hu] at hK ⊢
       have HU := hYd hu; clear hu
       go_simp
       exact hK _ _ _ rfl ⟨rfl, hA9, hB9⟩ trivial rfl
      refine dc0 (fun uu wq D hC K hK => ?_) ?_
      ·obtain ⟨rfl, hA9, hB9⟩ := hC
       go_simp
       exact hK _ _ _ rfl ⟨rfl, hA9, hB9⟩ trivial rfl
      refine dc1 (fun uu wq D hC hk K hK => ?_) ?_
      ·obtain ⟨rfl, hA9, hB9⟩ := hC
       simp only [calmKnown, lg0, lg1, and_true, Is] at hk
       have h1 := hk; clear hk
       simp only [h1] at hK ⊢
       have H1 := hYd h1; clear h1
       have bXd := bX.drew; have cX9 := bXd.cell; have lX9 := bXd.lt
       go_simp
       exact hK _ _ _ rfl ⟨rfl, hA9, hB9⟩ trivial rfl
      refine dc1 (fun uu wq D hC hk K hK => ?_) ?_
      ·obtain ⟨rfl, hA9, hB9⟩ := hC
       simp only [calmKnown, lg0, lg1, and_true, Is] at hk
       obtain ⟨h0, h2⟩ := hk
       simp only [h0, h2] at hK ⊢
       have H0 := hYd h0; clear h0; have H2 := hYd h2; clear h2
       go_simp
       exact hK _ _ _ rfl ⟨rfl, hA9, hB9⟩ trivial rfl
      refine dc2 (fun uu wq D hd hn hn2 hC hk K hK => ?_) ?_
      ·obtain ⟨rfl, hA9, hB9⟩ := hC
       clear hk
       have hu : uu 9 = .int .i64 mu0 := hB9 (hn.out 9 (calmReach_of (by decide) (by kernel_rfl)))
       simp only [hu] at hK ⊢
       have HU := hYd hu; clear hu
       go_simp
       exact hK _ _ _ rfl ⟨rfl, hA9, hB9⟩ trivial rfl
      refine dc0 (fun uu wq D hC K hK => ?_) ?_
      ·obtain ⟨rfl, hA9, hB9⟩ := hC
       go_simp
       exact hK _ _ _ rfl ⟨rfl, hA9, hB9⟩ trivial rfl
      refine dc1 (fun uu wq D hC hk K hK => ?_) ?_
      ·obtain ⟨rfl, hA9, hB9⟩ := hC
       simp only [calmKnown, lg0, lg1, and_true, Is] at hk
       have h5 := hk; clear hk
       simp only [h5] at hK ⊢
       have H5 := hYd h5; clear h5
       have bXd := bX.drew; have cX9 := bXd.cell; have lX9 := bXd.lt
       go_simp
       exact hK _ _ _ rfl ⟨rfl, hA9, hB9⟩ trivial rfl
      refine dc1 (fun uu wq D hC hk K hK => ?_) ?_
      ·obtain ⟨rfl, hA9, hB9⟩ := hC
       simp only [calmKnown, lg0, lg1, and_true, Is] at hk
       obtain ⟨h4, h6⟩ := hk
       simp only [h4, h6] at hK ⊢
       have H4 := hYd h4; clear h4; have H6 := hYd h6; clear h6
       go_simp
       exact hK _ _ _ rfl ⟨rfl, hA9, hB9⟩ trivial rfl
      refine dc1 (fun uu wq D hC hk K hK => ?_) ?_
      ·obtain ⟨rfl, hA9, hB9⟩ := hC
       simp only [calmKnown, lg0, lg1, and_true, Is] at hk
       have h3 := hk; clear hk
       simp only [h3] at hK ⊢
       have H3 := hYd h3; clear h3
       go_simp
       exact hK _ _ _ rfl ⟨rfl, (fun h => by cases h), hB9⟩ trivial rfl
      refine dc1 (fun uu wq D hC hk K hK => ?_) ?_
      ·obtain ⟨rfl, hA9, hB9⟩ := hC
       simp only [calmKnown, lg0, lg1, and_true, Is] at hk
       have h7 := hk; clear hk
       simp only [h7] at hK ⊢
       have H7 := hYd h7; clear h7
       go_simp
       exact hK _ _ _ rfl ⟨rfl, hA9, (fun h => by cases h)⟩ trivial rfl
      exact dSteps_nil
     ·intro uu wz13 D hD hC hF
      obtain ⟨rfl, hA9, hB9⟩ := hC
      simp only [calmFacts, Is, and_true, true_and] at hF
      obtain ⟨f0, f1, f2, f3, f4, f5, f6, f7, f8, f9⟩ := hF
      simp only [f0, f1, f2, f3, f4, f5, f6, f7, f8, f9]
      clear hA9 hB9 hD
      go_upto_region 15 with fail
      obtain ⟨wY13, hX9⟩ : ∃ x9 : World, x9 = (wB.setCell ⟨wr.heap.size + 1, 0, none⟩ (.int .i64 U1)).drew := ⟨_, rfl⟩
      have hqX : Past [gm, gs, gb, gc] wr wY13 := by rw [hX9]; exact pa1
      have bM' : Blk wY13 (gm) 116 #[.slice (some ⟨gs, 0, none⟩) n n, .slice (some ⟨gb, 0, none⟩) n n, .bool m.own.1, .int .i64 m.own.2.at_, .int .i64 m.own.2.lo, .int .i64 m.own.2.hi, .int .i64 m.own.2.pp, .int .i64 m.own.2.le, .int .i64 m.own.2.re] := by rw [hX9]; exact bn1
      have bS' : Blk wY13 (gs) 4 cs := by rw [hX9]; exact bn1
      have bK' : Blk wY13 (gb) 43 cb := by rw [hX9]; exact bn1
      have bC' : Blk wY13 (gc) 62 #[.int .i64 m.ck.aim, .int .i64 m.ck.rate, .bool m.ck.set, .bool m.ck.held, .int .i64 m.ck.at_, .int .i64 m.ck.shown] := by rw [hX9]; exact bn1
      have bB' : Blk wY13 (w.heap.size) 54 #[.int .i64 sta, .int .i64 loc, .int .i64 p, .int .i64 li, .int .i64 ai, .slice (some ⟨be9, oe9, none⟩) n c, .slice (some ⟨bk9, off9, none⟩) nx sc] := by rw [hX9]; exact bn1
      have bX' : Blk wY13 (wr.heap.size) 57 #[.int .i64 src, .int .i64 tr, .int .i64 lo, .int .i64 ou, .int .i64 ol, .int .i64 ho, .int .i64 hl, .int .i64 ba, .int .i64 bl9, .int .i64 w2', .int .i64 w3'] := by rw [hX9]; exact bn1
      have bY' : Blk wY13 (wr.heap.size + 1) 92 #[.int .i64 U1, .int .i64 0, .int .i64 0, .int .i64 0, .int .i64 e0] := by rw [hX9]; exact (by have h9 := bY.set_ 0 (.int .i64 U1); simp only [lst, ls0, ls1] at h9; exact h9.drew)
      have ZwY13 : wB.heap.size ≤ wY13.heap.size := by rw [hX9]; first | omega | (simp; done) | (simp [setAll_size]; done) | (simp <;> omega)
      rw [← hX9]
      clear hX9 hqA
      clear bM cM fM lM eM kM; have bM := bM'; clear bM'
      clear bS cS fS lS eS kS; have bS := bS'; clear bS'
      clear bK cK fK lK eK kK; have bK := bK'; clear bK'
      clear bC cC fC lC eC kC; have bC := bC'; clear bC'
      clear bB cB fB lB eB kB; have bB := bB'; clear bB'
      clear bX cX fX lX eX kX; have bX := bX'; clear bX'
      clear bY cY fY lY eY kY; have bY := bY'; clear bY'
      have hqXwY13 := hqX; clear hqX
      obtain ⟨cM, fM, lM, eM, kM⟩ := Blk.facts bM
      obtain ⟨cS, fS, lS, eS, kS⟩ := Blk.facts bS
      obtain ⟨cK, fK, lK, eK, kK⟩ := Blk.facts bK
      obtain ⟨cC, fC, lC, eC, kC⟩ := Blk.facts bC
      obtain ⟨cB, fB, lB, eB, kB⟩ := Blk.facts bB
      obtain ⟨cX, fX, lX, eX, kX⟩ := Blk.facts bX
      obtain ⟨cY, fY, lY, eY, kY⟩ := Blk.facts bY
      refine' wp_region_calmD (by kernel_rfl) (fun D u9 w' => w' = wY13.drew ∧ (D 8 = false → u9 8 = .int .i64 T1) ∧ (D 9 = false → u9 9 = .int .i64 U1)) (fun _ _ => True) [(Is _), (Is _), (Is _), (Is _), (Is _), (Is _), (Is _), (Is _), (Is _), (Is _)] [[], [], [1], [0, 2], [], [], [5], [4, 6], [3], [7]] rfl (calmB_of (by kernel_rfl)) (fun u => by (simp only [calmPut, Act.put, lst, ls0, ls1, Nat.zero_add, Nat.reduceAdd]; rfl)) ?_ (kcc keep_is' (kcc keep_is' (kcc keep_is' (kcc keep_is' (kcc keep_is' (kcc keep_is' (kcc keep_is' (kcc keep_is' (kcc keep_is' (kcc keep_is' (calmKeep_nil))))))))))) ?_ ?_
      ·exact ⟨rfl, (fun _ => rfl), (fun _ => rfl)⟩
      rotate_left 10
      ·skip
       refine dc2 (fun uu wq D hd hn hn2 hC hk K hK => ?_) ?_
       ·obtain ⟨rfl, hA9, hB9⟩ := hC
        clear hk
        have hu : uu 8 = .int .i64 T1 := hA9 (hn.out 8 (calmReach_of (by decide) (by kernel_rfl)))
        simp only [hu] at hK ⊢
        have HU := hYd hu; clear hu
        go_simp
        exact hK _ _ _ rfl ⟨rfl, hA9, hB9⟩ trivial rfl
       refine dc0 (fun uu wq D hC K hK => ?_) ?_
       ·obtain ⟨rfl, hA9, hB9⟩ := hC
        go_simp
        exact hK _ _ _ rfl ⟨rfl, hA9, hB9⟩ trivial rfl
       refine dc1 (fun uu wq D hC hk K hK => ?_) ?_
       ·obtain ⟨rfl, hA9, hB9⟩ := hC
        simp only [calmKnown, lg0, lg1, and_true, Is] at hk
        have h1 := hk; clear hk
        simp only [h1] at hK ⊢
        have H1 := hYd h1; clear h1
        have bXd := bX.drew; have cX9 := bXd.cell; have lX9 := bXd.lt
        go_simp
        exact hK _ _ _ rfl ⟨rfl, hA9, hB9⟩ trivial rfl
       refine dc1 (fun uu wq D hC hk K hK => ?_) ?_
       ·obtain ⟨rfl, hA9, hB9⟩ := hC
        simp only [calmKnown, lg0, lg1, and_true, Is] at hk
        obtain ⟨h0, h2⟩ := hk
        simp only [h0, h2] at hK ⊢
        have H0 := hYd h0; clear h0; have H2 := hYd h2; clear h2
        go_simp
        exact hK _ _ _ rfl ⟨rfl, hA9, hB9⟩ trivial rfl
       refine dc2 (fun uu wq D hd hn hn2 hC hk K hK => ?_) ?_
       ·obtain ⟨rfl, hA9, hB9⟩ := hC
        clear hk
        have hu : uu 9 = .int .i64 U1 := hB9 (hn.out 9 (calmReach_of (by decide) (by kernel_rfl)))
        simp only [hu] at hK ⊢
        have HU := hYd hu; clear hu
        go_simp
        exact hK _ _ _ rfl ⟨rfl, hA9, hB9⟩ trivial rfl
       refine dc0 (fun uu wq D hC K hK => ?_) ?_
       ·obtain ⟨rfl, hA9, hB9⟩ := hC
        go_simp
        exact hK _ _ _ rfl ⟨rfl, hA9, hB9⟩ trivial rfl
       refine dc1 (fun uu wq D hC hk K hK => ?_) ?_
       ·obtain ⟨rfl, hA9, hB9⟩ := hC
        simp only [calmKnown, lg0, lg1, and_true, Is] at hk
        have h5 := hk; clear hk
        simp only [h5] at hK ⊢
        have H5 := hYd h5; clear h5
        have bXd := bX.drew; have cX9 := bXd.cell; have lX9 := bXd.lt
        go_simp
        exact hK _ _ _ rfl ⟨rfl, hA9, hB9⟩ trivial rfl
       refine dc1 (fun uu wq D hC hk K hK => ?_) ?_
       ·obtain ⟨rfl, hA9, hB9⟩ := hC
        simp only [calmKnown, lg0, lg1, and_true, Is] at hk
        obtain ⟨h4, h6⟩ := hk
        simp only [h4, h6] at hK ⊢
        have H4 := hYd h4; clear h4; have H6 := hYd h6; clear h6
        go_simp
        exact hK _ _ _ rfl ⟨rfl, hA9, hB9⟩ trivial rfl
       refine dc1 (fun uu wq D hC hk K hK => ?_) ?_
       ·obtain ⟨rfl, hA9, hB9⟩ := hC
        simp only [calmKnown, lg0, lg1, and_true, Is] at hk
        have h3 := hk; clear hk
        simp only [h3] at hK ⊢
        have H3 := hYd h3; clear h3
        go_simp
        exact hK _ _ _ rfl ⟨rfl, (fun h => by cases h), hB9⟩ trivial rfl
       refine dc1 (fun uu wq D hC hk K hK => ?_) ?_
       ·obtain ⟨rfl, hA9, hB9⟩ := hC
        simp only [calmKnown, lg0, lg1, and_true, Is] at hk
        have h7 := hk; clear hk
        simp only [h7] at hK ⊢
        have H7 := hYd h7; clear h7
        go_simp
        exact hK _ _ _ rfl ⟨rfl, hA9, (fun h => by cases h)⟩ trivial rfl
       exact dSteps_nil
      ·intro uu wz15 D hD hC hF
       obtain ⟨rfl, hA9, hB9⟩ := hC
       simp only [calmFacts, Is, and_true, true_and] at hF
       obtain ⟨f0, f1, f2, f3, f4, f5, f6, f7, f8, f9⟩ := hF
       simp only [f0, f1, f2, f3, f4, f5, f6, f7, f8, f9]
       clear hA9 hB9 hD
       go_upto_region 17 with fail
       obtain ⟨wY15, hX9⟩ : ∃ x9 : World, x9 = (wY13.setCell ⟨wr.heap.size + 1, 1, none⟩ (.int .i64 Y2v)).drew := ⟨_, rfl⟩
       have hqX : Past [gm, gs, gb, gc] wr wY15 := by rw [hX9]; exact pa1
       have bM' : Blk wY15 (gm) 116 #[.slice (some ⟨gs, 0, none⟩) n n, .slice (some ⟨gb, 0, none⟩) n n, .bool m.own.1, .int .i64 m.own.2.at_, .int .i64 m.own.2.lo, .int .i64 m.own.2.hi, .int .i64 m.own.2.pp, .int .i64 m.own.2.le, .int .i64 m.own.2.re] := by rw [hX9]; exact bn1
       have bS' : Blk wY15 (gs) 4 cs := by rw [hX9]; exact bn1
       have bK' : Blk wY15 (gb) 43 cb := by rw [hX9]; exact bn1
       have bC' : Blk wY15 (gc) 62 #[.int .i64 m.ck.aim, .int .i64 m.ck.rate, .bool m.ck.set, .bool m.ck.held, .int .i64 m.ck.at_, .int .i64 m.ck.shown] := by rw [hX9]; exact bn1
       have bB' : Blk wY15 (w.heap.size) 54 #[.int .i64 sta, .int .i64 loc, .int .i64 p, .int .i64 li, .int .i64 ai, .slice (some ⟨be9, oe9, none⟩) n c, .slice (some ⟨bk9, off9, none⟩) nx sc] := by rw [hX9]; exact bn1
       have bX' : Blk wY15 (wr.heap.size) 57 #[.int .i64 src, .int .i64 tr, .int .i64 lo, .int .i64 ou, .int .i64 ol, .int .i64 ho, .int .i64 hl, .int .i64 ba, .int .i64 bl9, .int .i64 w2', .int .i64 w3'] := by rw [hX9]; exact bn1
       have bY' : Blk wY15 (wr.heap.size + 1) 92 #[.int .i64 U1, .int .i64 Y2v, .int .i64 0, .int .i64 0, .int .i64 e0] := by rw [hX9]; exact (by have h9 := bY.set_ 1 (.int .i64 Y2v); simp only [lst, ls0, ls1] at h9; exact h9.drew)
       have ZwY15 : wY13.heap.size ≤ wY15.heap.size := by rw [hX9]; first | omega | (simp; done) | (simp [setAll_size]; done) | (simp <;> omega)
       rw [← hX9]
       clear hX9 hqXwY13
       clear bM cM fM lM eM kM; have bM := bM'; clear bM'
       clear bS cS fS lS eS kS; have bS := bS'; clear bS'
       clear bK cK fK lK eK kK; have bK := bK'; clear bK'
       clear bC cC fC lC eC kC; have bC := bC'; clear bC'
       clear bB cB fB lB eB kB; have bB := bB'; clear bB'
       clear bX cX fX lX eX kX; have bX := bX'; clear bX'
       clear bY cY fY lY eY kY; have bY := bY'; clear bY'
       have hqXwY15 := hqX; clear hqX
       obtain ⟨cM, fM, lM, eM, kM⟩ := Blk.facts bM
       obtain ⟨cS, fS, lS, eS, kS⟩ := Blk.facts bS
       obtain ⟨cK, fK, lK, eK, kK⟩ := Blk.facts bK
       obtain ⟨cC, fC, lC, eC, kC⟩ := Blk.facts bC
       obtain ⟨cB, fB, lB, eB, kB⟩ := Blk.facts bB
       obtain ⟨cX, fX, lX, eX, kX⟩ := Blk.facts bX
       obtain ⟨cY, fY, lY, eY, kY⟩ := Blk.facts bY
       refine' wp_region_calmD (by kernel_rfl) (fun D u9 w' => w' = wY15.drew ∧ (D 8 = false → u9 8 = .int .i64 T2) ∧ (D 9 = false → u9 9 = .int .i64 U2)) (fun _ _ => True) [(Is _), (Is _), (Is _), (Is _), (Is _), (Is _), (Is _), (Is _), (Is _), (Is _)] [[], [], [1], [0, 2], [], [], [5], [4, 6], [3], [7]] rfl (calmB_of (by kernel_rfl)) (fun u => by (simp only [calmPut, Act.put, lst, ls0, ls1, Nat.zero_add, Nat.reduceAdd]; rfl)) ?_ (kcc keep_is' (kcc keep_is' (kcc keep_is' (kcc keep_is' (kcc keep_is' (kcc keep_is' (kcc keep_is' (kcc keep_is' (kcc keep_is' (kcc keep_is' (calmKeep_nil))))))))))) ?_ ?_
       ·exact ⟨rfl, (fun _ => rfl), (fun _ => rfl)⟩
       rotate_left 10
       ·skip
        refine dc2 (fun uu wq D hd hn hn2 hC hk K hK => ?_) ?_
        ·obtain ⟨rfl, hA9, hB9⟩ := hC
         clear hk
         have hu : uu 8 = .int .i64 T2 := hA9 (hn.out 8 (calmReach_of (by decide) (by kernel_rfl)))
         simp only [hu] at hK ⊢
         have HU := hYd hu; clear hu
         go_simp
         exact hK _ _ _ rfl ⟨rfl, hA9, hB9⟩ trivial rfl
        refine dc0 (fun uu wq D hC K hK => ?_) ?_
        ·obtain ⟨rfl, hA9, hB9⟩ := hC
         go_simp
         exact hK _ _ _ rfl ⟨rfl, hA9, hB9⟩ trivial rfl
        refine dc1 (fun uu wq D hC hk K hK => ?_) ?_
        ·obtain ⟨rfl, hA9, hB9⟩ := hC
         simp only [calmKnown, lg0, lg1, and_true, Is] at hk
         have h1 := hk; clear hk
         simp only [h1] at hK ⊢
         have H1 := hYd h1; clear h1
         have bXd := bX.drew; have cX9 := bXd.cell; have lX9 := bXd.lt
         go_simp
         exact hK _ _ _ rfl ⟨rfl, hA9, hB9⟩ trivial rfl
        refine dc1 (fun uu wq D hC hk K hK => ?_) ?_
        ·obtain ⟨rfl, hA9, hB9⟩ := hC
         simp only [calmKnown, lg0, lg1, and_true, Is] at hk
         obtain ⟨h0, h2⟩ := hk
         simp only [h0, h2] at hK ⊢
         have H0 := hYd h0; clear h0; have H2 := hYd h2; clear h2
         go_simp
         exact hK _ _ _ rfl ⟨rfl, hA9, hB9⟩ trivial rfl
        refine dc2 (fun uu wq D hd hn hn2 hC hk K hK => ?_) ?_
        ·obtain ⟨rfl, hA9, hB9⟩ := hC
         clear hk
         have hu : uu 9 = .int .i64 U2 := hB9 (hn.out 9 (calmReach_of (by decide) (by kernel_rfl)))
         simp only [hu] at hK ⊢
         have HU := hYd hu; clear hu
         go_simp
         exact hK _ _ _ rfl ⟨rfl, hA9, hB9⟩ trivial rfl
        refine dc0 (fun uu wq D hC K hK => ?_) ?_
        ·obtain ⟨rfl, hA9, hB9⟩ := hC
         go_simp
         exact hK _ _ _ rfl ⟨rfl, hA9, hB9⟩ trivial rfl
        refine dc1 (fun uu wq D hC hk K hK => ?_) ?_
        ·obtain ⟨rfl, hA9, hB9⟩ := hC
         simp only [calmKnown, lg0, lg1, and_true, Is] at hk
         have h5 := hk; clear hk
         simp only [h5] at hK ⊢
         have H5 := hYd h5; clear h5
         have bXd := bX.drew; have cX9 := bXd.cell; have lX9 := bXd.lt
         go_simp
         exact hK _ _ _ rfl ⟨rfl, hA9, hB9⟩ trivial rfl
        refine dc1 (fun uu wq D hC hk K hK => ?_) ?_
        ·obtain ⟨rfl, hA9, hB9⟩ := hC
         simp only [calmKnown, lg0, lg1, and_true, Is] at hk
         obtain ⟨h4, h6⟩ := hk
         simp only [h4, h6] at hK ⊢
         have H4 := hYd h4; clear h4; have H6 := hYd h6; clear h6
         go_simp
         exact hK _ _ _ rfl ⟨rfl, hA9, hB9⟩ trivial rfl
        refine dc1 (fun uu wq D hC hk K hK => ?_) ?_
        ·obtain ⟨rfl, hA9, hB9⟩ := hC
         simp only [calmKnown, lg0, lg1, and_true, Is] at hk
         have h3 := hk; clear hk
         simp only [h3] at hK ⊢
         have H3 := hYd h3; clear h3
         go_simp
         exact hK _ _ _ rfl ⟨rfl, (fun h => by cases h), hB9⟩ trivial rfl
        refine dc1 (fun uu wq D hC hk K hK => ?_) ?_
        ·obtain ⟨rfl, hA9, hB9⟩ := hC
         simp only [calmKnown, lg0, lg1, and_true, Is] at hk
         have h7 := hk; clear hk
         simp only [h7] at hK ⊢
         have H7 := hYd h7; clear h7
         go_simp
         exact hK _ _ _ rfl ⟨rfl, hA9, (fun h => by cases h)⟩ trivial rfl
        exact dSteps_nil
       ·intro uu wz17 D hD hC hF
        obtain ⟨rfl, hA9, hB9⟩ := hC
        simp only [calmFacts, Is, and_true, true_and] at hF
        obtain ⟨f0, f1, f2, f3, f4, f5, f6, f7, f8, f9⟩ := hF
        simp only [f0, f1, f2, f3, f4, f5, f6, f7, f8, f9]
        clear hA9 hB9 hD
        go_upto_region 19 with fail
        obtain ⟨wY17, hX9⟩ : ∃ x9 : World, x9 = (wY15.setCell ⟨wr.heap.size + 1, 2, none⟩ (.int .i64 Y3v)).drew := ⟨_, rfl⟩
        have hqX : Past [gm, gs, gb, gc] wr wY17 := by rw [hX9]; exact pa1
        have bM' : Blk wY17 (gm) 116 #[.slice (some ⟨gs, 0, none⟩) n n, .slice (some ⟨gb, 0, none⟩) n n, .bool m.own.1, .int .i64 m.own.2.at_, .int .i64 m.own.2.lo, .int .i64 m.own.2.hi, .int .i64 m.own.2.pp, .int .i64 m.own.2.le, .int .i64 m.own.2.re] := by rw [hX9]; exact bn1
        have bS' : Blk wY17 (gs) 4 cs := by rw [hX9]; exact bn1
        have bK' : Blk wY17 (gb) 43 cb := by rw [hX9]; exact bn1
        have bC' : Blk wY17 (gc) 62 #[.int .i64 m.ck.aim, .int .i64 m.ck.rate, .bool m.ck.set, .bool m.ck.held, .int .i64 m.ck.at_, .int .i64 m.ck.shown] := by rw [hX9]; exact bn1
        have bB' : Blk wY17 (w.heap.size) 54 #[.int .i64 sta, .int .i64 loc, .int .i64 p, .int .i64 li, .int .i64 ai, .slice (some ⟨be9, oe9, none⟩) n c, .slice (some ⟨bk9, off9, none⟩) nx sc] := by rw [hX9]; exact bn1
        have bX' : Blk wY17 (wr.heap.size) 57 #[.int .i64 src, .int .i64 tr, .int .i64 lo, .int .i64 ou, .int .i64 ol, .int .i64 ho, .int .i64 hl, .int .i64 ba, .int .i64 bl9, .int .i64 w2', .int .i64 w3'] := by rw [hX9]; exact bn1
        have bY' : Blk wY17 (wr.heap.size + 1) 92 #[.int .i64 U1, .int .i64 Y2v, .int .i64 Y3v, .int .i64 0, .int .i64 e0] := by rw [hX9]; exact (by have h9 := bY.set_ 2 (.int .i64 Y3v); simp only [lst, ls0, ls1] at h9; exact h9.drew)
        have ZwY17 : wY15.heap.size ≤ wY17.heap.size := by rw [hX9]; first | omega | (simp; done) | (simp [setAll_size]; done) | (simp <;> omega)
        rw [← hX9]
        clear hX9 hqXwY15
        clear bM cM fM lM eM kM; have bM := bM'; clear bM'
        clear bS cS fS lS eS kS; have bS := bS'; clear bS'
        clear bK cK fK lK eK kK; have bK := bK'; clear bK'
        clear bC cC fC lC eC kC; have bC := bC'; clear bC'
        clear bB cB fB lB eB kB; have bB := bB'; clear bB'
        clear bX cX fX lX eX kX; have bX := bX'; clear bX'
        clear bY cY fY lY eY kY; have bY := bY'; clear bY'
        have hqXwY17 := hqX; clear hqX
        obtain ⟨cM, fM, lM, eM, kM⟩ := Blk.facts bM
        obtain ⟨cS, fS, lS, eS, kS⟩ := Blk.facts bS
        obtain ⟨cK, fK, lK, eK, kK⟩ := Blk.facts bK
        obtain ⟨cC, fC, lC, eC, kC⟩ := Blk.facts bC
        obtain ⟨cB, fB, lB, eB, kB⟩ := Blk.facts bB
        obtain ⟨cX, fX, lX, eX, kX⟩ := Blk.facts bX
        obtain ⟨cY, fY, lY, eY, kY⟩ := Blk.facts bY
        refine' wp_region_calmD (by kernel_rfl) (fun D u9 w' => w' = wY17.drew ∧ (D 8 = false → u9 8 = .int .i64 T3) ∧ (D 9 = false → u9 9 = .int .i64 U3)) (fun _ _ => True) [(Is _), (Is _), (Is _), (Is _), (Is _), (Is _), (Is _), (Is _), (Is _), (Is _)] [[], [], [1], [0, 2], [], [], [5], [4, 6], [3], [7]] rfl (calmB_of (by kernel_rfl)) (fun u => by (simp only [calmPut, Act.put, lst, ls0, ls1, Nat.zero_add, Nat.reduceAdd]; rfl)) ?_ (kcc keep_is' (kcc keep_is' (kcc keep_is' (kcc keep_is' (kcc keep_is' (kcc keep_is' (kcc keep_is' (kcc keep_is' (kcc keep_is' (kcc keep_is' (calmKeep_nil))))))))))) ?_ ?_
        ·exact ⟨rfl, (fun _ => rfl), (fun _ => rfl)⟩
        rotate_left 10
        ·skip
         refine dc2 (fun uu wq D hd hn hn2 hC hk K hK => ?_) ?_
         ·obtain ⟨rfl, hA9, hB9⟩ := hC
          clear hk
          have hu : uu 8 = .int .i64 T3 := hA9 (hn.out 8 (calmReach_of (by decide) (by kernel_rfl)))
          simp only [hu] at hK ⊢
          have HU := hYd hu; clear hu
          go_simp
          exact hK _ _ _ rfl ⟨rfl, hA9, hB9⟩ trivial rfl
         refine dc0 (fun uu wq D hC K hK => ?_) ?_
         ·obtain ⟨rfl, hA9, hB9⟩ := hC
          go_simp
          exact hK _ _ _ rfl ⟨rfl, hA9, hB9⟩ trivial rfl
         refine dc1 (fun uu wq D hC hk K hK => ?_) ?_
         ·obtain ⟨rfl, hA9, hB9⟩ := hC
          simp only [calmKnown, lg0, lg1, and_true, Is] at hk
          have h1 := hk; clear hk
          simp only [h1] at hK ⊢
          have H1 := hYd h1; clear h1
          have bXd := bX.drew; have cX9 := bXd.cell; have lX9 := bXd.lt
          go_simp
          exact hK _ _ _ rfl ⟨rfl, hA9, hB9⟩ trivial rfl
         refine dc1 (fun uu wq D hC hk K hK => ?_) ?_
         ·obtain ⟨rfl, hA9, hB9⟩ := hC
          simp only [calmKnown, lg0, lg1, and_true, Is] at hk
          obtain ⟨h0, h2⟩ := hk
          simp only [h0, h2] at hK ⊢
          have H0 := hYd h0; clear h0; have H2 := hYd h2; clear h2
          go_simp
          exact hK _ _ _ rfl ⟨rfl, hA9, hB9⟩ trivial rfl
         refine dc2 (fun uu wq D hd hn hn2 hC hk K hK => ?_) ?_
         ·obtain ⟨rfl, hA9, hB9⟩ := hC
          clear hk
          have hu : uu 9 = .int .i64 U3 := hB9 (hn.out 9 (calmReach_of (by decide) (by kernel_rfl)))
          simp only [hu] at hK ⊢
          have HU := hYd hu; clear hu
          go_simp
          exact hK _ _ _ rfl ⟨rfl, hA9, hB9⟩ trivial rfl
         refine dc0 (fun uu wq D hC K hK => ?_) ?_
         ·obtain ⟨rfl, hA9, hB9⟩ := hC
          go_simp
          exact hK _ _ _ rfl ⟨rfl, hA9, hB9⟩ trivial rfl
         refine dc1 (fun uu wq D hC hk K hK => ?_) ?_
         ·obtain ⟨rfl, hA9, hB9⟩ := hC
          simp only [calmKnown, lg0, lg1, and_true, Is] at hk
          have h5 := hk; clear hk
          simp only [h5] at hK ⊢
          have H5 := hYd h5; clear h5
          have bXd := bX.drew; have cX9 := bXd.cell; have lX9 := bXd.lt
          go_simp
          exact hK _ _ _ rfl ⟨rfl, hA9, hB9⟩ trivial rfl
         refine dc1 (fun uu wq D hC hk K hK => ?_) ?_
         ·obtain ⟨rfl, hA9, hB9⟩ := hC
          simp only [calmKnown, lg0, lg1, and_true, Is] at hk
          obtain ⟨h4, h6⟩ := hk
          simp only [h4, h6] at hK ⊢
          have H4 := hYd h4; clear h4; have H6 := hYd h6; clear h6
          go_simp
          exact hK _ _ _ rfl ⟨rfl, hA9, hB9⟩ trivial rfl
         refine dc1 (fun uu wq D hC hk K hK => ?_) ?_
         ·obtain ⟨rfl, hA9, hB9⟩ := hC
          simp only [calmKnown, lg0, lg1, and_true, Is] at hk
          have h3 := hk; clear hk
          simp only [h3] at hK ⊢
          have H3 := hYd h3; clear h3
          go_simp
          exact hK _ _ _ rfl ⟨rfl, (fun h => by cases h), hB9⟩ trivial rfl
         refine dc1 (fun uu wq D hC hk K hK => ?_) ?_
         ·obtain ⟨rfl, hA9, hB9⟩ := hC
          simp only [calmKnown, lg0, lg1, and_true, Is] at hk
          have h7 := hk; clear hk
          simp only [h7] at hK ⊢
          have H7 := hYd h7; clear h7
          go_simp
          exact hK _ _ _ rfl ⟨rfl, hA9, (fun h => by cases h)⟩ trivial rfl
         exact dSteps_nil
        ·intro uu wz19 D hD hC hF
         obtain ⟨rfl, hA9, hB9⟩ := hC
         simp only [calmFacts, Is, and_true, true_and] at hF
         obtain ⟨f0, f1, f2, f3, f4, f5, f6, f7, f8, f9⟩ := hF
         simp only [f0, f1, f2, f3, f4, f5, f6, f7, f8, f9]
         clear hA9 hB9 hD
         go_wp2_with fail
         refine (rhear_any gm gs gb n src cs cb m.by_ m.own.1 m.own.2.at_ m.own.2.lo m.own.2.hi m.own.2.pp m.own.2.le m.own.2.re U1 Y2v Y3v m'.u e0 p a0 a1 ae _ bn1 bn1 bn1 HBYL.out (by omega) hsn n1 n2 n3 HBY9.out HASK.out HLE.out).mono ?_
         rintro e w5 ⟨rfl, cs5, cb5, bM5, bS5, bK5, hby5, hq5⟩
         rw [← HBYQ.out] at hby5
         have HBY5 := hYd hby5; clear hby5
         have hqq : Past [gm, gs, gb, gc] _ w5 := Past.more (by intro x hx; simp at hx ⊢; omega) hq5
         have Kw5 : Past [gm, gs, gb, gc] wr w5 := Past.trans pa1 hqq
         have Zw5 : wY17.heap.size ≤ w5.heap.size := Nat.le_trans (by first | exact Nat.le_refl _ | omega | (simp <;> omega)) hqq.1
         have bM' := bM5
         have bS' := bS5
         have bK' := bK5
         have bC' : Blk w5 (gc) 62 #[.int .i64 m.ck.aim, .int .i64 m.ck.rate, .bool m.ck.set, .bool m.ck.held, .int .i64 m.ck.at_, .int .i64 m.ck.shown] := hq5.blk (bn1) (by simp <;> omega)
         have bB' : Blk w5 (w.heap.size) 54 #[.int .i64 sta, .int .i64 loc, .int .i64 p, .int .i64 li, .int .i64 ai, .slice (some ⟨be9, oe9, none⟩) n c, .slice (some ⟨bk9, off9, none⟩) nx sc] := hq5.blk (bn1) (by simp <;> omega)
         have bX' : Blk w5 (wr.heap.size) 57 #[.int .i64 src, .int .i64 tr, .int .i64 lo, .int .i64 ou, .int .i64 ol, .int .i64 ho, .int .i64 hl, .int .i64 ba, .int .i64 bl9, .int .i64 w2', .int .i64 w3'] := hq5.blk (bn1) (by simp <;> omega)
         clear hqq hqXwY17
         clear bM cM fM lM eM kM; have bM := bM'; clear bM'
         clear bS cS fS lS eS kS; have bS := bS'; clear bS'
         clear bK cK fK lK eK kK; have bK := bK'; clear bK'
         clear bC cC fC lC eC kC; have bC := bC'; clear bC'
         clear bB cB fB lB eB kB; have bB := bB'; clear bB'
         clear bX cX fX lX eX kX; have bX := bX'; clear bX'
         clear bY cY fY lY eY kY
         obtain ⟨cM, fM, lM, eM, kM⟩ := Blk.facts bM
         obtain ⟨cS, fS, lS, eS, kS⟩ := Blk.facts bS
         obtain ⟨cK, fK, lK, eK, kK⟩ := Blk.facts bK
         obtain ⟨cC, fC, lC, eC, kC⟩ := Blk.facts bC
         obtain ⟨cB, fB, lB, eB, kB⟩ := Blk.facts bB
         obtain ⟨cX, fX, lX, eX, kX⟩ := Blk.facts bX
         clear bM5 bS5 bK5 hq5 HASK HLE HBY9
         have hbl' : m'.by_.length = n := by rw [HBYQ.out]; split <;> first | (rw [List.length_set]; exact HBYL.out) | exact HBYL.out
         go_wp2_with fail
         refine (rthink_any gm gs gb n cs5 cb5 m'.by_ m.own.1 m.own.2.at_ m.own.2.lo m.own.2.hi m.own.2.pp m.own.2.le m.own.2.re m'.u p li mx my me m'.own _ bn1 bn1 bn1 hbl' (by omega) n1 n2 n3 HBY5.out HMG.out HOWN.out HLO.out).mono ?_
         rintro e w6 ⟨rfl, bM5, bS5, bK5, hq5⟩
         have hqq : Past [gm, gs, gb, gc] _ w6 := Past.more (by intro x hx; simp at hx ⊢; omega) hq5
         have Kw6 : Past [gm, gs, gb, gc] wr w6 := Past.trans pa1 hqq
         have Zw6 : w5.heap.size ≤ w6.heap.size := Nat.le_trans (by first | exact Nat.le_refl _ | omega | (simp <;> omega)) hqq.1
         have bM' := bM5
         have bS' := bS5
         have bK' := bK5
         have bC' : Blk w6 (gc) 62 #[.int .i64 m.ck.aim, .int .i64 m.ck.rate, .bool m.ck.set, .bool m.ck.held, .int .i64 m.ck.at_, .int .i64 m.ck.shown] := hq5.blk (bn1) (by simp <;> omega)
         have bB' : Blk w6 (w.heap.size) 54 #[.int .i64 sta, .int .i64 loc, .int .i64 p, .int .i64 li, .int .i64 ai, .slice (some ⟨be9, oe9, none⟩) n c, .slice (some ⟨bk9, off9, none⟩) nx sc] := hq5.blk (bn1) (by simp <;> omega)
         have bX' : Blk w6 (wr.heap.size) 57 #[.int .i64 src, .int .i64 tr, .int .i64 lo, .int .i64 ou, .int .i64 ol, .int .i64 ho, .int .i64 hl, .int .i64 ba, .int .i64 bl9, .int .i64 w2', .int .i64 w3'] := hq5.blk (bn1) (by simp <;> omega)
         clear hqq Kw5
         clear bM cM fM lM eM kM; have bM := bM'; clear bM'
         clear bS cS fS lS eS kS; have bS := bS'; clear bS'
         clear bK cK fK lK eK kK; have bK := bK'; clear bK'
         clear bC cC fC lC eC kC; have bC := bC'; clear bC'
         clear bB cB fB lB eB kB; have bB := bB'; clear bB'
         clear bX cX fX lX eX kX; have bX := bX'; clear bX'
         obtain ⟨cM, fM, lM, eM, kM⟩ := Blk.facts bM
         obtain ⟨cS, fS, lS, eS, kS⟩ := Blk.facts bS
         obtain ⟨cK, fK, lK, eK, kK⟩ := Blk.facts bK
         obtain ⟨cC, fC, lC, eC, kC⟩ := Blk.facts bC
         obtain ⟨cB, fB, lB, eB, kB⟩ := Blk.facts bB
         obtain ⟨cX, fX, lX, eX, kX⟩ := Blk.facts bX
         clear bM5 bS5 bK5 hq5 HMG HOWN HLO hbl'
         obtain ⟨ob, hob⟩ : ∃ ob, m'.own.1 = ob := ⟨_, rfl⟩
         have hck := HCK.out; have hrp := HRP.out
         rw [hob] at hck hrp
         have bM' := bM
         rw [hob] at bM'
         clear bM cM fM lM eM kM
         have bM := bM'; clear bM'
         obtain ⟨cM, fM, lM, eM, kM⟩ := Blk.facts bM
         have HOB := hYd hob; clear hob HCK HRP
         cases ob with
         | false =>
          have hr' : r9 = (⟨m'.u, m'.t, false, 0, 0, .zero⟩ : Rep) := hrp
          have hc' : m'.ck = ⟨m.ck.aim, m.ck.rate, m.ck.set, m.ck.held, m.ck.at_, m.ck.shown⟩ := hck
          subst hr'
          clear hck hrp
          go_upto_region 28 with fail
          obtain ⟨wD, hX9⟩ : ∃ x9 : World, x9 = w6.alloc (.cells #[.int .i64 m'.u, .int .i64 m'.t, .bool false, .int .i64 0, .int .i64 0, .int .i64 0, .int .i64 0, .bool false, .bool false, .int .i64 0, .int .i64 0] 64) := ⟨_, rfl⟩
          have hqX : Past [gm, gs, gb, gc] wr wD := by rw [hX9]; exact pa1
          have bM' : Blk wD (gm) 116 #[.slice (some ⟨gs, 0, none⟩) n n, .slice (some ⟨gb, 0, none⟩) n n, .bool m'.own.1, .int .i64 m'.own.2.at_, .int .i64 m'.own.2.lo, .int .i64 m'.own.2.hi, .int .i64 m'.own.2.pp, .int .i64 m'.own.2.le, .int .i64 m'.own.2.re] := by rw [hX9]; exact (by rw [HOB.out]; exact bM.alloc _)
          have bS' : Blk wD (gs) 4 cs5 := by rw [hX9]; exact bn1
          have bK' : Blk wD (gb) 43 cb5 := by rw [hX9]; exact bn1
          have bC' : Blk wD (gc) 62 #[.int .i64 m'.ck.aim, .int .i64 m'.ck.rate, .bool m'.ck.set, .bool m'.ck.held, .int .i64 m'.ck.at_, .int .i64 m'.ck.shown] := by rw [hX9]; exact (by rw [hc']; exact bC.alloc _)
          have bB' : Blk wD (w.heap.size) 54 #[.int .i64 sta, .int .i64 loc, .int .i64 p, .int .i64 li, .int .i64 ai, .slice (some ⟨be9, oe9, none⟩) n c, .slice (some ⟨bk9, off9, none⟩) nx sc] := by rw [hX9]; exact bn1
          have bX' : Blk wD (wr.heap.size) 57 #[.int .i64 src, .int .i64 tr, .int .i64 lo, .int .i64 ou, .int .i64 ol, .int .i64 ho, .int .i64 hl, .int .i64 ba, .int .i64 bl9, .int .i64 w2', .int .i64 w3'] := by rw [hX9]; exact bn1
          have bO' : Blk wD (w6.heap.size) 64 #[.int .i64 m'.u, .int .i64 m'.t, .bool false, .int .i64 0, .int .i64 0, .int .i64 0, .int .i64 0, .bool false, .bool false, .int .i64 0, .int .i64 0] := by rw [hX9]; exact Blk.new _ _ _
          have ZwD : w6.heap.size + 1 ≤ wD.heap.size := by rw [hX9]; first | omega | (simp; done) | (simp [setAll_size]; done) | (simp <;> omega)
          rw [← hX9]
          clear hX9 Kw6
          clear bM cM fM lM eM kM; have bM := bM'; clear bM'
          clear bS cS fS lS eS kS; have bS := bS'; clear bS'
          clear bK cK fK lK eK kK; have bK := bK'; clear bK'
          clear bC cC fC lC eC kC; have bC := bC'; clear bC'
          clear bB cB fB lB eB kB; have bB := bB'; clear bB'
          clear bX cX fX lX eX kX; have bX := bX'; clear bX'
          have bO := bO'; clear bO'
          have hqXwD := hqX; clear hqX
          obtain ⟨cM, fM, lM, eM, kM⟩ := Blk.facts bM
          obtain ⟨cS, fS, lS, eS, kS⟩ := Blk.facts bS
          obtain ⟨cK, fK, lK, eK, kK⟩ := Blk.facts bK
          obtain ⟨cC, fC, lC, eC, kC⟩ := Blk.facts bC
          obtain ⟨cB, fB, lB, eB, kB⟩ := Blk.facts bB
          obtain ⟨cX, fX, lX, eX, kX⟩ := Blk.facts bX
          obtain ⟨cO, fO, lO, eO, kO⟩ := Blk.facts bO
          have oO := lO
          obtain ⟨i0, hif, hz0, hz1, hz2⟩ := info_parts infoRep
          have hrl64 : rs.length ≤ 64 := by have h9 := (RunN.len HRUN.out).1; omega
          have HROW2 := hYd (HROW.out.past hqXwD (show ∀ k ∈ ([gm, gs, gb, gc] : List Nat), k < wA.heap.size by intro k hk; simp at hk; omega))
          have KB9 : Below w.heap.size w wD := Past.belowX HKR.out hqXwD (show ∀ k ∈ ([gm, gs, gb, gc] : List Nat), w.heap.size ≤ k by intro k hk; simp at hk; omega)
          have HKB := hYd KB9; clear KB9
          generalize hv : (Value.slice A' rs.length c') = v9 at *
          have hrl2 := RowR.lt HROW2.out
          clear hv HROW hrl
          go_wp2_with (at_builtin; refine wpList_append_lies _ rfl _ _ 58 rfl wA.heap.size 64 i0 (.agg #[.int .i64 0, .int .i64 0, .bool false, .int .i64 0, .int .i64 0, .int .i64 0, .int .i64 0, .bool false, .bool false, .int .i64 0, .int .i64 0]) 11 80 Tryz.underlying58 hif hz0 hz1 hz2 rfl (by decide) v9 rs.length (rCells rs) rfl (RowR.below HROW2.out ((Below.refl _ _).alloc (Nat.le_refl _) _)) ⟨wD.heap.size, 0, none⟩ 1 1 [.int .i64 m'.u, .int .i64 m'.t, .bool false, .int .i64 0, .int .i64 0, .int .i64 0, .int .i64 0, .bool false, .bool false, .int .i64 0, .int .i64 0] rfl rfl (World.news_of_block (t := 64) (fr := (0, 0)) (Blk.new _ _ _)) ?c2 (by decide) ?c3 ?c4 ?c5 _ rfl ?_)
          case c2 => first | exact ⟨rfl, rfl, rfl, rfl, rfl, rfl, rfl, rfl, rfl, rfl, rfl⟩ | (intro u hu; simp at hu; rcases hu with rfl | rfl | rfl | rfl | rfl | rfl | rfl | rfl | rfl | rfl | rfl <;> rfl)
          case c3 => unfold maxLen; omega
          case c4 => omega
          case c5 => first | omega | (simp <;> omega)
          intro g7 cp7 w7 hown hgrow hlie hglt
          have K7 : Below w.heap.size w w7 := (HKB.out.alloc (Below.size HKB.out) _).grown hgrow (by simp; omega) (fun k hk => by have := hrl2 k hk; omega)
          have R7 : RowR w7 wA.heap.size (.slice (some ⟨g7, 0, none⟩) (rs ++ [(⟨m'.u, m'.t, false, 0, 0, .zero⟩ : Rep)]).length cp7) (rs ++ [(⟨m'.u, m'.t, false, 0, 0, .zero⟩ : Rep)]) := by
           unfold RowR
           rw [List.length_append, List.length_singleton, rCells_snoc]; exact hown
          have bM7 : Blk w7 (gm) 116 #[.slice (some ⟨gs, 0, none⟩) n n, .slice (some ⟨gb, 0, none⟩) n n, .bool m'.own.1, .int .i64 m'.own.2.at_, .int .i64 m'.own.2.lo, .int .i64 m'.own.2.hi, .int .i64 m'.own.2.pp, .int .i64 m'.own.2.le, .int .i64 m'.own.2.re] := (hgrow.block _ (by simp; omega) (fun e => by have h9 := hrl2 _ e.symm; omega)).trans (bM.alloc _)
          have bS7 : Blk w7 (gs) 4 cs5 := (hgrow.block _ (by simp; omega) (fun e => by have h9 := hrl2 _ e.symm; omega)).trans (bS.alloc _)
          have bK7 : Blk w7 (gb) 43 cb5 := (hgrow.block _ (by simp; omega) (fun e => by have h9 := hrl2 _ e.symm; omega)).trans (bK.alloc _)
          have bC7 : Blk w7 (gc) 62 #[.int .i64 m'.ck.aim, .int .i64 m'.ck.rate, .bool m'.ck.set, .bool m'.ck.held, .int .i64 m'.ck.at_, .int .i64 m'.ck.shown] := (hgrow.block _ (by simp; omega) (fun e => by have h9 := hrl2 _ e.symm; omega)).trans (bC.alloc _)
          have bB7 : Blk w7 (w.heap.size) 54 #[.int .i64 sta, .int .i64 loc, .int .i64 p, .int .i64 li, .int .i64 ai, .slice (some ⟨be9, oe9, none⟩) n c, .slice (some ⟨bk9, off9, none⟩) nx sc] := (hgrow.block _ (by simp; omega) (fun e => by have h9 := hrl2 _ e.symm; omega)).trans (bB.alloc _)
          have hz7 := hgrow.size; simp only [World.size_alloc] at hz7
          have H7 := hYd (And.intro K7 (And.intro R7 (And.intro bM7 (And.intro bS7 (And.intro bK7 (And.intro bC7 bB7))))))
          clear hown hgrow hlie hglt K7 R7 bM7 bS7 bK7 bC7 bB7
          go_wp2
          go_roundg (nx - (q + 1))
          case measure => omega
          case rel => exact ⟨q + 1, m', rs ++ [(⟨m'.u, m'.t, false, 0, 0, .zero⟩ : Rep)], _, _, cs5, cb5, by omega, by omega, by go_num, HRUN2.out, rfl, rfl, by rw [List.length_append, List.length_singleton], H7.out.2.1, H7.out.2.2.1, H7.out.2.2.2.1, H7.out.2.2.2.2.1, HBY5.out, H7.out.2.2.2.2.2.1, H7.out.2.2.2.2.2.2, by omega, H7.out.1⟩
         | true =>
          obtain ⟨x, y, e9, hnow⟩ : ∃ x y e9, nowK m'.u ⟨m'.own.2.at_, m'.own.2.lo, m'.own.2.hi, m'.own.2.pp, m'.own.2.le, m'.own.2.re⟩ = (x, y, e9) := ⟨_, _, _, rfl⟩
          have hsp : spK m'.u ⟨m'.own.2.at_, m'.own.2.lo, m'.own.2.hi, m'.own.2.pp, m'.own.2.le, m'.own.2.re⟩ = (x, y) := by unfold spK; rw [hnow]
          have hc' : m'.ck = readK ⟨m.ck.aim, m.ck.rate, m.ck.set, m.ck.held, m.ck.at_, m.ck.shown⟩ m'.u x y := by rw [hck]; unfold ckOf; rw [hsp]; rfl
          have hr' : r9 = ⟨m'.u, m'.t, true, x, y, m'.ck⟩ := by rw [hrp, hck]; unfold repOf; rw [hsp]; rfl
          subst hr'
          clear hck hrp
          have RN := hYd (fun W => (show Calls _ _ _ _ (RB W (.tuple #[.agg #[.int .i64 x, .int .i64 y], .int .i64 e9])) from (congrArg V3 (show nowT m'.own.2.at_ m'.own.2.lo m'.own.2.hi m'.own.2.pp m'.own.2.le m'.own.2.re m'.u = (x, y, e9) from hnow)) ▸ rnow_any m'.own.2.at_ m'.own.2.lo m'.own.2.hi m'.own.2.pp m'.own.2.le m'.own.2.re m'.u W))
          clear hnow hsp
          have rr := fun W => hc' ▸ rread_rb ⟨m.ck.aim, m.ck.rate, m.ck.set, m.ck.held, m.ck.at_, m.ck.shown⟩ m'.u x y W
          clear hc'
          generalize rdE m.ck.aim m.ck.rate m.ck.set m.ck.at_ m.ck.shown m'.u x y = er at rr
          simp only [Clk.cs] at rr
          have RR := hYd rr; clear rr
          go_wp2_with fail
          refine (RN.out _).mono ?_
          rintro e v1 ⟨rfl, hb⟩
          have hq : Past [gm, gs, gb, gc] _ v1 := Past.below hb
          have hq0 : Past [] _ v1 := Past.below hb
          clear hb
          have Kv1 : Past [gm, gs, gb, gc] wr v1 := Past.trans pa1 hq
          have Zv1 : w6.heap.size ≤ v1.heap.size := Nat.le_trans (by first | exact Nat.le_refl _ | omega | (simp <;> omega)) hq.1
          have bM' : Blk v1 (gm) 116 #[.slice (some ⟨gs, 0, none⟩) n n, .slice (some ⟨gb, 0, none⟩) n n, .bool true, .int .i64 m'.own.2.at_, .int .i64 m'.own.2.lo, .int .i64 m'.own.2.hi, .int .i64 m'.own.2.pp, .int .i64 m'.own.2.le, .int .i64 m'.own.2.re] := hq0.blk (bn1) (by simp <;> omega)
          have bS' : Blk v1 (gs) 4 cs5 := hq0.blk (bn1) (by simp <;> omega)
          have bK' : Blk v1 (gb) 43 cb5 := hq0.blk (bn1) (by simp <;> omega)
          have bC' : Blk v1 (gc) 62 #[.int .i64 m.ck.aim, .int .i64 m.ck.rate, .bool m.ck.set, .bool m.ck.held, .int .i64 m.ck.at_, .int .i64 m.ck.shown] := hq0.blk (bn1) (by simp <;> omega)
          have bB' : Blk v1 (w.heap.size) 54 #[.int .i64 sta, .int .i64 loc, .int .i64 p, .int .i64 li, .int .i64 ai, .slice (some ⟨be9, oe9, none⟩) n c, .slice (some ⟨bk9, off9, none⟩) nx sc] := hq0.blk (bn1) (by simp <;> omega)
          have bX' : Blk v1 (wr.heap.size) 57 #[.int .i64 src, .int .i64 tr, .int .i64 lo, .int .i64 ou, .int .i64 ol, .int .i64 ho, .int .i64 hl, .int .i64 ba, .int .i64 bl9, .int .i64 w2', .int .i64 w3'] := hq0.blk (bn1) (by simp <;> omega)
          have bO' : Blk v1 (w6.heap.size) 64 #[.int .i64 m'.u, .int .i64 m'.t, .bool true, .int .i64 0, .int .i64 0, .int .i64 0, .int .i64 0, .bool false, .bool false, .int .i64 0, .int .i64 0] := hq0.blk (bn0) (by simp <;> omega)
          clear hq Kw6
          clear bM cM fM lM eM kM; have bM := bM'; clear bM'
          clear bS cS fS lS eS kS; have bS := bS'; clear bS'
          clear bK cK fK lK eK kK; have bK := bK'; clear bK'
          clear bC cC fC lC eC kC; have bC := bC'; clear bC'
          clear bB cB fB lB eB kB; have bB := bB'; clear bB'
          clear bX cX fX lX eX kX; have bX := bX'; clear bX'
          have bO := bO'; clear bO'
          obtain ⟨cM, fM, lM, eM, kM⟩ := Blk.facts bM
          obtain ⟨cS, fS, lS, eS, kS⟩ := Blk.facts bS
          obtain ⟨cK, fK, lK, eK, kK⟩ := Blk.facts bK
          obtain ⟨cC, fC, lC, eC, kC⟩ := Blk.facts bC
          obtain ⟨cB, fB, lB, eB, kB⟩ := Blk.facts bB
          obtain ⟨cX, fX, lX, eX, kX⟩ := Blk.facts bX
          obtain ⟨cO, fO, lO, eO, kO⟩ := Blk.facts bO
          have oO := lO
          clear hq0
          go_wp2_with fail
          refine (RR.out _).mono ?_
          rintro e v2 ⟨rfl, hb⟩
          have hq : Past [gm, gs, gb, gc] _ v2 := Past.below hb
          have hq0 : Past [] _ v2 := Past.below hb
          clear hb
          have h9 := setAll_blk [.int .i64 x, .int .i64 y] 3 _ _ bO
          simp only [setArr, setAll, lst, ls0, ls1, Nat.reduceAdd] at h9
          have bO9 := hq0.blk h9 (by simp)
          have Kv2 : Past [gm, gs, gb, gc] wr v2 := Past.trans pa1 hq
          have Zv2 : v1.heap.size ≤ v2.heap.size := Nat.le_trans (by first | exact Nat.le_refl _ | omega | (simp <;> omega)) hq.1
          have bM' : Blk v2 (gm) 116 #[.slice (some ⟨gs, 0, none⟩) n n, .slice (some ⟨gb, 0, none⟩) n n, .bool true, .int .i64 m'.own.2.at_, .int .i64 m'.own.2.lo, .int .i64 m'.own.2.hi, .int .i64 m'.own.2.pp, .int .i64 m'.own.2.le, .int .i64 m'.own.2.re] := hq0.blk (bn1) (by simp <;> omega)
          have bS' : Blk v2 (gs) 4 cs5 := hq0.blk (bn1) (by simp <;> omega)
          have bK' : Blk v2 (gb) 43 cb5 := hq0.blk (bn1) (by simp <;> omega)
          have bC' : Blk v2 (gc) 62 #[.int .i64 m.ck.aim, .int .i64 m.ck.rate, .bool m.ck.set, .bool m.ck.held, .int .i64 m.ck.at_, .int .i64 m.ck.shown] := hq0.blk (bn1) (by simp <;> omega)
          have bB' : Blk v2 (w.heap.size) 54 #[.int .i64 sta, .int .i64 loc, .int .i64 p, .int .i64 li, .int .i64 ai, .slice (some ⟨be9, oe9, none⟩) n c, .slice (some ⟨bk9, off9, none⟩) nx sc] := hq0.blk (bn1) (by simp <;> omega)
          have bX' : Blk v2 (wr.heap.size) 57 #[.int .i64 src, .int .i64 tr, .int .i64 lo, .int .i64 ou, .int .i64 ol, .int .i64 ho, .int .i64 hl, .int .i64 ba, .int .i64 bl9, .int .i64 w2', .int .i64 w3'] := hq0.blk (bn1) (by simp <;> omega)
          have bO' := bO9
          clear hq Kv1
          clear bM cM fM lM eM kM; have bM := bM'; clear bM'
          clear bS cS fS lS eS kS; have bS := bS'; clear bS'
          clear bK cK fK lK eK kK; have bK := bK'; clear bK'
          clear bC cC fC lC eC kC; have bC := bC'; clear bC'
          clear bB cB fB lB eB kB; have bB := bB'; clear bB'
          clear bX cX fX lX eX kX; have bX := bX'; clear bX'
          clear bO cO fO lO eO kO; have bO := bO'; clear bO'
          obtain ⟨cM, fM, lM, eM, kM⟩ := Blk.facts bM
          obtain ⟨cS, fS, lS, eS, kS⟩ := Blk.facts bS
          obtain ⟨cK, fK, lK, eK, kK⟩ := Blk.facts bK
          obtain ⟨cC, fC, lC, eC, kC⟩ := Blk.facts bC
          obtain ⟨cB, fB, lB, eB, kB⟩ := Blk.facts bB
          obtain ⟨cX, fX, lX, eX, kX⟩ := Blk.facts bX
          obtain ⟨cO, fO, lO, eO, kO⟩ := Blk.facts bO
          clear hq0
          clear h9 bO9
          go_upto_region 27 with fail
          obtain ⟨wE, hX9⟩ : ∃ x9 : World, x9 = ((((((v2.setCell ⟨gc, 0, none⟩ (.int .i64 m'.ck.aim)).setCell ⟨gc, 1, none⟩ (.int .i64 m'.ck.rate)).setCell ⟨gc, 2, none⟩ (.bool m'.ck.set)).setCell ⟨gc, 3, none⟩ (.bool m'.ck.held)).setCell ⟨gc, 4, none⟩ (.int .i64 m'.ck.at_)).setCell ⟨gc, 5, none⟩ (.int .i64 m'.ck.shown)) := ⟨_, rfl⟩
          have hqX : Past [gm, gs, gb, gc] wr wE := by rw [hX9]; exact pa1
          have bM' : Blk wE (gm) 116 #[.slice (some ⟨gs, 0, none⟩) n n, .slice (some ⟨gb, 0, none⟩) n n, .bool true, .int .i64 m'.own.2.at_, .int .i64 m'.own.2.lo, .int .i64 m'.own.2.hi, .int .i64 m'.own.2.pp, .int .i64 m'.own.2.le, .int .i64 m'.own.2.re] := by rw [hX9]; exact bn1
          have bS' : Blk wE (gs) 4 cs5 := by rw [hX9]; exact bn1
          have bK' : Blk wE (gb) 43 cb5 := by rw [hX9]; exact bn1
          have bC' : Blk wE (gc) 62 #[.int .i64 m'.ck.aim, .int .i64 m'.ck.rate, .bool m'.ck.set, .bool m'.ck.held, .int .i64 m'.ck.at_, .int .i64 m'.ck.shown] := by rw [hX9]; exact (by have h9 := setAll_blk [.int .i64 m'.ck.aim, .int .i64 m'.ck.rate, .bool m'.ck.set, .bool m'.ck.held, .int .i64 m'.ck.at_, .int .i64 m'.ck.shown] 0 _ _ bC; simp only [setArr, setAll, lst, ls0, ls1, Nat.reduceAdd] at h9; exact h9)
          have bB' : Blk wE (w.heap.size) 54 #[.int .i64 sta, .int .i64 loc, .int .i64 p, .int .i64 li, .int .i64 ai, .slice (some ⟨be9, oe9, none⟩) n c, .slice (some ⟨bk9, off9, none⟩) nx sc] := by rw [hX9]; exact bn1
          have bX' : Blk wE (wr.heap.size) 57 #[.int .i64 src, .int .i64 tr, .int .i64 lo, .int .i64 ou, .int .i64 ol, .int .i64 ho, .int .i64 hl, .int .i64 ba, .int .i64 bl9, .int .i64 w2', .int .i64 w3'] := by rw [hX9]; exact bn1
          have bO' : Blk wE (w6.heap.size) 64 #[.int .i64 m'.u, .int .i64 m'.t, .bool true, .int .i64 x, .int .i64 y, .int .i64 0, .int .i64 0, .bool false, .bool false, .int .i64 0, .int .i64 0] := by rw [hX9]; exact bn1
          have ZwE : v2.heap.size ≤ wE.heap.size := by rw [hX9]; first | omega | (simp; done) | (simp [setAll_size]; done) | (simp <;> omega)
          rw [← hX9]
          clear hX9 Kv2
          clear bM cM fM lM eM kM; have bM := bM'; clear bM'
          clear bS cS fS lS eS kS; have bS := bS'; clear bS'
          clear bK cK fK lK eK kK; have bK := bK'; clear bK'
          clear bC cC fC lC eC kC; have bC := bC'; clear bC'
          clear bB cB fB lB eB kB; have bB := bB'; clear bB'
          clear bX cX fX lX eX kX; have bX := bX'; clear bX'
          clear bO cO fO lO eO kO; have bO := bO'; clear bO'
          have hqXwE := hqX; clear hqX
          obtain ⟨cM, fM, lM, eM, kM⟩ := Blk.facts bM
          obtain ⟨cS, fS, lS, eS, kS⟩ := Blk.facts bS
          obtain ⟨cK, fK, lK, eK, kK⟩ := Blk.facts bK
          obtain ⟨cC, fC, lC, eC, kC⟩ := Blk.facts bC
          obtain ⟨cB, fB, lB, eB, kB⟩ := Blk.facts bB
          obtain ⟨cX, fX, lX, eX, kX⟩ := Blk.facts bX
          obtain ⟨cO, fO, lO, eO, kO⟩ := Blk.facts bO
          go_upto_region 28 with fail
          obtain ⟨wF, hX9⟩ : ∃ x9 : World, x9 = ((((((wE.setCell ⟨w6.heap.size, 5, none⟩ (.int .i64 m'.ck.aim)).setCell ⟨w6.heap.size, 6, none⟩ (.int .i64 m'.ck.rate)).setCell ⟨w6.heap.size, 7, none⟩ (.bool m'.ck.set)).setCell ⟨w6.heap.size, 8, none⟩ (.bool m'.ck.held)).setCell ⟨w6.heap.size, 9, none⟩ (.int .i64 m'.ck.at_)).setCell ⟨w6.heap.size, 10, none⟩ (.int .i64 m'.ck.shown)) := ⟨_, rfl⟩
          have hqX : Past [gm, gs, gb, gc] wr wF := by rw [hX9]; exact pa1
          have bM' : Blk wF (gm) 116 #[.slice (some ⟨gs, 0, none⟩) n n, .slice (some ⟨gb, 0, none⟩) n n, .bool m'.own.1, .int .i64 m'.own.2.at_, .int .i64 m'.own.2.lo, .int .i64 m'.own.2.hi, .int .i64 m'.own.2.pp, .int .i64 m'.own.2.le, .int .i64 m'.own.2.re] := by rw [hX9]; exact (by rw [HOB.out]; exact bn1)
          have bS' : Blk wF (gs) 4 cs5 := by rw [hX9]; exact bn1
          have bK' : Blk wF (gb) 43 cb5 := by rw [hX9]; exact bn1
          have bC' : Blk wF (gc) 62 #[.int .i64 m'.ck.aim, .int .i64 m'.ck.rate, .bool m'.ck.set, .bool m'.ck.held, .int .i64 m'.ck.at_, .int .i64 m'.ck.shown] := by rw [hX9]; exact bn1
          have bB' : Blk wF (w.heap.size) 54 #[.int .i64 sta, .int .i64 loc, .int .i64 p, .int .i64 li, .int .i64 ai, .slice (some ⟨be9, oe9, none⟩) n c, .slice (some ⟨bk9, off9, none⟩) nx sc] := by rw [hX9]; exact bn1
          have bX' : Blk wF (wr.heap.size) 57 #[.int .i64 src, .int .i64 tr, .int .i64 lo, .int .i64 ou, .int .i64 ol, .int .i64 ho, .int .i64 hl, .int .i64 ba, .int .i64 bl9, .int .i64 w2', .int .i64 w3'] := by rw [hX9]; exact bn1
          have bO' : Blk wF (w6.heap.size) 64 #[.int .i64 m'.u, .int .i64 m'.t, .bool true, .int .i64 x, .int .i64 y, .int .i64 m'.ck.aim, .int .i64 m'.ck.rate, .bool m'.ck.set, .bool m'.ck.held, .int .i64 m'.ck.at_, .int .i64 m'.ck.shown] := by rw [hX9]; exact (by have h9 := setAll_blk [.int .i64 m'.ck.aim, .int .i64 m'.ck.rate, .bool m'.ck.set, .bool m'.ck.held, .int .i64 m'.ck.at_, .int .i64 m'.ck.shown] 5 _ _ bO; simp only [setArr, setAll, lst, ls0, ls1, Nat.reduceAdd] at h9; exact h9)
          have ZwF : wE.heap.size ≤ wF.heap.size := by rw [hX9]; first | omega | (simp; done) | (simp [setAll_size]; done) | (simp <;> omega)
          rw [← hX9]
          clear hX9 hqXwE
          clear bM cM fM lM eM kM; have bM := bM'; clear bM'
          clear bS cS fS lS eS kS; have bS := bS'; clear bS'
          clear bK cK fK lK eK kK; have bK := bK'; clear bK'
          clear bC cC fC lC eC kC; have bC := bC'; clear bC'
          clear bB cB fB lB eB kB; have bB := bB'; clear bB'
          clear bX cX fX lX eX kX; have bX := bX'; clear bX'
          clear bO cO fO lO eO kO; have bO := bO'; clear bO'
          have hqXwF := hqX; clear hqX
          obtain ⟨cM, fM, lM, eM, kM⟩ := Blk.facts bM
          obtain ⟨cS, fS, lS, eS, kS⟩ := Blk.facts bS
          obtain ⟨cK, fK, lK, eK, kK⟩ := Blk.facts bK
          obtain ⟨cC, fC, lC, eC, kC⟩ := Blk.facts bC
          obtain ⟨cB, fB, lB, eB, kB⟩ := Blk.facts bB
          obtain ⟨cX, fX, lX, eX, kX⟩ := Blk.facts bX
          obtain ⟨cO, fO, lO, eO, kO⟩ := Blk.facts bO
          obtain ⟨i0, hif, hz0, hz1, hz2⟩ := info_parts infoRep
          have hrl64 : rs.length ≤ 64 := by have h9 := (RunN.len HRUN.out).1; omega
          have HROW2 := hYd (HROW.out.past hqXwF (show ∀ k ∈ ([gm, gs, gb, gc] : List Nat), k < wA.heap.size by intro k hk; simp at hk; omega))
          have KB9 : Below w.heap.size w wF := Past.belowX HKR.out hqXwF (show ∀ k ∈ ([gm, gs, gb, gc] : List Nat), w.heap.size ≤ k by intro k hk; simp at hk; omega)
          have HKB := hYd KB9; clear KB9
          generalize hv : (Value.slice A' rs.length c') = v9 at *
          have hrl2 := RowR.lt HROW2.out
          clear hv HROW hrl
          go_wp2_with (at_builtin; refine wpList_append_lies _ rfl _ _ 58 rfl wA.heap.size 64 i0 (.agg #[.int .i64 0, .int .i64 0, .bool false, .int .i64 0, .int .i64 0, .int .i64 0, .int .i64 0, .bool false, .bool false, .int .i64 0, .int .i64 0]) 11 80 Tryz.underlying58 hif hz0 hz1 hz2 rfl (by decide) v9 rs.length (rCells rs) rfl (RowR.below HROW2.out ((Below.refl _ _).alloc (Nat.le_refl _) _)) ⟨wF.heap.size, 0, none⟩ 1 1 [.int .i64 m'.u, .int .i64 m'.t, .bool true, .int .i64 x, .int .i64 y, .int .i64 m'.ck.aim, .int .i64 m'.ck.rate, .bool m'.ck.set, .bool m'.ck.held, .int .i64 m'.ck.at_, .int .i64 m'.ck.shown] rfl rfl (World.news_of_block (t := 64) (fr := (0, 0)) (Blk.new _ _ _)) ?c2 (by decide) ?c3 ?c4 ?c5 _ rfl ?_)
          case c2 => first | exact ⟨rfl, rfl, rfl, rfl, rfl, rfl, rfl, rfl, rfl, rfl, rfl⟩ | (intro u hu; simp at hu; rcases hu with rfl | rfl | rfl | rfl | rfl | rfl | rfl | rfl | rfl | rfl | rfl <;> rfl)
          case c3 => unfold maxLen; omega
          case c4 => omega
          case c5 => first | omega | (simp <;> omega)
          intro g7 cp7 w7 hown hgrow hlie hglt
          have K7 : Below w.heap.size w w7 := (HKB.out.alloc (Below.size HKB.out) _).grown hgrow (by simp; omega) (fun k hk => by have := hrl2 k hk; omega)
          have R7 : RowR w7 wA.heap.size (.slice (some ⟨g7, 0, none⟩) (rs ++ [(⟨m'.u, m'.t, true, x, y, m'.ck⟩ : Rep)]).length cp7) (rs ++ [(⟨m'.u, m'.t, true, x, y, m'.ck⟩ : Rep)]) := by
           unfold RowR
           rw [List.length_append, List.length_singleton, rCells_snoc]; exact hown
          have bM7 : Blk w7 (gm) 116 #[.slice (some ⟨gs, 0, none⟩) n n, .slice (some ⟨gb, 0, none⟩) n n, .bool m'.own.1, .int .i64 m'.own.2.at_, .int .i64 m'.own.2.lo, .int .i64 m'.own.2.hi, .int .i64 m'.own.2.pp, .int .i64 m'.own.2.le, .int .i64 m'.own.2.re] := (hgrow.block _ (by simp; omega) (fun e => by have h9 := hrl2 _ e.symm; omega)).trans (bM.alloc _)
          have bS7 : Blk w7 (gs) 4 cs5 := (hgrow.block _ (by simp; omega) (fun e => by have h9 := hrl2 _ e.symm; omega)).trans (bS.alloc _)
          have bK7 : Blk w7 (gb) 43 cb5 := (hgrow.block _ (by simp; omega) (fun e => by have h9 := hrl2 _ e.symm; omega)).trans (bK.alloc _)
          have bC7 : Blk w7 (gc) 62 #[.int .i64 m'.ck.aim, .int .i64 m'.ck.rate, .bool m'.ck.set, .bool m'.ck.held, .int .i64 m'.ck.at_, .int .i64 m'.ck.shown] := (hgrow.block _ (by simp; omega) (fun e => by have h9 := hrl2 _ e.symm; omega)).trans (bC.alloc _)
          have bB7 : Blk w7 (w.heap.size) 54 #[.int .i64 sta, .int .i64 loc, .int .i64 p, .int .i64 li, .int .i64 ai, .slice (some ⟨be9, oe9, none⟩) n c, .slice (some ⟨bk9, off9, none⟩) nx sc] := (hgrow.block _ (by simp; omega) (fun e => by have h9 := hrl2 _ e.symm; omega)).trans (bB.alloc _)
          have hz7 := hgrow.size; simp only [World.size_alloc] at hz7
          have H7 := hYd (And.intro K7 (And.intro R7 (And.intro bM7 (And.intro bS7 (And.intro bK7 (And.intro bC7 bB7))))))
          clear hown hgrow hlie hglt K7 R7 bM7 bS7 bK7 bC7 bB7
          go_wp2
          go_roundg (nx - (q + 1))
          case measure => omega
          case rel => exact ⟨q + 1, m', rs ++ [(⟨m'.u, m'.t, true, x, y, m'.ck⟩ : Rep)], _, _, cs5, cb5, by omega, by omega, by go_num, HRUN2.out, rfl, rfl, by rw [List.length_append, List.length_singleton], H7.out.2.1, H7.out.2.2.1, H7.out.2.2.2.1, H7.out.2.2.2.2.1, HBY5.out, H7.out.2.2.2.2.2.1, H7.out.2.2.2.2.2.2, by omega, H7.out.1⟩
    ·obtain rfl : q = nx := by omega
     have gq : decide ((q : Int) < (q : Int)) = false := decide_eq_false (by omega)
     have gqn : decide (q < q) = false := decide_eq_false (by omega)
     have cB := bB.cell; have lB := bB.lt
     go_wp2
     refine bodyPost_ret (v := .tuple #[.slice A' rs.length c', .int .i64 0]) (by simp [results, Tryz.results31, go_sem, *]) rfl ?_
     refine ⟨fun h => absurd HER.out h, fun _ => ⟨m, rs, A', c', by show RunN _ xs.length m rs; rw [← HX.out]; exact HRUN.out, rfl, ?_⟩, KR⟩
     exact HROW.out.weaken (by omega)
end Go.Proofs.YtlnboheahbfgfaaGreat
