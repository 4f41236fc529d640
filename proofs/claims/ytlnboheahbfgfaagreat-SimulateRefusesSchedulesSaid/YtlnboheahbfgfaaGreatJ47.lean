/- Texts joined: R41H, R41T -/
import Derived.Test.YtlnboheahbfgfaaGreatJ43
import Derived.Test.YtlnboheahbfgfaaGreatR23
import Derived.Test.YtlnboheahbfgfaaGreatJ27
import Derived.Test.YtlnboheahbfgfaaGreatJ35
import Derived.Test.YtlnboheahbfgfaaGreatSim4
import Derived.Test.YtlnboheahbfgfaaGreatJ40
import Derived.Test.YtlnboheahbfgfaaGreatJ46
import Derived.Test.YtlnboheahbfgfaaGreatJ29
namespace Go.Proofs.YtlnboheahbfgfaaGreat
open Go.RowKit Go.Shelf Go.Sort
set_option linter.unusedSimpArgs false
set_option linter.unusedVariables false

def ByAt (cs cb : Array Value) (l : List Kw) : Prop := cs.size = l.length ∧ cb.size = l.length * 6 ∧ ∀ j, j < l.length → cs[j]? = some (.bool (l.getD j (false, .zero)).1) ∧ ∀ i, i < 6 → cb[j * 6 + i]? = (l.getD j (false, .zero)).2.cs[i]?
theorem ByAt.put {cs cb : Array Value} {l : List Kw} (h : ByAt cs cb l) {q : Nat} (hq : q < l.length) (k : K6) : ByAt (cs.setIfInBounds q (.bool true)) (setArr cb (q * 6) k.cs) (l.set q (true, k)) := by
 have hk : k.cs.length = 6 := rfl
 refine ⟨by rw [Array.size_setIfInBounds, List.length_set]; exact h.1, by rw [setArr_size, List.length_set]; exact h.2.1, fun j hj => ?_⟩
 rw [List.length_set] at hj
 rw [getD_set']
 obtain ⟨h1, h2⟩ := h.2.2 j hj
 refine ⟨?_, fun i hi => ?_⟩
 ·by_cases e : j = q
  ·subst e; rw [if_pos ⟨rfl, hq⟩, Array.getElem?_setIfInBounds_self, if_pos (by rw [h.1]; exact hq)]
  ·rw [if_neg (by simp [e]), Array.getElem?_setIfInBounds, if_neg (by omega)]; exact h1
 ·rw [setArr_get _ _ _ _ (by rw [hk, h.2.1]; omega), hk]
  by_cases e : j = q
  ·subst e; rw [if_pos (by omega), if_pos ⟨rfl, hq⟩]; congr 1; omega
  ·rw [if_neg (by omega), if_neg (by simp [e])]; exact h2 i hi
theorem ByAt.same {cs cb : Array Value} {l : List Kw} (h : ByAt cs cb l) {q : Nat} (hq : q < l.length) (hs : (l.getD q (false, .zero)).1 = true) : cs.setIfInBounds q (.bool true) = cs := by
 have h1 := (h.2.2 q hq).1
 rw [hs] at h1
 refine Array.ext_getElem? fun i => ?_
 rw [Array.getElem?_setIfInBounds]
 split
 ·rename_i e; subst e; rw [if_pos (by rw [h.1]; exact hq), h1]
 ·rfl
theorem rread_rb (c : Clk) (t lo hi : Int) (w : World) : Calls Tryz.prog 68 #[.agg #[.int .i64 c.aim, .int .i64 c.rate, .bool c.set, .bool c.held, .int .i64 c.at_, .int .i64 c.shown], .int .i64 t, .agg #[.int .i64 lo, .int .i64 hi]] w (RB w (.tuple #[.agg (readK c t lo hi).cs.toArray, .int .i64 (rdE c.aim c.rate c.set c.at_ c.shown t lo hi)])) := by
 refine (rread_any c.aim c.rate c.set c.held c.at_ c.shown t lo hi w).mono ?_
 rintro e w' ⟨h1, h2⟩
 rw [readK_V] at h1
 exact ⟨h1, h2⟩
set_option maxRecDepth 100000 in
set_option maxHeartbeats 8000000 in
theorem rhear_any (gm gs gb n src : Nat) (cs cb : Array Value) (l : List Kw) (an : Bool) (o0 o1 o2 o3 o4 o5 : Int) (t1 t2 t3 t4 err p lo hi er : Int) (w : World) (hM : Blk w gm 116 #[.slice (some ⟨gs, 0, none⟩) n n, .slice (some ⟨gb, 0, none⟩) n n, .bool an, .int .i64 o0, .int .i64 o1, .int .i64 o2, .int .i64 o3, .int .i64 o4, .int .i64 o5]) (hS : Blk w gs 4 cs) (hB9 : Blk w gb 43 cb) (hl : l.length = n) (hn9 : n ≤ 64) (hsrc : src < n) (n1 : gm ≠ gs) (n2 : gm ≠ gb) (n3 : gs ≠ gb) (hc : ByAt cs cb l) (ha : atT t1 t2 t3 t4 err p = (lo, hi, er)) (hL : er = 0 → (l.getD src (false, .zero)).1 = true → (lrnK (l.getD src (false, .zero)).2 t4 lo hi).e = 0) :
  Calls Tryz.prog 65 #[.pointer (some ⟨gm, 0, none⟩), .int .i64 src, .agg #[.int .i64 t1, .int .i64 t2, .int .i64 t3, .int .i64 t4, .int .i64 err], .int .i64 p] w (fun e w' => e = .returned (.tuple #[]) ∧ ∃ cs' cb', Blk w' gm 116 #[.slice (some ⟨gs, 0, none⟩) n n, .slice (some ⟨gb, 0, none⟩) n n, .bool an, .int .i64 o0, .int .i64 o1, .int .i64 o2, .int .i64 o3, .int .i64 o4, .int .i64 o5] ∧ Blk w' gs 4 cs' ∧ Blk w' gb 43 cb' ∧ ByAt cs' cb' (if er = 0 then l.set src (takeK (l.getD src (false, .zero)) t4 lo hi p) else l) ∧ Past [gs, gb] w w') := by
 have ra := fun W => rat_any t1 t2 t3 t4 err p W
 simp only [atT_V, ha, V3] at ra
 have RA := hYd ra; clear ra ha
 have gsn : decide ((src : Int) < (n : Int)) = true := decide_eq_true (by omega)
 have gsnn : decide (src < n) = true := decide_eq_true hsrc
 obtain ⟨hc1, hc2⟩ := hc.2.2 src (by omega)
 have e0 := hc2 0 (by omega); have e1 := hc2 1 (by omega); have e2 := hc2 2 (by omega); have e3 := hc2 3 (by omega); have e4 := hc2 4 (by omega); have e5 := hc2 5 (by omega)
 have hput := fun k => hc.put (q := src) (by omega) k
 have hsame := hc.same (q := src) (by omega)
 obtain ⟨kv, hkv⟩ : ∃ kv, l.getD src (false, .zero) = kv := ⟨_, rfl⟩
 simp only [hkv] at hc1 e0 e1 e2 e3 e4 e5 hL hsame ⊢
 clear hc2 hkv
 obtain ⟨b, ka, klo, khi, kp, kle, kre⟩ := kv
 simp only [K6.cs, lg0, lg1, Nat.add_zero] at e0 e1 e2 e3 e4 e5
 dsimp only at hc1 hL hsame
 have HL := hYd hL; have HPUT := hYd hput; have HSAME := hYd hsame; have HC := hYd hc; clear hL hput hsame hc
 have bM := hM; have bS := hS; have bK := hB9; clear hM hS hB9
 have lM0 := bM.lt; have lS0 := bS.lt; have lK0 := bK.lt
 by_cases he0 : er = 0
 rotate_left
 ·rw [if_neg he0]
  have ge1 : (er == 0) = false := by simpa using he0
  have ge2 : (er != 0) = true := by simpa using he0
  go_enter Tryz.func65, Tryz.ntmps65
  obtain ⟨cM, fM, lM, eM, kM⟩ := Blk.facts bM
  obtain ⟨cS, fS, lS, eS, kS⟩ := Blk.facts bS
  obtain ⟨cK, fK, lK, eK, kK⟩ := Blk.facts bK
  go_wp2_with fail
  refine (RA.out _).mono ?_
  rintro e v1 ⟨rfl, hb⟩
  have hq : Past [gs, gb] _ v1 := Past.below hb
  have hq0 : Past [] _ v1 := Past.below hb
  clear hb
  have Kv1 : Past [gs, gb] w v1 := Past.trans pa1 hq
  have Zv1 : w.heap.size ≤ v1.heap.size := Nat.le_trans (by first | exact Nat.le_refl _ | omega | (simp <;> omega)) hq.1
  have bM' : Blk v1 (gm) 116 #[.slice (some ⟨gs, 0, none⟩) n n, .slice (some ⟨gb, 0, none⟩) n n, .bool an, .int .i64 o0, .int .i64 o1, .int .i64 o2, .int .i64 o3, .int .i64 o4, .int .i64 o5] := hq0.blk (bn1) (by simp <;> omega)
  have bS' : Blk v1 (gs) 4 cs := hq0.blk (bn1) (by simp <;> omega)
  have bK' : Blk v1 (gb) 43 cb := hq0.blk (bn1) (by simp <;> omega)
  have bX' : Blk v1 (w.heap.size) 92 #[.int .i64 t1, .int .i64 t2, .int .i64 t3, .int .i64 t4, .int .i64 err] := hq0.blk (bn0) (by simp <;> omega)
  clear hq
  clear bM cM fM lM eM kM; have bM := bM'; clear bM'
  clear bS cS fS lS eS kS; have bS := bS'; clear bS'
  clear bK cK fK lK eK kK; have bK := bK'; clear bK'
  have bX := bX'; clear bX'
  obtain ⟨cM, fM, lM, eM, kM⟩ := Blk.facts bM
  obtain ⟨cS, fS, lS, eS, kS⟩ := Blk.facts bS
  obtain ⟨cK, fK, lK, eK, kK⟩ := Blk.facts bK
  obtain ⟨cX, fX, lX, eX, kX⟩ := Blk.facts bX
  have oX := lX
  clear hq0
  go_wp2
  first | refine bodyPost_end (results_none rfl _ _ _) rfl ?_ | refine bodyPost_ret (results_none rfl _ _ _) rfl ?_
  exact ⟨rfl, cs, cb, bn1, bn1, bn1, HC.out, pa1⟩
 subst he0
 rw [if_pos rfl]
 cases b with
 | false =>
  have rb := fun W => begK_V t4 lo hi p ▸ rbegin_any t4 lo hi p W
  have hk9 : takeK (false, ⟨ka, klo, khi, kp, kle, kre⟩) t4 lo hi p = (true, begK t4 lo hi p) := rfl
  rw [hk9]
  obtain ⟨nk, hnk⟩ : ∃ nk, begK t4 lo hi p = nk := ⟨_, rfl⟩
  rw [hnk] at rb ⊢
  have hput2 := HPUT.out nk
  obtain ⟨na, nlo, nhi, np, nle, nre⟩ := nk
  simp only [K6.cs] at rb hput2
  have RB1 := hYd rb; have HPUT2 := hYd hput2
  clear hk9 hnk rb hput2
  go_enter Tryz.func65, Tryz.ntmps65
  obtain ⟨cM, fM, lM, eM, kM⟩ := Blk.facts bM
  obtain ⟨cS, fS, lS, eS, kS⟩ := Blk.facts bS
  obtain ⟨cK, fK, lK, eK, kK⟩ := Blk.facts bK
  go_wp2_with fail
  refine (RA.out _).mono ?_
  rintro e v1 ⟨rfl, hb⟩
  have hq : Past [gs, gb] _ v1 := Past.below hb
  have hq0 : Past [] _ v1 := Past.below hb
  clear hb
  have Kv1 : Past [gs, gb] w v1 := Past.trans pa1 hq
  have Zv1 : w.heap.size ≤ v1.heap.size := Nat.le_trans (by first | exact Nat.le_refl _ | omega | (simp <;> omega)) hq.1
  have bM' : Blk v1 (gm) 116 #[.slice (some ⟨gs, 0, none⟩) n n, .slice (some ⟨gb, 0, none⟩) n n, .bool an, .int .i64 o0, .int .i64 o1, .int .i64 o2, .int .i64 o3, .int .i64 o4, .int .i64 o5] := hq0.blk (bn1) (by simp <;> omega)
  have bS' : Blk v1 (gs) 4 cs := hq0.blk (bn1) (by simp <;> omega)
  have bK' : Blk v1 (gb) 43 cb := hq0.blk (bn1) (by simp <;> omega)
  have bX' : Blk v1 (w.heap.size) 92 #[.int .i64 t1, .int .i64 t2, .int .i64 t3, .int .i64 t4, .int .i64 err] := hq0.blk (bn0) (by simp <;> omega)
  clear hq
  clear bM cM fM lM eM kM; have bM := bM'; clear bM'
  clear bS cS fS lS eS kS; have bS := bS'; clear bS'
  clear bK cK fK lK eK kK; have bK := bK'; clear bK'
  have bX := bX'; clear bX'
  obtain ⟨cM, fM, lM, eM, kM⟩ := Blk.facts bM
  obtain ⟨cS, fS, lS, eS, kS⟩ := Blk.facts bS
  obtain ⟨cK, fK, lK, eK, kK⟩ := Blk.facts bK
  obtain ⟨cX, fX, lX, eX, kX⟩ := Blk.facts bX
  have oX := lX
  clear hq0
  go_upto_region 4 with fail
  obtain ⟨wA, hwA⟩ : ∃ x : World, x = v1.alloc (.cells #[.int .i64 lo, .int .i64 hi] 29) := ⟨_, rfl⟩
  have hqA : Past [gs, gb] v1 wA := by rw [hwA]; exact (Past.refl _ _).allocs _
  have bM' : Blk wA (gm) 116 #[.slice (some ⟨gs, 0, none⟩) n n, .slice (some ⟨gb, 0, none⟩) n n, .bool an, .int .i64 o0, .int .i64 o1, .int .i64 o2, .int .i64 o3, .int .i64 o4, .int .i64 o5] := by rw [hwA]; exact bM.alloc _
  have bS' : Blk wA (gs) 4 cs := by rw [hwA]; exact bS.alloc _
  have bK' : Blk wA (gb) 43 cb := by rw [hwA]; exact bK.alloc _
  have bX' : Blk wA (w.heap.size) 92 #[.int .i64 t1, .int .i64 t2, .int .i64 t3, .int .i64 t4, .int .i64 err] := by rw [hwA]; exact bX.alloc _
  have bN' : Blk wA v1.heap.size 29 #[.int .i64 lo, .int .i64 hi] := by rw [hwA]; exact Blk.new _ _ _
  have ZA : v1.heap.size + 1 ≤ wA.heap.size := by rw [hwA]; simp
  rw [← hwA]
  clear hwA
  have KA := Past.trans Kv1 hqA
  clear hqA Kv1
  clear bM cM fM lM eM kM; have bM := bM'; clear bM'
  clear bS cS fS lS eS kS; have bS := bS'; clear bS'
  clear bK cK fK lK eK kK; have bK := bK'; clear bK'
  clear bX cX fX lX eX kX; have bX := bX'; clear bX'
  have bN := bN'; clear bN'
  obtain ⟨cM, fM, lM, eM, kM⟩ := Blk.facts bM
  obtain ⟨cS, fS, lS, eS, kS⟩ := Blk.facts bS
  obtain ⟨cK, fK, lK, eK, kK⟩ := Blk.facts bK
  obtain ⟨cX, fX, lX, eX, kX⟩ := Blk.facts bX
  obtain ⟨cN, fN, lN, eN, kN⟩ := Blk.facts bN
  have oN := lN
  refine' wp_region_calmD (by kernel_rfl) (fun D u9 w' => Past [gs, gb] wA w' ∧ Blk w' (gm) 116 #[.slice (some ⟨gs, 0, none⟩) n n, .slice (some ⟨gb, 0, none⟩) n n, .bool an, .int .i64 o0, .int .i64 o1, .int .i64 o2, .int .i64 o3, .int .i64 o4, .int .i64 o5] ∧ Blk w' (gs) 4 cs ∧ (D 14 = false → Blk w' (gb) 43 cb) ∧ (D 14 = true → Blk w' (gb) 43 (setArr cb (src * 6) [.int .i64 na, .int .i64 nlo, .int .i64 nhi, .int .i64 np, .int .i64 nle, .int .i64 nre])) ∧ Blk w' (w.heap.size) 92 #[.int .i64 t1, .int .i64 t2, .int .i64 t3, .int .i64 t4, .int .i64 err] ∧ Blk w' (v1.heap.size) 29 #[.int .i64 lo, .int .i64 hi] ∧ wA.heap.size ≤ w'.heap.size) (fun _ _ => True) [(Is _), (Is _), (Is _), (Is _), (Is _), (Is _), (Is _), (Is _), (Is _), (Is _), (Is _), (Is _), (Is _), (Is _), (fun _ _ _ => True)] [[], [0], [1], [2], [], [], [5], [], [], [6, 7, 8], [9], [10], [10], [3, 4], [13, 11]] rfl (calmB_of (by kernel_rfl)) (fun u => by (simp only [calmPut, Act.put, lst, ls0, ls1, Nat.zero_add, Nat.reduceAdd]; rfl)) ?_ (kcc keep_is' (kcc keep_is' (kcc keep_is' (kcc keep_is' (kcc keep_is' (kcc keep_is' (kcc keep_is' (kcc keep_is' (kcc keep_is' (kcc keep_is' (kcc keep_is' (kcc keep_is' (kcc keep_is' (kcc keep_is' (kcc keep_triv (calmKeep_nil)))))))))))))))) ?_ ?_
  ·exact ⟨pa1, bn1, bn1, (fun _ => bn1), (fun h => by cases h), bn1, bn1, (by first | exact Nat.le_refl _ | omega | (simp <;> omega))⟩
  rotate_left 14
  ·skip
   refine dc0 (fun uu wq D hC K hK => ?_) ?_
   ·obtain ⟨hP, mM, mS, mK, yK, mX, mN, hZ⟩ := hC
    go_simp
    exact hK _ _ _ rfl ⟨hP, mM, mS, mK, yK, mX, mN, hZ⟩ trivial rfl
   refine dc1 (fun uu wq D hC hk K hK => ?_) ?_
   ·obtain ⟨hP, mM, mS, mK, yK, mX, mN, hZ⟩ := hC
    simp only [calmKnown, lg0, lg1, and_true, Is] at hk
    have h0 := hk; clear hk
    simp only [h0] at hK ⊢
    have H0 := hYd h0; clear h0
    go_simp
    exact hK _ _ _ rfl ⟨hP, mM, mS, mK, yK, mX, mN, hZ⟩ trivial rfl
   refine dc1 (fun uu wq D hC hk K hK => ?_) ?_
   ·obtain ⟨hP, mM, mS, mK, yK, mX, mN, hZ⟩ := hC
    simp only [calmKnown, lg0, lg1, and_true, Is] at hk
    have h1 := hk; clear hk
    simp only [h1] at hK ⊢
    have H1 := hYd h1; clear h1
    go_simp
    exact hK _ _ _ rfl ⟨hP, mM, mS, mK, yK, mX, mN, hZ⟩ trivial rfl
   refine dc2 (fun uu wq D hd hn hn2 hC hk K hK => ?_) ?_
   ·obtain ⟨hP, mM, mS, mK, yK, mX, mN, hZ⟩ := hC
    simp only [calmKnown, lg0, lg1, and_true, Is] at hk
    have h2 := hk; clear hk
    simp only [h2] at hK ⊢
    have H2 := hYd h2; clear h2
    have cM := mM.cell; have lM := mM.lt
    have cS := mS.cell; have lS := mS.lt
    have cX := mX.cell; have lX := mX.lt
    have cN := mN.cell; have lN := mN.lt
    have hB := mK (hn.out 14 (by kernel_rfl)); have cK := hB.cell; have lK := hB.lt
    go_simp
    exact hK _ _ _ rfl ⟨hP, mM, mS, mK, yK, mX, mN, hZ⟩ trivial rfl
   refine dc0 (fun uu wq D hC K hK => ?_) ?_
   ·obtain ⟨hP, mM, mS, mK, yK, mX, mN, hZ⟩ := hC
    go_simp
    exact hK _ _ _ rfl ⟨hP, mM, mS, mK, yK, mX, mN, hZ⟩ trivial rfl
   refine dc0 (fun uu wq D hC K hK => ?_) ?_
   ·obtain ⟨hP, mM, mS, mK, yK, mX, mN, hZ⟩ := hC
    go_simp
    exact hK _ _ _ rfl ⟨hP, mM, mS, mK, yK, mX, mN, hZ⟩ trivial rfl
   refine dc2 (fun uu wq D hd hn hn2 hC hk K hK => ?_) ?_
   ·obtain ⟨hP, mM, mS, mK, yK, mX, mN, hZ⟩ := hC
    simp only [calmKnown, lg0, lg1, and_true, Is] at hk
    have h5 := hk; clear hk
    simp only [h5] at hK ⊢
    have H5 := hYd h5; clear h5
    have cM := mM.cell; have lM := mM.lt
    have cS := mS.cell; have lS := mS.lt
    have cX := mX.cell; have lX := mX.lt
    have cN := mN.cell; have lN := mN.lt
    have hB := mK (hn.out 14 (by kernel_rfl)); have cK := hB.cell; have lK := hB.lt
    go_simp
    exact hK _ _ _ rfl ⟨hP, mM, mS, mK, yK, mX, mN, hZ⟩ trivial rfl
   refine dc2 (fun uu wq D hd hn hn2 hC hk K hK => ?_) ?_
   ·obtain ⟨hP, mM, mS, mK, yK, mX, mN, hZ⟩ := hC
    clear hk
    have cM := mM.cell; have lM := mM.lt
    have cS := mS.cell; have lS := mS.lt
    have cX := mX.cell; have lX := mX.lt
    have cN := mN.cell; have lN := mN.lt
    have hB := mK (hn.out 14 (by kernel_rfl)); have cK := hB.cell; have lK := hB.lt
    go_simp
    exact hK _ _ _ rfl ⟨hP, mM, mS, mK, yK, mX, mN, hZ⟩ trivial rfl
   refine dc0 (fun uu wq D hC K hK => ?_) ?_
   ·obtain ⟨hP, mM, mS, mK, yK, mX, mN, hZ⟩ := hC
    go_simp
    exact hK _ _ _ rfl ⟨hP, mM, mS, mK, yK, mX, mN, hZ⟩ trivial rfl
   refine dc1 (fun uu wq D hC hk K hK => ?_) ?_
   ·obtain ⟨hP, mM, mS, mK, yK, mX, mN, hZ⟩ := hC
    simp only [calmKnown, lg0, lg1, and_true, Is] at hk
    obtain ⟨h6, h7, h8⟩ := hk
    simp only [h6, h7, h8] at hK ⊢
    have H6 := hYd h6; clear h6; have H7 := hYd h7; clear h7; have H8 := hYd h8; clear h8
    first
     | (refine' calm_op ?_ ?_; rfl; go_simp; (first | (with_reducible refine (RB1.out _).mono ?_)); rintro e w2 ⟨rfl, hbl⟩; exact hK _ _ _ rfl ⟨hP.call hbl, Blk.keep hbl mM, Blk.keep hbl mS, (fun h => Blk.keep hbl (mK h)), (fun h => Blk.keep hbl (yK h)), Blk.keep hbl mX, Blk.keep hbl mN, Nat.le_trans hZ hbl.size⟩ trivial rfl)
     | (go_simp; exact hK _ _ _ rfl ⟨hP, mM, mS, mK, yK, mX, mN, hZ⟩ trivial rfl)
   refine dc1 (fun uu wq D hC hk K hK => ?_) ?_
   ·obtain ⟨hP, mM, mS, mK, yK, mX, mN, hZ⟩ := hC
    simp only [calmKnown, lg0, lg1, and_true, Is] at hk
    have h9 := hk; clear hk
    simp only [h9] at hK ⊢
    have H9 := hYd h9; clear h9
    go_simp
    exact hK _ _ _ rfl ⟨hP, mM, mS, mK, yK, mX, mN, hZ⟩ trivial rfl
   refine dc1 (fun uu wq D hC hk K hK => ?_) ?_
   ·obtain ⟨hP, mM, mS, mK, yK, mX, mN, hZ⟩ := hC
    simp only [calmKnown, lg0, lg1, and_true, Is] at hk
    have h10 := hk; clear hk
    simp only [h10] at hK ⊢
    have H10 := hYd h10; clear h10
    go_simp
    exact hK _ _ _ rfl ⟨hP, mM, mS, mK, yK, mX, mN, hZ⟩ trivial rfl
   refine dc1 (fun uu wq D hC hk K hK => ?_) ?_
   ·obtain ⟨hP, mM, mS, mK, yK, mX, mN, hZ⟩ := hC
    simp only [calmKnown, lg0, lg1, and_true, Is] at hk
    have h10 := hk; clear hk
    simp only [h10] at hK ⊢
    have H10 := hYd h10; clear h10
    go_simp
    exact hK _ _ _ rfl ⟨hP, mM, mS, mK, yK, mX, mN, hZ⟩ trivial rfl
   refine dc1 (fun uu wq D hC hk K hK => ?_) ?_
   ·obtain ⟨hP, mM, mS, mK, yK, mX, mN, hZ⟩ := hC
    simp only [calmKnown, lg0, lg1, and_true, Is] at hk
    obtain ⟨h3, h4⟩ := hk
    simp only [h3, h4] at hK ⊢
    have H3 := hYd h3; clear h3; have H4 := hYd h4; clear h4
    go_simp
    exact hK _ _ _ rfl ⟨hP, mM, mS, mK, yK, mX, mN, hZ⟩ trivial rfl
   refine dSteps_cons (fun uu wq D hd hn hn2 hC hk K hK => ?_) ?_
   ·obtain ⟨hP, mM, mS, mK, yK, mX, mN, hZ⟩ := hC
    clear hn hn2
    simp only [calmKnown, lg0, lg1, and_true, Is] at hk
    obtain ⟨h13, h11⟩ := hk
    simp only [h13, h11] at hK ⊢
    have H13 := hYd h13; clear h13; have H11 := hYd h11; clear h11
    have hB := mK hd
    have hc9 := hB.cell; have hf9 := hB.frozen; have hl9 := hB.lt
    have hB2 := setAll_blk [.int .i64 na, .int .i64 nlo, .int .i64 nhi, .int .i64 np, .int .i64 nle, .int .i64 nre] (src * 6) wq _ hB
    go_simp
    exact hK _ undef (setAll wq (gb) (src * 6) [.int .i64 na, .int .i64 nlo, .int .i64 nhi, .int .i64 np, .int .i64 nle, .int .i64 nre]) rfl ⟨(setAll_pastX (by simp) [.int .i64 na, .int .i64 nlo, .int .i64 nhi, .int .i64 np, .int .i64 nle, .int .i64 nre] (src * 6) wq hP), setAll_far (show gm ≠ gb by first | omega | (simp <;> omega)) [.int .i64 na, .int .i64 nlo, .int .i64 nhi, .int .i64 np, .int .i64 nle, .int .i64 nre] (src * 6) wq mM, setAll_far (show gs ≠ gb by first | omega | (simp <;> omega)) [.int .i64 na, .int .i64 nlo, .int .i64 nhi, .int .i64 np, .int .i64 nle, .int .i64 nre] (src * 6) wq mS, (fun h => by cases h), (fun _ => hB2), setAll_far (show w.heap.size ≠ gb by first | omega | (simp <;> omega)) [.int .i64 na, .int .i64 nlo, .int .i64 nhi, .int .i64 np, .int .i64 nle, .int .i64 nre] (src * 6) wq mX, setAll_far (show v1.heap.size ≠ gb by first | omega | (simp <;> omega)) [.int .i64 na, .int .i64 nlo, .int .i64 nhi, .int .i64 np, .int .i64 nle, .int .i64 nre] (src * 6) wq mN, (by rw [setAll_size]; exact hZ)⟩ trivial trivial
   exact dSteps_nil
  ·intro uu v2 D hD hC hF
   obtain ⟨hP, mM, mS, mK, yK, mX, mN, hZ⟩ := hC
   simp only [calmFacts, Is, and_true, true_and] at hF
   obtain ⟨f0, f1, f2, f3, f4, f5, f6, f7, f8, f9, f10, f11, f12, f13⟩ := hF
   simp only [f0, f1, f2, f3, f4, f5, f6, f7, f8, f9, f10, f11, f12, f13]
   have bbK := yK (hD 14 (by decide))
   have hq := hP; clear hP
   have Kv2 : Past [gs, gb] w v2 := Past.trans KA hq
   have Zv2 := hZ; clear hZ
   clear hq KA
   clear bM cM fM lM eM kM; have bM := mM
   clear bS cS fS lS eS kS; have bS := mS
   clear bK cK fK lK eK kK; have bK := bbK
   clear bX cX fX lX eX kX; have bX := mX
   clear bN cN fN lN eN kN; have bN := mN
   clear mM mS mK mX mN yK bbK hD
   obtain ⟨cM, fM, lM, eM, kM⟩ := Blk.facts bM
   obtain ⟨cS, fS, lS, eS, kS⟩ := Blk.facts bS
   obtain ⟨cK, fK, lK, eK, kK⟩ := Blk.facts bK
   obtain ⟨cX, fX, lX, eX, kX⟩ := Blk.facts bX
   obtain ⟨cN, fN, lN, eN, kN⟩ := Blk.facts bN
   have hs2 := bS.set_ src (.bool true)
   go_wp2
   first | refine bodyPost_end (results_none rfl _ _ _) rfl ?_ | refine bodyPost_ret (results_none rfl _ _ _) rfl ?_
   exact ⟨rfl, _, _, bn1, hs2, bn1, HPUT2.out, Past.setIn Kv2 (by simp) _⟩
 | true =>
  have rl := rlearn_any ka klo khi kp kle kre t4 lo hi
  have hne := HL.out rfl rfl
  have hk9 : takeK (true, ⟨ka, klo, khi, kp, kle, kre⟩) t4 lo hi p = (true, kOf (lrn ka klo khi kp kle kre t4 lo hi)) := by
   show (if (lrnK ⟨ka, klo, khi, kp, kle, kre⟩ t4 lo hi).e = 0 then _ else _) = _
   rw [if_pos hne]; rfl
  rw [hk9]
  obtain ⟨nk, hnk⟩ : ∃ nk, lrn ka klo khi kp kle kre t4 lo hi = nk := ⟨_, rfl⟩
  rw [hnk] at rl ⊢
  have hput2 := HPUT.out (kOf nk)
  rw [HSAME.out rfl] at hput2
  obtain ⟨na, nlo, nhi, np, nle, nre, nok, ne⟩ := nk
  simp only [Lrn.V, V6, kOf, K6.cs] at rl hput2 ⊢
  have RL := hYd rl; have HPUT2 := hYd hput2
  clear hk9 hnk rl hne hput2
  go_enter Tryz.func65, Tryz.ntmps65
  obtain ⟨cM, fM, lM, eM, kM⟩ := Blk.facts bM
  obtain ⟨cS, fS, lS, eS, kS⟩ := Blk.facts bS
  obtain ⟨cK, fK, lK, eK, kK⟩ := Blk.facts bK
  go_wp2_with fail
  refine (RA.out _).mono ?_
  rintro e v1 ⟨rfl, hb⟩
  have hq : Past [gs, gb] _ v1 := Past.below hb
  have hq0 : Past [] _ v1 := Past.below hb
  clear hb
  have Kv1 : Past [gs, gb] w v1 := Past.trans pa1 hq
  have Zv1 : w.heap.size ≤ v1.heap.size := Nat.le_trans (by first | exact Nat.le_refl _ | omega | (simp <;> omega)) hq.1
  have bM' : Blk v1 (gm) 116 #[.slice (some ⟨gs, 0, none⟩) n n, .slice (some ⟨gb, 0, none⟩) n n, .bool an, .int .i64 o0, .int .i64 o1, .int .i64 o2, .int .i64 o3, .int .i64 o4, .int .i64 o5] := hq0.blk (bn1) (by simp <;> omega)
  have bS' : Blk v1 (gs) 4 cs := hq0.blk (bn1) (by simp <;> omega)
  have bK' : Blk v1 (gb) 43 cb := hq0.blk (bn1) (by simp <;> omega)
  have bX' : Blk v1 (w.heap.size) 92 #[.int .i64 t1, .int .i64 t2, .int .i64 t3, .int .i64 t4, .int .i64 err] := hq0.blk (bn0) (by simp <;> omega)
  clear hq
  clear bM cM fM lM eM kM; have bM := bM'; clear bM'
  clear bS cS fS lS eS kS; have bS := bS'; clear bS'
  clear bK cK fK lK eK kK; have bK := bK'; clear bK'
  have bX := bX'; clear bX'
  obtain ⟨cM, fM, lM, eM, kM⟩ := Blk.facts bM
  obtain ⟨cS, fS, lS, eS, kS⟩ := Blk.facts bS
  obtain ⟨cK, fK, lK, eK, kK⟩ := Blk.facts bK
  obtain ⟨cX, fX, lX, eX, kX⟩ := Blk.facts bX
  have oX := lX
  clear hq0
  go_upto_region 6 with fail
  obtain ⟨wA, hwA⟩ : ∃ x : World, x = v1.alloc (.cells #[.int .i64 lo, .int .i64 hi] 29) := ⟨_, rfl⟩
  have hqA : Past [gs, gb] v1 wA := by rw [hwA]; exact (Past.refl _ _).allocs _
  have bM' : Blk wA (gm) 116 #[.slice (some ⟨gs, 0, none⟩) n n, .slice (some ⟨gb, 0, none⟩) n n, .bool an, .int .i64 o0, .int .i64 o1, .int .i64 o2, .int .i64 o3, .int .i64 o4, .int .i64 o5] := by rw [hwA]; exact bM.alloc _
  have bS' : Blk wA (gs) 4 cs := by rw [hwA]; exact bS.alloc _
  have bK' : Blk wA (gb) 43 cb := by rw [hwA]; exact bK.alloc _
  have bX' : Blk wA (w.heap.size) 92 #[.int .i64 t1, .int .i64 t2, .int .i64 t3, .int .i64 t4, .int .i64 err] := by rw [hwA]; exact bX.alloc _
  have bN' : Blk wA v1.heap.size 29 #[.int .i64 lo, .int .i64 hi] := by rw [hwA]; exact Blk.new _ _ _
  have ZA : v1.heap.size + 1 ≤ wA.heap.size := by rw [hwA]; simp
  rw [← hwA]
  clear hwA
  have KA := Past.trans Kv1 hqA
  clear hqA Kv1
  clear bM cM fM lM eM kM; have bM := bM'; clear bM'
  clear bS cS fS lS eS kS; have bS := bS'; clear bS'
  clear bK cK fK lK eK kK; have bK := bK'; clear bK'
  clear bX cX fX lX eX kX; have bX := bX'; clear bX'
  have bN := bN'; clear bN'
  obtain ⟨cM, fM, lM, eM, kM⟩ := Blk.facts bM
  obtain ⟨cS, fS, lS, eS, kS⟩ := Blk.facts bS
  obtain ⟨cK, fK, lK, eK, kK⟩ := Blk.facts bK
  obtain ⟨cX, fX, lX, eX, kX⟩ := Blk.facts bX
  obtain ⟨cN, fN, lN, eN, kN⟩ := Blk.facts bN
  have oN := lN
  refine' wp_region_calmD (by kernel_rfl) (fun D u9 w' => Past [gs, gb] wA w' ∧ Blk w' (gm) 116 #[.slice (some ⟨gs, 0, none⟩) n n, .slice (some ⟨gb, 0, none⟩) n n, .bool an, .int .i64 o0, .int .i64 o1, .int .i64 o2, .int .i64 o3, .int .i64 o4, .int .i64 o5] ∧ Blk w' (gs) 4 cs ∧ (D 21 = false → Blk w' (gb) 43 cb) ∧ (D 21 = true → Blk w' (gb) 43 (setArr cb (src * 6) [.int .i64 na, .int .i64 nlo, .int .i64 nhi, .int .i64 np, .int .i64 nle, .int .i64 nre])) ∧ Blk w' (w.heap.size) 92 #[.int .i64 t1, .int .i64 t2, .int .i64 t3, .int .i64 t4, .int .i64 err] ∧ Blk w' (v1.heap.size) 29 #[.int .i64 lo, .int .i64 hi] ∧ wA.heap.size ≤ w'.heap.size) (fun _ _ => True) [(Is _), (Is _), (Is _), (Is _), (Is _), (Is _), (Is _), (Is _), (Is _), (Is _), (Is _), (Is _), (Is _), (Is _), (Is _), (Is _), (Is _), (Is _), (Is _), (Is _), (Is _), (fun _ _ _ => True)] [[], [0], [1], [2], [], [], [5], [6], [7], [], [8, 9], [10], [], [12], [], [11, 13, 14], [15], [16], [16], [16], [3, 4], [20, 17]] rfl (calmB_of (by kernel_rfl)) (fun u => by (simp only [calmPut, Act.put, lst, ls0, ls1, Nat.zero_add, Nat.reduceAdd]; rfl)) ?_ (kcc keep_is' (kcc keep_is' (kcc keep_is' (kcc keep_is' (kcc keep_is' (kcc keep_is' (kcc keep_is' (kcc keep_is' (kcc keep_is' (kcc keep_is' (kcc keep_is' (kcc keep_is' (kcc keep_is' (kcc keep_is' (kcc keep_is' (kcc keep_is' (kcc keep_is' (kcc keep_is' (kcc keep_is' (kcc keep_is' (kcc keep_is' (kcc keep_triv (calmKeep_nil))))))))))))))))))))))) ?_ ?_
  ·exact ⟨pa1, bn1, bn1, (fun _ => bn1), (fun h => by cases h), bn1, bn1, (by first | exact Nat.le_refl _ | omega | (simp <;> omega))⟩
  rotate_left 21
  ·skip
   refine dc0 (fun uu wq D hC K hK => ?_) ?_
   ·obtain ⟨hP, mM, mS, mK, yK, mX, mN, hZ⟩ := hC
    go_simp
    exact hK _ _ _ rfl ⟨hP, mM, mS, mK, yK, mX, mN, hZ⟩ trivial rfl
   refine dc1 (fun uu wq D hC hk K hK => ?_) ?_
   ·obtain ⟨hP, mM, mS, mK, yK, mX, mN, hZ⟩ := hC
    simp only [calmKnown, lg0, lg1, and_true, Is] at hk
    have h0 := hk; clear hk
    simp only [h0] at hK ⊢
    have H0 := hYd h0; clear h0
    go_simp
    exact hK _ _ _ rfl ⟨hP, mM, mS, mK, yK, mX, mN, hZ⟩ trivial rfl
   refine dc1 (fun uu wq D hC hk K hK => ?_) ?_
   ·obtain ⟨hP, mM, mS, mK, yK, mX, mN, hZ⟩ := hC
    simp only [calmKnown, lg0, lg1, and_true, Is] at hk
    have h1 := hk; clear hk
    simp only [h1] at hK ⊢
    have H1 := hYd h1; clear h1
    go_simp
    exact hK _ _ _ rfl ⟨hP, mM, mS, mK, yK, mX, mN, hZ⟩ trivial rfl
   refine dc2 (fun uu wq D hd hn hn2 hC hk K hK => ?_) ?_
   ·obtain ⟨hP, mM, mS, mK, yK, mX, mN, hZ⟩ := hC
    simp only [calmKnown, lg0, lg1, and_true, Is] at hk
    have h2 := hk; clear hk
    simp only [h2] at hK ⊢
    have H2 := hYd h2; clear h2
    have cM := mM.cell; have lM := mM.lt
    have cS := mS.cell; have lS := mS.lt
    have cX := mX.cell; have lX := mX.lt
    have cN := mN.cell; have lN := mN.lt
    have hB := mK (hn.out 21 (by kernel_rfl)); have cK := hB.cell; have lK := hB.lt
    go_simp
    exact hK _ _ _ rfl ⟨hP, mM, mS, mK, yK, mX, mN, hZ⟩ trivial rfl
   refine dc0 (fun uu wq D hC K hK => ?_) ?_
   ·obtain ⟨hP, mM, mS, mK, yK, mX, mN, hZ⟩ := hC
    go_simp
    exact hK _ _ _ rfl ⟨hP, mM, mS, mK, yK, mX, mN, hZ⟩ trivial rfl
   refine dc0 (fun uu wq D hC K hK => ?_) ?_
   ·obtain ⟨hP, mM, mS, mK, yK, mX, mN, hZ⟩ := hC
    go_simp
    exact hK _ _ _ rfl ⟨hP, mM, mS, mK, yK, mX, mN, hZ⟩ trivial rfl
   refine dc1 (fun uu wq D hC hk K hK => ?_) ?_
   ·obtain ⟨hP, mM, mS, mK, yK, mX, mN, hZ⟩ := hC
    simp only [calmKnown, lg0, lg1, and_true, Is] at hk
    have h5 := hk; clear hk
    simp only [h5] at hK ⊢
    have H5 := hYd h5; clear h5
    go_simp
    exact hK _ _ _ rfl ⟨hP, mM, mS, mK, yK, mX, mN, hZ⟩ trivial rfl
   refine dc1 (fun uu wq D hC hk K hK => ?_) ?_
   ·obtain ⟨hP, mM, mS, mK, yK, mX, mN, hZ⟩ := hC
    simp only [calmKnown, lg0, lg1, and_true, Is] at hk
    have h6 := hk; clear hk
    simp only [h6] at hK ⊢
    have H6 := hYd h6; clear h6
    go_simp
    exact hK _ _ _ rfl ⟨hP, mM, mS, mK, yK, mX, mN, hZ⟩ trivial rfl
   refine dc2 (fun uu wq D hd hn hn2 hC hk K hK => ?_) ?_
   ·obtain ⟨hP, mM, mS, mK, yK, mX, mN, hZ⟩ := hC
    simp only [calmKnown, lg0, lg1, and_true, Is] at hk
    have h7 := hk; clear hk
    simp only [h7] at hK ⊢
    have H7 := hYd h7; clear h7
    have cM := mM.cell; have lM := mM.lt
    have cS := mS.cell; have lS := mS.lt
    have cX := mX.cell; have lX := mX.lt
    have cN := mN.cell; have lN := mN.lt
    have hB := mK (hn.out 21 (by kernel_rfl)); have cK := hB.cell; have lK := hB.lt
    go_simp
    exact hK _ _ _ rfl ⟨hP, mM, mS, mK, yK, mX, mN, hZ⟩ trivial rfl
   refine dc0 (fun uu wq D hC K hK => ?_) ?_
   ·obtain ⟨hP, mM, mS, mK, yK, mX, mN, hZ⟩ := hC
    go_simp
    exact hK _ _ _ rfl ⟨hP, mM, mS, mK, yK, mX, mN, hZ⟩ trivial rfl
   refine dc1 (fun uu wq D hC hk K hK => ?_) ?_
   ·obtain ⟨hP, mM, mS, mK, yK, mX, mN, hZ⟩ := hC
    simp only [calmKnown, lg0, lg1, and_true, Is] at hk
    obtain ⟨h8, h9⟩ := hk
    simp only [h8, h9] at hK ⊢
    have H8 := hYd h8; clear h8; have H9 := hYd h9; clear h9
    go_simp
    exact hK _ _ _ rfl ⟨hP, mM, mS, mK, yK, mX, mN, hZ⟩ trivial rfl
   refine dc2 (fun uu wq D hd hn hn2 hC hk K hK => ?_) ?_
   ·obtain ⟨hP, mM, mS, mK, yK, mX, mN, hZ⟩ := hC
    simp only [calmKnown, lg0, lg1, and_true, Is] at hk
    have h10 := hk; clear hk
    simp only [h10] at hK ⊢
    have H10 := hYd h10; clear h10
    have cM := mM.cell; have lM := mM.lt
    have cS := mS.cell; have lS := mS.lt
    have cX := mX.cell; have lX := mX.lt
    have cN := mN.cell; have lN := mN.lt
    have hB := mK (hn.out 21 (by kernel_rfl)); have cK := hB.cell; have lK := hB.lt
    go_simp
    exact hK _ _ _ rfl ⟨hP, mM, mS, mK, yK, mX, mN, hZ⟩ trivial rfl
   refine dc0 (fun uu wq D hC K hK => ?_) ?_
   ·obtain ⟨hP, mM, mS, mK, yK, mX, mN, hZ⟩ := hC
    go_simp
    exact hK _ _ _ rfl ⟨hP, mM, mS, mK, yK, mX, mN, hZ⟩ trivial rfl
   refine dc2 (fun uu wq D hd hn hn2 hC hk K hK => ?_) ?_
   ·obtain ⟨hP, mM, mS, mK, yK, mX, mN, hZ⟩ := hC
    simp only [calmKnown, lg0, lg1, and_true, Is] at hk
    have h12 := hk; clear hk
    simp only [h12] at hK ⊢
    have H12 := hYd h12; clear h12
    have cM := mM.cell; have lM := mM.lt
    have cS := mS.cell; have lS := mS.lt
    have cX := mX.cell; have lX := mX.lt
    have cN := mN.cell; have lN := mN.lt
    have hB := mK (hn.out 21 (by kernel_rfl)); have cK := hB.cell; have lK := hB.lt
    go_simp
    exact hK _ _ _ rfl ⟨hP, mM, mS, mK, yK, mX, mN, hZ⟩ trivial rfl
   refine dc2 (fun uu wq D hd hn hn2 hC hk K hK => ?_) ?_
   ·obtain ⟨hP, mM, mS, mK, yK, mX, mN, hZ⟩ := hC
    clear hk
    have cM := mM.cell; have lM := mM.lt
    have cS := mS.cell; have lS := mS.lt
    have cX := mX.cell; have lX := mX.lt
    have cN := mN.cell; have lN := mN.lt
    have hB := mK (hn.out 21 (by kernel_rfl)); have cK := hB.cell; have lK := hB.lt
    go_simp
    exact hK _ _ _ rfl ⟨hP, mM, mS, mK, yK, mX, mN, hZ⟩ trivial rfl
   refine dc1 (fun uu wq D hC hk K hK => ?_) ?_
   ·obtain ⟨hP, mM, mS, mK, yK, mX, mN, hZ⟩ := hC
    simp only [calmKnown, lg0, lg1, and_true, Is] at hk
    obtain ⟨h11, h13, h14⟩ := hk
    simp only [h11, h13, h14] at hK ⊢
    have H11 := hYd h11; clear h11; have H13 := hYd h13; clear h13; have H14 := hYd h14; clear h14
    first
     | (refine' calm_op ?_ ?_; rfl; go_simp; (first | (with_reducible refine (RL.out _).mono ?_)); rintro e w2 ⟨rfl, hbl⟩; exact hK _ _ _ rfl ⟨hP.call hbl, Blk.keep hbl mM, Blk.keep hbl mS, (fun h => Blk.keep hbl (mK h)), (fun h => Blk.keep hbl (yK h)), Blk.keep hbl mX, Blk.keep hbl mN, Nat.le_trans hZ hbl.size⟩ trivial rfl)
     | (go_simp; exact hK _ _ _ rfl ⟨hP, mM, mS, mK, yK, mX, mN, hZ⟩ trivial rfl)
   refine dc1 (fun uu wq D hC hk K hK => ?_) ?_
   ·obtain ⟨hP, mM, mS, mK, yK, mX, mN, hZ⟩ := hC
    simp only [calmKnown, lg0, lg1, and_true, Is] at hk
    have h15 := hk; clear hk
    simp only [h15] at hK ⊢
    have H15 := hYd h15; clear h15
    go_simp
    exact hK _ _ _ rfl ⟨hP, mM, mS, mK, yK, mX, mN, hZ⟩ trivial rfl
   refine dc1 (fun uu wq D hC hk K hK => ?_) ?_
   ·obtain ⟨hP, mM, mS, mK, yK, mX, mN, hZ⟩ := hC
    simp only [calmKnown, lg0, lg1, and_true, Is] at hk
    have h16 := hk; clear hk
    simp only [h16] at hK ⊢
    have H16 := hYd h16; clear h16
    go_simp
    exact hK _ _ _ rfl ⟨hP, mM, mS, mK, yK, mX, mN, hZ⟩ trivial rfl
   refine dc1 (fun uu wq D hC hk K hK => ?_) ?_
   ·obtain ⟨hP, mM, mS, mK, yK, mX, mN, hZ⟩ := hC
    simp only [calmKnown, lg0, lg1, and_true, Is] at hk
    have h16 := hk; clear hk
    simp only [h16] at hK ⊢
    have H16 := hYd h16; clear h16
    go_simp
    exact hK _ _ _ rfl ⟨hP, mM, mS, mK, yK, mX, mN, hZ⟩ trivial rfl
   refine dc1 (fun uu wq D hC hk K hK => ?_) ?_
   ·obtain ⟨hP, mM, mS, mK, yK, mX, mN, hZ⟩ := hC
    simp only [calmKnown, lg0, lg1, and_true, Is] at hk
    have h16 := hk; clear hk
    simp only [h16] at hK ⊢
    have H16 := hYd h16; clear h16
    go_simp
    exact hK _ _ _ rfl ⟨hP, mM, mS, mK, yK, mX, mN, hZ⟩ trivial rfl
   refine dc1 (fun uu wq D hC hk K hK => ?_) ?_
   ·obtain ⟨hP, mM, mS, mK, yK, mX, mN, hZ⟩ := hC
    simp only [calmKnown, lg0, lg1, and_true, Is] at hk
    obtain ⟨h3, h4⟩ := hk
    simp only [h3, h4] at hK ⊢
    have H3 := hYd h3; clear h3; have H4 := hYd h4; clear h4
    go_simp
    exact hK _ _ _ rfl ⟨hP, mM, mS, mK, yK, mX, mN, hZ⟩ trivial rfl
   refine dSteps_cons (fun uu wq D hd hn hn2 hC hk K hK => ?_) ?_
   ·obtain ⟨hP, mM, mS, mK, yK, mX, mN, hZ⟩ := hC
    clear hn hn2
    simp only [calmKnown, lg0, lg1, and_true, Is] at hk
    obtain ⟨h20, h17⟩ := hk
    simp only [h20, h17] at hK ⊢
    have H20 := hYd h20; clear h20; have H17 := hYd h17; clear h17
    have hB := mK hd
    have hc9 := hB.cell; have hf9 := hB.frozen; have hl9 := hB.lt
    have hB2 := setAll_blk [.int .i64 na, .int .i64 nlo, .int .i64 nhi, .int .i64 np, .int .i64 nle, .int .i64 nre] (src * 6) wq _ hB
    go_simp
    exact hK _ undef (setAll wq (gb) (src * 6) [.int .i64 na, .int .i64 nlo, .int .i64 nhi, .int .i64 np, .int .i64 nle, .int .i64 nre]) rfl ⟨(setAll_pastX (by simp) [.int .i64 na, .int .i64 nlo, .int .i64 nhi, .int .i64 np, .int .i64 nle, .int .i64 nre] (src * 6) wq hP), setAll_far (show gm ≠ gb by first | omega | (simp <;> omega)) [.int .i64 na, .int .i64 nlo, .int .i64 nhi, .int .i64 np, .int .i64 nle, .int .i64 nre] (src * 6) wq mM, setAll_far (show gs ≠ gb by first | omega | (simp <;> omega)) [.int .i64 na, .int .i64 nlo, .int .i64 nhi, .int .i64 np, .int .i64 nle, .int .i64 nre] (src * 6) wq mS, (fun h => by cases h), (fun _ => hB2), setAll_far (show w.heap.size ≠ gb by first | omega | (simp <;> omega)) [.int .i64 na, .int .i64 nlo, .int .i64 nhi, .int .i64 np, .int .i64 nle, .int .i64 nre] (src * 6) wq mX, setAll_far (show v1.heap.size ≠ gb by first | omega | (simp <;> omega)) [.int .i64 na, .int .i64 nlo, .int .i64 nhi, .int .i64 np, .int .i64 nle, .int .i64 nre] (src * 6) wq mN, (by rw [setAll_size]; exact hZ)⟩ trivial trivial
   exact dSteps_nil
  ·intro uu v2 D hD hC hF
   obtain ⟨hP, mM, mS, mK, yK, mX, mN, hZ⟩ := hC
   simp only [calmFacts, Is, and_true, true_and] at hF
   obtain ⟨f0, f1, f2, f3, f4, f5, f6, f7, f8, f9, f10, f11, f12, f13, f14, f15, f16, f17, f18, f19, f20⟩ := hF
   simp only [f0, f1, f2, f3, f4, f5, f6, f7, f8, f9, f10, f11, f12, f13, f14, f15, f16, f17, f18, f19, f20]
   have bbK := yK (hD 21 (by decide))
   have hq := hP; clear hP
   have Kv2 : Past [gs, gb] w v2 := Past.trans KA hq
   have Zv2 := hZ; clear hZ
   clear hq KA
   clear bM cM fM lM eM kM; have bM := mM
   clear bS cS fS lS eS kS; have bS := mS
   clear bK cK fK lK eK kK; have bK := bbK
   clear bX cX fX lX eX kX; have bX := mX
   clear bN cN fN lN eN kN; have bN := mN
   clear mM mS mK mX mN yK bbK hD
   obtain ⟨cM, fM, lM, eM, kM⟩ := Blk.facts bM
   obtain ⟨cS, fS, lS, eS, kS⟩ := Blk.facts bS
   obtain ⟨cK, fK, lK, eK, kK⟩ := Blk.facts bK
   obtain ⟨cX, fX, lX, eX, kX⟩ := Blk.facts bX
   obtain ⟨cN, fN, lN, eN, kN⟩ := Blk.facts bN
   go_wp2
   first | refine bodyPost_end (results_none rfl _ _ _) rfl ?_ | refine bodyPost_ret (results_none rfl _ _ _) rfl ?_
   exact ⟨rfl, _, _, bn1, bn1, bn1, HPUT2.out, pa1⟩
end Go.Proofs.YtlnboheahbfgfaaGreat
namespace Go.Proofs.YtlnboheahbfgfaaGreat
open Go.RowKit Go.Shelf Go.Sort
set_option linter.unusedSimpArgs false
set_option linter.unusedVariables false

set_option maxRecDepth 100000 in
set_option maxHeartbeats 8000000 in
theorem rthink_any (gm gs gb n : Nat) (cs cb : Array Value) (l : List Kw) (an : Bool) (o0 o1 o2 o3 o4 o5 : Int) (u p li x y er : Int) (nk : Kw) (w : World) (hM : Blk w gm 116 #[.slice (some ⟨gs, 0, none⟩) n n, .slice (some ⟨gb, 0, none⟩) n n, .bool an, .int .i64 o0, .int .i64 o1, .int .i64 o2, .int .i64 o3, .int .i64 o4, .int .i64 o5]) (hS : Blk w gs 4 cs) (hB9 : Blk w gb 43 cb) (hl : l.length = n) (hn9 : n ≤ 64) (n1 : gm ≠ gs) (n2 : gm ≠ gb) (n3 : gs ≠ gb) (hc : ByAt cs cb l) (hmg : MG (knowns l) u li x y er) (hnk : nk = if er = 0 then takeK (an, (⟨o0, o1, o2, o3, o4, o5⟩ : K6)) u x y p else (an, (⟨o0, o1, o2, o3, o4, o5⟩ : K6))) (hL : er = 0 → an = true → (lrnK (⟨o0, o1, o2, o3, o4, o5⟩ : K6) u x y).e = 0) :
  Calls Tryz.prog 66 #[.pointer (some ⟨gm, 0, none⟩), .int .i64 u, .int .i64 p, .int .i64 li] w (fun e w' => e = .returned (.tuple #[]) ∧ Blk w' gm 116 #[.slice (some ⟨gs, 0, none⟩) n n, .slice (some ⟨gb, 0, none⟩) n n, .bool nk.1, .int .i64 nk.2.at_, .int .i64 nk.2.lo, .int .i64 nk.2.hi, .int .i64 nk.2.pp, .int .i64 nk.2.le, .int .i64 nk.2.re] ∧ Blk w' gs 4 cs ∧ Blk w' gb 43 cb ∧ Past [gm] w w') := by
 subst hl
 have HM := hYd hM; have HS := hYd hS; have HB := hYd hB9; have HC := hYd hc; have HMG := hYd hmg; have HNK := hYd hnk; have HL := hYd hL
 have lM := hM.lt; have lS := hS.lt; have lB := hB9.lt
 have cM := hM.cell
 clear hS hB9 hc hmg hnk hL
 go_enter Tryz.func66, Tryz.ntmps66
 go_wp2
 go_loopg [8, 9] l.length (fun G v i wr => MeRel w l l.length G v i wr)
 case atStart => exact ⟨0, 0, none, 0, by omega, by omega, rfl, rfl, rfl, RowK.nil, Below.refl _ _⟩
 case round =>
  clear cM hM
  obtain ⟨q, m, AA, c, hq, rfl, rfl, rfl, hm, hrow, KR⟩ := hrel
  have ZR := KR.size
  have hrl := RowK.lt hrow
  have HROW := hYd hrow; have HKR := hYd KR; have HMM := hYd hm; clear hm hrow
  have bM := HM.out.below KR; have cM := bM.cell; have lM2 := bM.lt
  clear bM
  by_cases hlt : q < l.length
  ·have gp : decide ((q : Int) < (l.length : Int)) = true := decide_eq_true (by omega)
   have gpn : decide (q < l.length) = true := decide_eq_true hlt
   have wp : IntKind.i64.wrap ((q : Int) + 1) = ((q + 1 : Nat) : Int) := by rw [IntWalk.i64_in _ (by omega)]; omega
   have bS := HS.out.below KR; have bB := HB.out.below KR
   have lS2 := bS.lt; have lB2 := bB.lt
   have hst := knowns_next hlt
   obtain ⟨hc1, hc2⟩ := HC.out.2.2 q hlt
   have d0 := (bS.cell q).trans hc1
   have d1 := (bB.cell (q * 6 + 0)).trans (hc2 0 (by omega))
   have d2 := (bB.cell (q * 6 + 1)).trans (hc2 1 (by omega))
   have d3 := (bB.cell (q * 6 + 2)).trans (hc2 2 (by omega))
   have d4 := (bB.cell (q * 6 + 3)).trans (hc2 3 (by omega))
   have d5 := (bB.cell (q * 6 + 4)).trans (hc2 4 (by omega))
   have d6 := (bB.cell (q * 6 + 5)).trans (hc2 5 (by omega))
   obtain ⟨kv, hkv⟩ : ∃ kv, l.getD q (false, .zero) = kv := ⟨_, rfl⟩
   rw [hkv] at d0 d1 d2 d3 d4 d5 d6 hst
   clear hkv hc1 hc2
   obtain ⟨b, na, nlo, nhi, np, nle, nre⟩ := kv
   simp only [K6.cs, lg0, lg1, Nat.add_zero] at d0 d1 d2 d3 d4 d5 d6
   dsimp only at hst
   have HST := hYd hst; clear hst bS bB KR
   cases b with
   | false =>
    have HST2 := hYd (HST.out.trans (by simp) : knowns (l.take (q + 1)) = knowns (l.take q))
    clear HST
    go_wp2
    go_roundg (l.length - (q + 1))
    case measure => omega
    case rel => exact ⟨q + 1, m, AA, c, by omega, by omega, by go_num, rfl, by rw [HST2.out]; exact HMM.out, by rw [HST2.out]; exact RowK.below HROW.out bl0, (kept_call (show Below wr.heap.size wr _ from bl0) HKR.out)⟩
   | true =>
    have HST2 := hYd (HST.out.trans (by simp) : knowns (l.take (q + 1)) = knowns (l.take q) ++ [(⟨na, nlo, nhi, np, nle, nre⟩ : K6)])
    clear HST
    have hm64 : m ≤ 64 := by have h9 := knowns_len (l.take q); rw [← HMM.out, List.length_take] at h9; omega
    obtain ⟨i0, hif, hz0, hz1, hz2⟩ := info_parts infoKn
    generalize hv : (Value.slice AA m c) = v9 at *
    have hrl := RowK.lt HROW.out
    have HRW := hYd HROW.out
    clear hv HROW
    go_wp2_with (at_builtin; go_loud (refine wpList_append_lies _ rfl _ _ 114 rfl w.heap.size 43 i0 (.agg #[.int .i64 0, .int .i64 0, .int .i64 0, .int .i64 0, .int .i64 0, .int .i64 0]) 6 48 Tryz.underlying114 hif hz0 hz1 hz2 rfl (by decide) v9 m (kCells (knowns (l.take q))) rfl (own_belowK HRW.out HMM.out bl0) ⟨wr.heap.size, 0, none⟩ 1 1 [.int .i64 na, .int .i64 nlo, .int .i64 nhi, .int .i64 np, .int .i64 nle, .int .i64 nre] rfl rfl (World.news_of_block (t := 43) (fr := (0, 0)) (Blk.new _ _ _)) ?c2 (by decide) ?c3 ?c4 ?c5 _ rfl ?_))
    case c2 => first | exact ⟨rfl, rfl, rfl, rfl, rfl, rfl⟩ | (intro u hu; simp at hu; rcases hu with rfl | rfl | rfl | rfl | rfl | rfl <;> rfl)
    case c3 => unfold maxLen; omega
    case c4 => omega
    case c5 => first | omega | (simp <;> omega)
    intro g7 cp7 w7 hown hgrow hlie hglt
    have K7 : Below w.heap.size w w7 := (kept_call (show Below wr.heap.size wr _ from bl0) HKR.out).grown hgrow (by simp; omega) (fun k hk => (hrl k hk).1)
    have R7 : RowK w7 w.heap.size (.slice (some ⟨g7, 0, none⟩) (m + 1) cp7) (knowns (l.take q) ++ [(⟨na, nlo, nhi, np, nle, nre⟩ : K6)]) := by
     unfold RowK
     rw [List.length_append, List.length_singleton, ← HMM.out, kCells_snoc]; exact hown
    have H7 := hYd (And.intro K7 R7)
    clear hown hgrow hlie hglt K7 R7
    go_wp2
    go_roundg (l.length - (q + 1))
    case measure => omega
    case rel => exact ⟨q + 1, m + 1, _, _, by omega, by omega, by go_num, rfl, by rw [HST2.out, List.length_append, List.length_singleton, ← HMM.out], by rw [HST2.out]; exact H7.out.2, H7.out.1⟩
  ·obtain rfl : q = l.length := by omega
   have gp : decide ((l.length : Int) < (l.length : Int)) = false := decide_eq_false (by omega)
   have gpn : decide (l.length < l.length) = false := decide_eq_false (by omega)
   have htk : l.take l.length = l := List.take_length
   have hrow := HROW.out; have hm := HMM.out
   rw [htk] at hrow hm
   have hkl := knowns_len l
   have HKN : Hid (KnAt wr AA m (knowns l)) := hYd (by have h := hrow; subst hm; exact RowK.known h (by omega))
   have hm64 : m ≤ 64 := by omega
   clear hrow htk HMM HROW hrl hm hkl cM lM2
   have bM := HM.out.below HKR.out; have bS := HS.out.below HKR.out; have bB := HB.out.below HKR.out
   have hqR : Past [gm] w wr := Past.below HKR.out
   clear HM HS HB HC HKR
   have RM := hYd (fun W h => rmerge_fix HMG.out AA m c W h)
   clear HMG
   by_cases her : er = 0
   ·subst her
    have hnk := HNK.out
    rw [if_pos rfl] at hnk
    have HN2 := hYd hnk; clear hnk HNK
    cases an with
    | false =>
     have rb := fun W => begK_V u x y p ▸ rbegin_any u x y p W
     have hn2 := HN2.out
     have hk9 : takeK (false, (⟨o0, o1, o2, o3, o4, o5⟩ : K6)) u x y p = (true, begK u x y p) := rfl
     rw [hk9] at hn2
     obtain ⟨nk9, hnk⟩ : ∃ nk9, begK u x y p = nk9 := ⟨_, rfl⟩
     rw [hnk] at rb hn2
     subst hn2
     obtain ⟨na, nlo, nhi, np, nle, nre⟩ := nk9
     simp only [K6.cs] at rb
     have RB1 := hYd rb
     clear hk9 hnk rb HN2 HL
     obtain ⟨cM, fM, lM, eM, kM⟩ := Blk.facts bM
     obtain ⟨cS, fS, lS, eS, kS⟩ := Blk.facts bS
     obtain ⟨cB, fB, lB, eB, kB⟩ := Blk.facts bB
     go_wp2_with fail
     refine (RM.out _ (HKN.out.below bl0)).mono ?_
     rintro e v1 ⟨rfl, hb⟩
     have hq : Past [gm] _ v1 := Past.below hb
     have hq0 : Past [] _ v1 := Past.below hb
     clear hb
     have Kv1 : Past [gm] w v1 := Past.trans pa1 hq
     have Zv1 : wr.heap.size ≤ v1.heap.size := Nat.le_trans (by first | exact Nat.le_refl _ | omega | (simp <;> omega)) hq.1
     have bM' : Blk v1 (gm) 116 #[.slice (some ⟨gs, 0, none⟩) l.length l.length, .slice (some ⟨gb, 0, none⟩) l.length l.length, .bool false, .int .i64 o0, .int .i64 o1, .int .i64 o2, .int .i64 o3, .int .i64 o4, .int .i64 o5] := hq0.blk (bn1) (by simp <;> omega)
     have bS' : Blk v1 (gs) 4 cs := hq0.blk (bn1) (by simp <;> omega)
     have bB' : Blk v1 (gb) 43 cb := hq0.blk (bn1) (by simp <;> omega)
     clear hq hqR
     clear bM cM fM lM eM kM; have bM := bM'; clear bM'
     clear bS cS fS lS eS kS; have bS := bS'; clear bS'
     clear bB cB fB lB eB kB; have bB := bB'; clear bB'
     obtain ⟨cM, fM, lM, eM, kM⟩ := Blk.facts bM
     obtain ⟨cS, fS, lS, eS, kS⟩ := Blk.facts bS
     obtain ⟨cB, fB, lB, eB, kB⟩ := Blk.facts bB
     clear hq0
     go_wp2_with fail
     refine (RB1.out _).mono ?_
     rintro e v2 ⟨rfl, hb⟩
     have hq : Past [gm] _ v2 := Past.below hb
     have hq0 : Past [] _ v2 := Past.below hb
     clear hb
     have Kv2 : Past [gm] w v2 := Past.trans pa1 hq
     have Zv2 : v1.heap.size ≤ v2.heap.size := Nat.le_trans (by first | exact Nat.le_refl _ | omega | (simp <;> omega)) hq.1
     have bM' : Blk v2 (gm) 116 #[.slice (some ⟨gs, 0, none⟩) l.length l.length, .slice (some ⟨gb, 0, none⟩) l.length l.length, .bool false, .int .i64 o0, .int .i64 o1, .int .i64 o2, .int .i64 o3, .int .i64 o4, .int .i64 o5] := hq0.blk (bn1) (by simp <;> omega)
     have bS' : Blk v2 (gs) 4 cs := hq0.blk (bn1) (by simp <;> omega)
     have bB' : Blk v2 (gb) 43 cb := hq0.blk (bn1) (by simp <;> omega)
     clear hq Kv1
     clear bM cM fM lM eM kM; have bM := bM'; clear bM'
     clear bS cS fS lS eS kS; have bS := bS'; clear bS'
     clear bB cB fB lB eB kB; have bB := bB'; clear bB'
     obtain ⟨cM, fM, lM, eM, kM⟩ := Blk.facts bM
     obtain ⟨cS, fS, lS, eS, kS⟩ := Blk.facts bS
     obtain ⟨cB, fB, lB, eB, kB⟩ := Blk.facts bB
     clear hq0
     have hm2 := (setAll_blk [.int .i64 na, .int .i64 nlo, .int .i64 nhi, .int .i64 np, .int .i64 nle, .int .i64 nre] 3 _ _ bM).set_ 2 (.bool true)
     simp only [setArr, setAll, lst, ls0, ls1, Nat.reduceAdd] at hm2
     have hs2 := setAll_far (show gs ≠ gm by omega) ([.int .i64 na, .int .i64 nlo, .int .i64 nhi, .int .i64 np, .int .i64 nle, .int .i64 nre]) 3 _ bS
     have hb2 := setAll_far (show gb ≠ gm by omega) ([.int .i64 na, .int .i64 nlo, .int .i64 nhi, .int .i64 np, .int .i64 nle, .int .i64 nre]) 3 _ bB
     have hs3 := hs2.far (p := ⟨gm, 2, none⟩) (by simp; omega) (.bool true)
     have hb3 := hb2.far (p := ⟨gm, 2, none⟩) (by simp; omega) (.bool true)
     have hp3 := Past.setIn (setAll_pastX (show gm ∈ [gm] by simp) [.int .i64 na, .int .i64 nlo, .int .i64 nhi, .int .i64 np, .int .i64 nle, .int .i64 nre] 3 _ Kv2) (show (⟨gm, 2, none⟩ : Addr).block ∈ [gm] by simp) (.bool true)
     simp only [setAll, Nat.reduceAdd] at hs3 hb3 hp3
     clear hs2 hb2
     go_wp2
     first | refine bodyPost_end (results_none rfl _ _ _) rfl ?_ | refine bodyPost_ret (results_none rfl _ _ _) rfl ?_
     exact ⟨rfl, hm2, hs3, hb3, hp3⟩
    | true =>
     have rl := rlearn_any o0 o1 o2 o3 o4 o5 u x y
     have hne := HL.out rfl rfl
     have hn2 := HN2.out
     have hk9 : takeK (true, (⟨o0, o1, o2, o3, o4, o5⟩ : K6)) u x y p = (true, kOf (lrn o0 o1 o2 o3 o4 o5 u x y)) := by
      show (if (lrnK (⟨o0, o1, o2, o3, o4, o5⟩ : K6) u x y).e = 0 then _ else _) = _
      rw [if_pos hne]; rfl
     rw [hk9] at hn2
     obtain ⟨nk9, hnk⟩ : ∃ nk9, lrn o0 o1 o2 o3 o4 o5 u x y = nk9 := ⟨_, rfl⟩
     rw [hnk] at rl hn2
     subst hn2
     obtain ⟨na, nlo, nhi, np, nle, nre, nok, ne⟩ := nk9
     simp only [Lrn.V, V6, kOf] at rl
     have RL := hYd rl
     clear hk9 hnk rl HN2 HL hne
     obtain ⟨cM, fM, lM, eM, kM⟩ := Blk.facts bM
     obtain ⟨cS, fS, lS, eS, kS⟩ := Blk.facts bS
     obtain ⟨cB, fB, lB, eB, kB⟩ := Blk.facts bB
     go_wp2_with fail
     refine (RM.out _ (HKN.out.below bl0)).mono ?_
     rintro e v1 ⟨rfl, hb⟩
     have hq : Past [gm] _ v1 := Past.below hb
     have hq0 : Past [] _ v1 := Past.below hb
     clear hb
     have Kv1 : Past [gm] w v1 := Past.trans pa1 hq
     have Zv1 : wr.heap.size ≤ v1.heap.size := Nat.le_trans (by first | exact Nat.le_refl _ | omega | (simp <;> omega)) hq.1
     have bM' : Blk v1 (gm) 116 #[.slice (some ⟨gs, 0, none⟩) l.length l.length, .slice (some ⟨gb, 0, none⟩) l.length l.length, .bool true, .int .i64 o0, .int .i64 o1, .int .i64 o2, .int .i64 o3, .int .i64 o4, .int .i64 o5] := hq0.blk (bn1) (by simp <;> omega)
     have bS' : Blk v1 (gs) 4 cs := hq0.blk (bn1) (by simp <;> omega)
     have bB' : Blk v1 (gb) 43 cb := hq0.blk (bn1) (by simp <;> omega)
     clear hq hqR
     clear bM cM fM lM eM kM; have bM := bM'; clear bM'
     clear bS cS fS lS eS kS; have bS := bS'; clear bS'
     clear bB cB fB lB eB kB; have bB := bB'; clear bB'
     obtain ⟨cM, fM, lM, eM, kM⟩ := Blk.facts bM
     obtain ⟨cS, fS, lS, eS, kS⟩ := Blk.facts bS
     obtain ⟨cB, fB, lB, eB, kB⟩ := Blk.facts bB
     clear hq0
     go_upto_region 11 with fail
     obtain ⟨wA, hwA⟩ : ∃ x9 : World, x9 = v1.alloc (.cells #[.int .i64 x, .int .i64 y] 29) := ⟨_, rfl⟩
     have hqA : Past [gm] v1 wA := by rw [hwA]; exact (Past.refl _ _).allocs _
     have bM' : Blk wA (gm) 116 #[.slice (some ⟨gs, 0, none⟩) l.length l.length, .slice (some ⟨gb, 0, none⟩) l.length l.length, .bool true, .int .i64 o0, .int .i64 o1, .int .i64 o2, .int .i64 o3, .int .i64 o4, .int .i64 o5] := by rw [hwA]; exact bM.alloc _
     have bS' : Blk wA (gs) 4 cs := by rw [hwA]; exact bS.alloc _
     have bB' : Blk wA (gb) 43 cb := by rw [hwA]; exact bB.alloc _
     have bN' : Blk wA v1.heap.size 29 #[.int .i64 x, .int .i64 y] := by rw [hwA]; exact Blk.new _ _ _
     have ZA : v1.heap.size + 1 ≤ wA.heap.size := by rw [hwA]; simp
     rw [← hwA]
     clear hwA
     have KA := Past.trans Kv1 hqA
     clear hqA Kv1
     clear bM cM fM lM eM kM; have bM := bM'; clear bM'
     clear bS cS fS lS eS kS; have bS := bS'; clear bS'
     clear bB cB fB lB eB kB; have bB := bB'; clear bB'
     have bN := bN'; clear bN'
     obtain ⟨cM, fM, lM, eM, kM⟩ := Blk.facts bM
     obtain ⟨cS, fS, lS, eS, kS⟩ := Blk.facts bS
     obtain ⟨cB, fB, lB, eB, kB⟩ := Blk.facts bB
     obtain ⟨cN, fN, lN, eN, kN⟩ := Blk.facts bN
     have oN := lN
     refine' wp_region_calmD (by kernel_rfl) (fun D u9 w' => Past [gm] wA w' ∧ (D 14 = false → Blk w' (gm) 116 #[.slice (some ⟨gs, 0, none⟩) l.length l.length, .slice (some ⟨gb, 0, none⟩) l.length l.length, .bool true, .int .i64 o0, .int .i64 o1, .int .i64 o2, .int .i64 o3, .int .i64 o4, .int .i64 o5]) ∧ (D 14 = true → Blk w' (gm) 116 #[.slice (some ⟨gs, 0, none⟩) l.length l.length, .slice (some ⟨gb, 0, none⟩) l.length l.length, .bool true, .int .i64 na, .int .i64 nlo, .int .i64 nhi, .int .i64 np, .int .i64 nle, .int .i64 nre]) ∧ Blk w' (gs) 4 cs ∧ Blk w' (gb) 43 cb ∧ Blk w' (v1.heap.size) 29 #[.int .i64 x, .int .i64 y] ∧ wA.heap.size ≤ w'.heap.size) (fun _ _ => True) [(Is _), (Is _), (Is _), (Is _), (Is _), (Is _), (Is _), (Is _), (Is _), (Is _), (Is _), (Is _), (Is _), (Is _), (fun _ _ _ => True)] [[], [], [1], [2], [3], [], [], [4, 5, 6], [7], [8], [8], [8], [0], [12], [13, 9]] rfl (calmB_of (by kernel_rfl)) (fun u => by (simp only [calmPut, Act.put, lst, ls0, ls1, Nat.zero_add, Nat.reduceAdd]; rfl)) ?_ (kcc keep_is' (kcc keep_is' (kcc keep_is' (kcc keep_is' (kcc keep_is' (kcc keep_is' (kcc keep_is' (kcc keep_is' (kcc keep_is' (kcc keep_is' (kcc keep_is' (kcc keep_is' (kcc keep_is' (kcc keep_is' (kcc keep_triv (calmKeep_nil)))))))))))))))) ?_ ?_
     ·exact ⟨pa1, (fun _ => bn1), (fun h => by cases h), bn1, bn1, bn1, (by first | exact Nat.le_refl _ | omega | (simp <;> omega))⟩
     rotate_left 14
     ·skip
      refine dc0 (fun uu wq D hC K hK => ?_) ?_
      ·obtain ⟨hP, mM, yM, mS, mB, mN, hZ⟩ := hC
       go_simp
       exact hK _ _ _ rfl ⟨hP, mM, yM, mS, mB, mN, hZ⟩ trivial rfl
      refine dc0 (fun uu wq D hC K hK => ?_) ?_
      ·obtain ⟨hP, mM, yM, mS, mB, mN, hZ⟩ := hC
       go_simp
       exact hK _ _ _ rfl ⟨hP, mM, yM, mS, mB, mN, hZ⟩ trivial rfl
      refine dc1 (fun uu wq D hC hk K hK => ?_) ?_
      ·obtain ⟨hP, mM, yM, mS, mB, mN, hZ⟩ := hC
       simp only [calmKnown, lg0, lg1, and_true, Is] at hk
       have h1 := hk; clear hk
       simp only [h1] at hK ⊢
       have H1 := hYd h1; clear h1
       go_simp
       exact hK _ _ _ rfl ⟨hP, mM, yM, mS, mB, mN, hZ⟩ trivial rfl
      refine dc1 (fun uu wq D hC hk K hK => ?_) ?_
      ·obtain ⟨hP, mM, yM, mS, mB, mN, hZ⟩ := hC
       simp only [calmKnown, lg0, lg1, and_true, Is] at hk
       have h2 := hk; clear hk
       simp only [h2] at hK ⊢
       have H2 := hYd h2; clear h2
       go_simp
       exact hK _ _ _ rfl ⟨hP, mM, yM, mS, mB, mN, hZ⟩ trivial rfl
      refine dc2 (fun uu wq D hd hn hn2 hC hk K hK => ?_) ?_
      ·obtain ⟨hP, mM, yM, mS, mB, mN, hZ⟩ := hC
       simp only [calmKnown, lg0, lg1, and_true, Is] at hk
       have h3 := hk; clear hk
       simp only [h3] at hK ⊢
       have H3 := hYd h3; clear h3
       have cS := mS.cell; have lS := mS.lt
       have cB := mB.cell; have lB := mB.lt
       have cN := mN.cell; have lN := mN.lt
       have hB := mM (hn.out 14 (by kernel_rfl)); have cM := hB.cell; have lM := hB.lt
       go_simp
       exact hK _ _ _ rfl ⟨hP, mM, yM, mS, mB, mN, hZ⟩ trivial rfl
      refine dc0 (fun uu wq D hC K hK => ?_) ?_
      ·obtain ⟨hP, mM, yM, mS, mB, mN, hZ⟩ := hC
       go_simp
       exact hK _ _ _ rfl ⟨hP, mM, yM, mS, mB, mN, hZ⟩ trivial rfl
      refine dc2 (fun uu wq D hd hn hn2 hC hk K hK => ?_) ?_
      ·obtain ⟨hP, mM, yM, mS, mB, mN, hZ⟩ := hC
       clear hk
       have cS := mS.cell; have lS := mS.lt
       have cB := mB.cell; have lB := mB.lt
       have cN := mN.cell; have lN := mN.lt
       have hB := mM (hn.out 14 (by kernel_rfl)); have cM := hB.cell; have lM := hB.lt
       go_simp
       exact hK _ _ _ rfl ⟨hP, mM, yM, mS, mB, mN, hZ⟩ trivial rfl
      refine dc1 (fun uu wq D hC hk K hK => ?_) ?_
      ·obtain ⟨hP, mM, yM, mS, mB, mN, hZ⟩ := hC
       simp only [calmKnown, lg0, lg1, and_true, Is] at hk
       obtain ⟨h4, h5, h6⟩ := hk
       simp only [h4, h5, h6] at hK ⊢
       have H4 := hYd h4; clear h4; have H5 := hYd h5; clear h5; have H6 := hYd h6; clear h6
       first
        | (refine' calm_op ?_ ?_; rfl; go_simp; (first | (with_reducible refine (RL.out _).mono ?_)); rintro e w2 ⟨rfl, hbl⟩; exact hK _ _ _ rfl ⟨hP.call hbl, (fun h => Blk.keep hbl (mM h)), (fun h => Blk.keep hbl (yM h)), Blk.keep hbl mS, Blk.keep hbl mB, Blk.keep hbl mN, Nat.le_trans hZ hbl.size⟩ trivial rfl)
        | (go_simp; exact hK _ _ _ rfl ⟨hP, mM, yM, mS, mB, mN, hZ⟩ trivial rfl)
      refine dc1 (fun uu wq D hC hk K hK => ?_) ?_
      ·obtain ⟨hP, mM, yM, mS, mB, mN, hZ⟩ := hC
       simp only [calmKnown, lg0, lg1, and_true, Is] at hk
       have h7 := hk; clear hk
       simp only [h7] at hK ⊢
       have H7 := hYd h7; clear h7
       go_simp
       exact hK _ _ _ rfl ⟨hP, mM, yM, mS, mB, mN, hZ⟩ trivial rfl
      refine dc1 (fun uu wq D hC hk K hK => ?_) ?_
      ·obtain ⟨hP, mM, yM, mS, mB, mN, hZ⟩ := hC
       simp only [calmKnown, lg0, lg1, and_true, Is] at hk
       have h8 := hk; clear hk
       simp only [h8] at hK ⊢
       have H8 := hYd h8; clear h8
       go_simp
       exact hK _ _ _ rfl ⟨hP, mM, yM, mS, mB, mN, hZ⟩ trivial rfl
      refine dc1 (fun uu wq D hC hk K hK => ?_) ?_
      ·obtain ⟨hP, mM, yM, mS, mB, mN, hZ⟩ := hC
       simp only [calmKnown, lg0, lg1, and_true, Is] at hk
       have h8 := hk; clear hk
       simp only [h8] at hK ⊢
       have H8 := hYd h8; clear h8
       go_simp
       exact hK _ _ _ rfl ⟨hP, mM, yM, mS, mB, mN, hZ⟩ trivial rfl
      refine dc1 (fun uu wq D hC hk K hK => ?_) ?_
      ·obtain ⟨hP, mM, yM, mS, mB, mN, hZ⟩ := hC
       simp only [calmKnown, lg0, lg1, and_true, Is] at hk
       have h8 := hk; clear hk
       simp only [h8] at hK ⊢
       have H8 := hYd h8; clear h8
       go_simp
       exact hK _ _ _ rfl ⟨hP, mM, yM, mS, mB, mN, hZ⟩ trivial rfl
      refine dc1 (fun uu wq D hC hk K hK => ?_) ?_
      ·obtain ⟨hP, mM, yM, mS, mB, mN, hZ⟩ := hC
       simp only [calmKnown, lg0, lg1, and_true, Is] at hk
       have h0 := hk; clear hk
       simp only [h0] at hK ⊢
       have H0 := hYd h0; clear h0
       go_simp
       exact hK _ _ _ rfl ⟨hP, mM, yM, mS, mB, mN, hZ⟩ trivial rfl
      refine dc1 (fun uu wq D hC hk K hK => ?_) ?_
      ·obtain ⟨hP, mM, yM, mS, mB, mN, hZ⟩ := hC
       simp only [calmKnown, lg0, lg1, and_true, Is] at hk
       have h12 := hk; clear hk
       simp only [h12] at hK ⊢
       have H12 := hYd h12; clear h12
       go_simp
       exact hK _ _ _ rfl ⟨hP, mM, yM, mS, mB, mN, hZ⟩ trivial rfl
      refine dSteps_cons (fun uu wq D hd hn hn2 hC hk K hK => ?_) ?_
      ·obtain ⟨hP, mM, yM, mS, mB, mN, hZ⟩ := hC
       clear hn hn2
       simp only [calmKnown, lg0, lg1, and_true, Is] at hk
       obtain ⟨h13, h9⟩ := hk
       simp only [h13, h9] at hK ⊢
       have H13 := hYd h13; clear h13; have H9 := hYd h9; clear h9
       have hB := mM hd
       have hc9 := hB.cell; have hf9 := hB.frozen; have hl9 := hB.lt
       have hB2 := setAll_blk [.int .i64 na, .int .i64 nlo, .int .i64 nhi, .int .i64 np, .int .i64 nle, .int .i64 nre] 3 wq _ hB
       simp only [setArr, lst, ls0, ls1, Nat.zero_add, Nat.reduceAdd] at hB2
       go_simp
       exact hK _ undef (setAll wq (gm) 3 [.int .i64 na, .int .i64 nlo, .int .i64 nhi, .int .i64 np, .int .i64 nle, .int .i64 nre]) rfl ⟨(setAll_pastX (by simp) [.int .i64 na, .int .i64 nlo, .int .i64 nhi, .int .i64 np, .int .i64 nle, .int .i64 nre] 3 wq hP), (fun h => by cases h), (fun _ => hB2), setAll_far (show gs ≠ gm by first | omega | (simp <;> omega)) [.int .i64 na, .int .i64 nlo, .int .i64 nhi, .int .i64 np, .int .i64 nle, .int .i64 nre] 3 wq mS, setAll_far (show gb ≠ gm by first | omega | (simp <;> omega)) [.int .i64 na, .int .i64 nlo, .int .i64 nhi, .int .i64 np, .int .i64 nle, .int .i64 nre] 3 wq mB, setAll_far (show v1.heap.size ≠ gm by first | omega | (simp <;> omega)) [.int .i64 na, .int .i64 nlo, .int .i64 nhi, .int .i64 np, .int .i64 nle, .int .i64 nre] 3 wq mN, (by rw [setAll_size]; exact hZ)⟩ trivial trivial
      exact dSteps_nil
     ·intro uu v2 D hD hC hF
      obtain ⟨hP, mM, yM, mS, mB, mN, hZ⟩ := hC
      simp only [calmFacts, Is, and_true, true_and] at hF
      obtain ⟨f0, f1, f2, f3, f4, f5, f6, f7, f8, f9, f10, f11, f12, f13⟩ := hF
      simp only [f0, f1, f2, f3, f4, f5, f6, f7, f8, f9, f10, f11, f12, f13]
      have bbM := yM (hD 14 (by decide))
      have hq := hP; clear hP
      have Kv2 : Past [gm] w v2 := Past.trans KA hq
      have Zv2 := hZ; clear hZ
      clear hq KA
      clear bM cM fM lM eM kM; have bM := bbM
      clear bS cS fS lS eS kS; have bS := mS
      clear bB cB fB lB eB kB; have bB := mB
      clear bN cN fN lN eN kN; have bN := mN
      clear mM mS mB mN yM bbM hD
      obtain ⟨cM, fM, lM, eM, kM⟩ := Blk.facts bM
      obtain ⟨cS, fS, lS, eS, kS⟩ := Blk.facts bS
      obtain ⟨cB, fB, lB, eB, kB⟩ := Blk.facts bB
      obtain ⟨cN, fN, lN, eN, kN⟩ := Blk.facts bN
      go_wp2
      first | refine bodyPost_end (results_none rfl _ _ _) rfl ?_ | refine bodyPost_ret (results_none rfl _ _ _) rfl ?_
      exact ⟨rfl, bn1, bn1, bn1, pa1⟩
   ·have hnk := HNK.out
    rw [if_neg her] at hnk
    subst hnk
    have ge1 : (er == 0) = false := by simpa using her
    have ge2 : (er != 0) = true := by simpa using her
    clear HNK HL
    obtain ⟨cM, fM, lM, eM, kM⟩ := Blk.facts bM
    obtain ⟨cS, fS, lS, eS, kS⟩ := Blk.facts bS
    obtain ⟨cB, fB, lB, eB, kB⟩ := Blk.facts bB
    go_wp2_with fail
    refine (RM.out _ (HKN.out.below bl0)).mono ?_
    rintro e v1 ⟨rfl, hb⟩
    have hq : Past [gm] _ v1 := Past.below hb
    have hq0 : Past [] _ v1 := Past.below hb
    clear hb
    have Kv1 : Past [gm] w v1 := Past.trans pa1 hq
    have Zv1 : wr.heap.size ≤ v1.heap.size := Nat.le_trans (by first | exact Nat.le_refl _ | omega | (simp <;> omega)) hq.1
    have bM' : Blk v1 (gm) 116 #[.slice (some ⟨gs, 0, none⟩) l.length l.length, .slice (some ⟨gb, 0, none⟩) l.length l.length, .bool an, .int .i64 o0, .int .i64 o1, .int .i64 o2, .int .i64 o3, .int .i64 o4, .int .i64 o5] := hq0.blk (bn1) (by simp <;> omega)
    have bS' : Blk v1 (gs) 4 cs := hq0.blk (bn1) (by simp <;> omega)
    have bB' : Blk v1 (gb) 43 cb := hq0.blk (bn1) (by simp <;> omega)
    clear hq hqR
    clear bM cM fM lM eM kM; have bM := bM'; clear bM'
    clear bS cS fS lS eS kS; have bS := bS'; clear bS'
    clear bB cB fB lB eB kB; have bB := bB'; clear bB'
    obtain ⟨cM, fM, lM, eM, kM⟩ := Blk.facts bM
    obtain ⟨cS, fS, lS, eS, kS⟩ := Blk.facts bS
    obtain ⟨cB, fB, lB, eB, kB⟩ := Blk.facts bB
    clear hq0
    go_wp2
    first | refine bodyPost_end (results_none rfl _ _ _) rfl ?_ | refine bodyPost_ret (results_none rfl _ _ _) rfl ?_
    exact ⟨rfl, bn1, bn1, bn1, pa1⟩
end Go.Proofs.YtlnboheahbfgfaaGreat
