/- sample of a bench. -/
import Derived.Test.YtiinmhfolfgobaaGreatDoorJ22
import Derived.Test.YtiinmhfolfgobaaGreatDoorJ26
import Derived.Test.YtiinmhfolfgobaaGreatDoorJ35
namespace Go.Proofs.YtiinmhfolfgobaaGreatDoor
open Go.RowKit Go.Lib
set_option linter.unusedSimpArgs false
set_option linter.unusedVariables false

theorem setArr_cons (cs : Array Value) (i : Nat) (v : Value) (l : List Value) : setArr cs i (v :: l) = setArr (setArr cs i [v]) (i + 1) l := by simp only [setArr]
theorem getE_set {cur : Array Value} {q j : Nat} {u x : Value} (hs : q * 7 + 6 < cur.size) (h : cur[q * 7 + (j + 1)]? = some x) : (setArr cur (q * 7) [u])[q * 7 + (j + 1)]? = some x := by
  rw [setArr_get _ _ _ _ (by simp; omega), if_neg (by simp)]; exact h
theorem NumsR.of {w : World} {gn : Nat} {zs : List Int} (h : Blk w gn 3 (zs.map (Value.int .i64)).toArray) : NumsR w (some ⟨gn, 0, none⟩) zs.length zs :=
  ⟨rfl, fun _ => ⟨_, _, rfl, h, fun j hj => by rw [List.getElem?_toArray, List.getElem?_map, List.getElem?_eq_getElem hj, List.getD_eq_getElem?_getD, List.getElem?_eq_getElem hj]; rfl⟩⟩
theorem keep_slicePT {B lo : Nat} {t : TypeId} {n : Nat} {cs : Array Value} (ht : t ∉ [5, 76]) : ∀ d v w w', PastT B [5, 76] w w' → SliceB [] lo t n cs d v w → SliceB [] lo t n cs d v w' := fun _ _ _ _ h ⟨g, e, hn, hl, hb⟩ => ⟨g, e, hn, hl, h.blk hb ht⟩
/-- A source of a bench is stored. -/
theorem BnAt.source {B g gs q : Nat} {w w' : World} {b : Bn} {VL p v : Value} {cur : Array Value} (k : Kw) (hB : B ≤ g) (h : Blk w g 76 (bnC b VL p v)) (hVL : VL = .slice (some ⟨gs, 0, none⟩) b.srcs.length b.srcs.length) (hgs : B ≤ gs) (hs : Blk w gs 170 cur) (hc : SrcAt cur b.srcs) (hq : q < b.srcs.length) (hp : p = .pointer none ∨ p = .pointer (some ⟨g, 10, none⟩)) (hv : BufAt B w v b.out)
    (hw : Past [gs] w w') (hn : Blk w' gs 170 (setArr cur (q * 7) (kwC k))) : BnAt B w' g { b with srcs := b.srcs.set q k } ∧ PastT B [170] w w' := by
  have hT : PastT B [170] w w' := .of_past hw (fun k hk => by simp at hk; subst hk; exact ⟨hgs, _, _, _, hs, by simp⟩)
  refine ⟨⟨hB, VL, p, v, hT.blk h (by decide), ⟨some ⟨gs, 0, none⟩, ?_, fun _ => ⟨gs, _, rfl, hgs, hn, src_set hc q hq k⟩⟩, hp, hv.pastT hT (by decide)⟩, hT⟩
  rw [hVL]; simp
def srcSt2 (cur : Array Value) (q : Nat) (k : Kw) : Nat → Array Value
  | 0 => cur
  | 1 => setArr cur (q * 7) [.bool k.1]
  | _ => setArr cur (q * 7) (kwC k)

set_option maxHeartbeats 16000000 in
set_option maxRecDepth 100000 in
theorem sample_any (B g : Nat) (b : Bn) (A : Option Addr) (cap : Nat) (n0 t1 t2 t3 t4 er9 : Int) (w : World) (h : BnAt B w g b) (hn : NumsR w A 6 [n0, t1, t2, t3, t4, er9]) (hs0 : vT n0 = true) (hpow : PowB B w) (hl : b.out.length ≤ 900000) (hs : b.srcs.length ≤ 64) :
    Calls Tryz.prog 95 #[.pointer (some ⟨g, 0, none⟩), .slice A 6 cap] w (LnR B g w (b.sample n0 t1 t2 t3 t4 er9)) := by
  have hv0 := vT_true.1 hs0
  have HS0 := Lib.hid (smallI_vT hs0)
  have HN6 := Lib.hid hn
  obtain ⟨gm, curN, rfl, hNb0, hNc⟩ := hn.2 (by omega)
  have hgm := hNb0.lt
  have hc0 : curN[0]? = some (.int .i64 n0) := hNc 0 (by omega)
  have HC0 := Lib.hid hc0
  have hc1 : curN[1]? = some (.int .i64 t1) := hNc 1 (by omega)
  have HC1 := Lib.hid hc1
  have hc2 : curN[2]? = some (.int .i64 t2) := hNc 2 (by omega)
  have HC2 := Lib.hid hc2
  have hc3 : curN[3]? = some (.int .i64 t3) := hNc 3 (by omega)
  have HC3 := Lib.hid hc3
  have hc4 : curN[4]? = some (.int .i64 t4) := hNc 4 (by omega)
  have HC4 := Lib.hid hc4
  have hc5 : curN[5]? = some (.int .i64 er9) := hNc 5 (by omega)
  have HC5 := Lib.hid hc5
  have cA0 := (hNb0.cell 0).trans hc0
  have HNB := Lib.hid hNb0
  have HH := Lib.hid h; have HPW := Lib.hid hpow
  obtain ⟨hB, VL, pq, v, e1, ⟨AV, rfl, e2⟩, e3, e4⟩ := HH.out
  have hmg : gm ≠ g := Blk.ne HNB.out e1 (by decide)
  have hgl := e1.lt
  have cP := e1.cell
  unfold bnC at cP
  have HE1 := Lib.hid e1; have HE4 := Lib.hid e4; have HE2 := Lib.hid e2; have HE3 := Lib.hid e3
  clear h hpow hn hNc hNb0 hc0 hc1 hc2 hc3 hc4 hc5 e1 e2 e3 e4 hs0
  by_cases h0 : n0 < 0
  · have c0 : decide (n0 < 0) = true := decide_eq_true h0
    have hr : b.sample n0 t1 t2 t3 t4 er9 = (b, 4) := by unfold Bn.sample; rw [if_neg (by omega)]
    rw [hr]
    clear hr
    go_enter Tryz.func95, Tryz.ntmps95
    go_wp2_with fail
    go_quiet (fail)
    go_wp2
    go_ret
    exact ⟨rfl, HH.out.below (below_drewN (Below.refl _ _) _), PastT.below (below_drewN (Below.refl _ _) _)⟩
  have c0 : decide (n0 < 0) = false := decide_eq_false h0
  by_cases h1 : n0 ≥ (b.srcs.length : Int)
  · have c1 : decide (n0 ≥ (b.srcs.length : Int)) = true := decide_eq_true h1
    have c1' : decide ((b.srcs.length : Int) ≤ n0) = true := c1
    have hr : b.sample n0 t1 t2 t3 t4 er9 = (b, 4) := by unfold Bn.sample; rw [if_neg (by omega)]
    rw [hr]
    clear hr
    go_enter Tryz.func95, Tryz.ntmps95
    go_wp2_with fail
    go_quiet (fail)
    go_wp2
    go_ret
    exact ⟨rfl, HH.out.below (below_drewN (Below.refl _ _) _), PastT.below (below_drewN (Below.refl _ _) _)⟩
  have c1 : decide (n0 ≥ (b.srcs.length : Int)) = false := decide_eq_false h1
  have c1' : decide ((b.srcs.length : Int) ≤ n0) = false := c1
  obtain ⟨q, rfl⟩ : ∃ q : Nat, n0 = (q : Int) := ⟨n0.toNat, by omega⟩
  have hql : q < b.srcs.length := by omega
  have c1n : decide (b.srcs.length ≤ q) = false := decide_eq_false (by omega)
  have gq : decide ((q : Int) < (b.srcs.length : Int)) = true := decide_eq_true (by omega)
  have gqn : decide (q < b.srcs.length) = true := decide_eq_true hql
  obtain ⟨gs, curS, rfl, hgs, hSb, hSc⟩ := HE2.out (by omega)
  have HSB := Lib.hid hSb; have HSC := Lib.hid hSc
  have hsl := hSb.lt
  have hsm : gs ≠ gm := Blk.ne hSb HNB.out (by decide)
  have hsg : gs ≠ g := Blk.ne hSb HE1.out (by decide)
  obtain ⟨kv, hkv⟩ : ∃ kv, b.srcs.getD q (false, .zero) = kv := ⟨_, rfl⟩
  have hcs := hSc.2 q hql
  rw [hkv] at hcs
  have HKV := Lib.hid hkv
  have hr : b.sample (q : Int) t1 t2 t3 t4 er9 = b.heard q t4 (atT t1 t2 t3 t4 er9 b.p) := by unfold Bn.sample; rw [if_pos (by omega)]
  have RA := Lib.hid (fun W => atT_V t1 t2 t3 t4 er9 b.p ▸ at_any t1 t2 t3 t4 er9 b.p W)
  have hab := atT_b t1 t2 t3 t4 er9 b.p
  obtain ⟨a, ha⟩ : ∃ a, atT t1 t2 t3 t4 er9 b.p = a := ⟨_, rfl⟩
  rw [ha] at hr hab
  rw [hr]
  replace RA := Lib.hid (fun W => ha ▸ RA.out W)
  obtain ⟨a0, a1, ae⟩ := a
  obtain ⟨hae, ha0, ha1⟩ := hab
  dsimp only at hae ha0 ha1
  unfold V3 at RA
  dsimp only at RA
  have HAE := Lib.hid hae; have HA0 := Lib.hid ha0; have HA1 := Lib.hid ha1
  clear hr ha hae ha0 ha1 hSb hSc hkv
  obtain ⟨kb, na, nlo, nhi, np, nle, nre⟩ := kv
  have hk0 := hcs 0 (by omega)
  have hk1 := hcs 1 (by omega)
  have hk2 := hcs 2 (by omega)
  have hk3 := hcs 3 (by omega)
  have hk4 := hcs 4 (by omega)
  have hk5 := hcs 5 (by omega)
  have hk6 := hcs 6 (by omega)
  simp only [kwC, K6.cs, List.getElem?_cons_zero, List.getElem?_cons_succ, Nat.add_zero] at hk0 hk1 hk2 hk3 hk4 hk5 hk6
  have HK0 := Lib.hid hk0
  have HK1 := Lib.hid hk1
  have HK2 := Lib.hid hk2
  have HK3 := Lib.hid hk3
  have HK4 := Lib.hid hk4
  have HK5 := Lib.hid hk5
  have HK6 := Lib.hid hk6
  clear hcs hk0 hk1 hk2 hk3 hk4 hk5 hk6
  go_enter Tryz.func95, Tryz.ntmps95
  go_wp2_with fail
  go_quiet (fail)
  go_wp2_with fail
  go_quiet (fail)
  clear cA0 cP
  have bP := HE1.out; have bN := HNB.out; have bS := HSB.out
  unfold bnC at bP
  obtain ⟨cP, fP, lP, eP, kP⟩ := Blk.facts bP
  obtain ⟨cN, fN, lN, eN, kN⟩ := Blk.facts bN
  obtain ⟨cS, fS, lS, eS, kS⟩ := Blk.facts bS
  go_upto_region 4 with fail
  refine' wp_region_calmD (by kernel_rfl) (fun D u9 w' => Past [] w w' ∧ Blk w' (g) 76 #[.bool b.begun, .slice (some ⟨gs, 0, none⟩) b.srcs.length b.srcs.length, .int .i64 b.li, .int .i64 b.p, .int .i64 b.ck.aim, .int .i64 b.ck.rate, .bool b.ck.set, .bool b.ck.held, .int .i64 b.ck.at_, .int .i64 b.ck.shown, pq, v] ∧ Blk w' (gm) 3 curN ∧ Blk w' (gs) 170 curS ∧ NewD w.heap.size 40 #[.int .i64 0, .int .i64 0] #[.int .i64 a0, .int .i64 a1] (D 24) (D 25) (u9 24) w' ∧ w.heap.size ≤ w'.heap.size) (fun _ _ => True) [(Is _), (Is _), (Is _), (Is _), (Is _), (Is _), (Is _), (Is _), (Is _), (Is _), (Is _), (Is _), (Is _), (Is _), (Is _), (Is _), (Is _), (Is _), (Is _), (Is _), (Is _), (Is _), (Is _), (Is _), (fun _ _ _ => True), (fun _ _ _ => True), (Is _)] [[], [0], [1], [], [3], [4], [], [6], [7], [], [9], [10], [], [12], [13], [2, 5, 8, 11, 14], [], [16], [17], [18], [15, 19], [20], [21], [21], [], [24, 22], [23]] rfl (calmB_of (by kernel_rfl)) (fun u => by (simp only [calmPut, Act.put, List.setIfInBounds_toArray, List.set_cons_zero, List.set_cons_succ, Nat.zero_add, Nat.reduceAdd]; rfl)) ?_ (calmKeep_cons keep_is' (calmKeep_cons keep_is' (calmKeep_cons keep_is' (calmKeep_cons keep_is' (calmKeep_cons keep_is' (calmKeep_cons keep_is' (calmKeep_cons keep_is' (calmKeep_cons keep_is' (calmKeep_cons keep_is' (calmKeep_cons keep_is' (calmKeep_cons keep_is' (calmKeep_cons keep_is' (calmKeep_cons keep_is' (calmKeep_cons keep_is' (calmKeep_cons keep_is' (calmKeep_cons keep_is' (calmKeep_cons keep_is' (calmKeep_cons keep_is' (calmKeep_cons keep_is' (calmKeep_cons keep_is' (calmKeep_cons keep_is' (calmKeep_cons keep_is' (calmKeep_cons keep_is' (calmKeep_cons keep_is' (calmKeep_cons keep_triv (calmKeep_cons keep_triv (calmKeep_cons keep_is' (calmKeep_nil)))))))))))))))))))))))))))) ?_ ?_
  · exact ⟨(by (repeat' (first | (with_reducible exact (Past.refl _ _)) | (with_reducible exact Past.refl _ _) | (with_reducible refine Past.drew ?_) | (with_reducible refine Past.drewN ?_ _) | (with_reducible refine Past.allocs ?_ _) | (with_reducible refine' Past.setIn ?_ ?_ _; rotate_left 1; (focus (simp; done))) | (with_reducible refine' Past.far ?_ ?_ _; rotate_left 1; (first | omega | (simp <;> omega)))))), (by (repeat' (first | (with_reducible exact bP) | (with_reducible refine' Blk.alloc ?_ _) | (with_reducible refine' Blk.drew ?_) | (with_reducible refine' Blk.drewN ?_ _) | (with_reducible refine' Blk.put ?_ ?_) | (with_reducible refine' Blk.far ?_ ?_ _) | exact bP | exact rfl)) <;> (first | omega | (simp <;> omega))), (by (repeat' (first | (with_reducible exact bN) | (with_reducible refine' Blk.alloc ?_ _) | (with_reducible refine' Blk.drew ?_) | (with_reducible refine' Blk.drewN ?_ _) | (with_reducible refine' Blk.put ?_ ?_) | (with_reducible refine' Blk.far ?_ ?_ _) | exact bN | exact rfl)) <;> (first | omega | (simp <;> omega))), (by (repeat' (first | (with_reducible exact bS) | (with_reducible refine' Blk.alloc ?_ _) | (with_reducible refine' Blk.drew ?_) | (with_reducible refine' Blk.drewN ?_ _) | (with_reducible refine' Blk.put ?_ ?_) | (with_reducible refine' Blk.far ?_ ?_ _) | exact bS | exact rfl)) <;> (first | omega | (simp <;> omega))), NewD.start _, (by first | exact Nat.le_refl _ | omega | (simp <;> omega))⟩
  rotate_left 25
  · skip
    refine dSteps_cons (fun uu wq D hd hn hn2 hC hk K hK => ?_) ?_
    · obtain ⟨hP, mP, mN, mS, nA, hZ⟩ := hC
      clear hn hn2
      clear hk
      go_simp
      exact hK _ _ _ rfl ⟨hP, mP, mN, mS, nA, hZ⟩ trivial rfl
    refine dSteps_cons (fun uu wq D hd hn hn2 hC hk K hK => ?_) ?_
    · obtain ⟨hP, mP, mN, mS, nA, hZ⟩ := hC
      clear hn hn2
      simp only [calmKnown, List.getElem?_cons_zero, List.getElem?_cons_succ, and_true, Is, Pure, Option.some.injEq, List.getD_cons_zero, List.getD_cons_succ, List.map_cons, List.map_nil] at hk
      have h0 := hk; clear hk
      simp only [h0] at hK ⊢
      have H0 := Lib.hid h0; clear h0
      go_simp
      exact hK _ _ _ rfl ⟨hP, mP, mN, mS, nA, hZ⟩ trivial rfl
    refine dSteps_cons (fun uu wq D hd hn hn2 hC hk K hK => ?_) ?_
    · obtain ⟨hP, mP, mN, mS, nA, hZ⟩ := hC
      clear hn hn2
      simp only [calmKnown, List.getElem?_cons_zero, List.getElem?_cons_succ, and_true, Is, Pure, Option.some.injEq, List.getD_cons_zero, List.getD_cons_succ, List.map_cons, List.map_nil] at hk
      have h1 := hk; clear hk
      simp only [h1] at hK ⊢
      have H1 := Lib.hid h1; clear h1
      have z0 := (mN.cell 0).trans HC0.out
      have z1 := (mN.cell 1).trans HC1.out
      have z2 := (mN.cell 2).trans HC2.out
      have z3 := (mN.cell 3).trans HC3.out
      have z4 := (mN.cell 4).trans HC4.out
      have z5 := (mN.cell 5).trans HC5.out
      have cP := mP.cell; have lP := mP.lt
      have cN := mN.cell; have lN := mN.lt
      have cS := mS.cell; have lS := mS.lt
      go_simp
      exact hK _ _ _ rfl ⟨hP, mP, mN, mS, nA, hZ⟩ trivial rfl
    refine dSteps_cons (fun uu wq D hd hn hn2 hC hk K hK => ?_) ?_
    · obtain ⟨hP, mP, mN, mS, nA, hZ⟩ := hC
      clear hn hn2
      clear hk
      go_simp
      exact hK _ _ _ rfl ⟨hP, mP, mN, mS, nA, hZ⟩ trivial rfl
    refine dSteps_cons (fun uu wq D hd hn hn2 hC hk K hK => ?_) ?_
    · obtain ⟨hP, mP, mN, mS, nA, hZ⟩ := hC
      clear hn hn2
      simp only [calmKnown, List.getElem?_cons_zero, List.getElem?_cons_succ, and_true, Is, Pure, Option.some.injEq, List.getD_cons_zero, List.getD_cons_succ, List.map_cons, List.map_nil] at hk
      have h3 := hk; clear hk
      simp only [h3] at hK ⊢
      have H3 := Lib.hid h3; clear h3
      go_simp
      exact hK _ _ _ rfl ⟨hP, mP, mN, mS, nA, hZ⟩ trivial rfl
    refine dSteps_cons (fun uu wq D hd hn hn2 hC hk K hK => ?_) ?_
    · obtain ⟨hP, mP, mN, mS, nA, hZ⟩ := hC
      clear hn hn2
      simp only [calmKnown, List.getElem?_cons_zero, List.getElem?_cons_succ, and_true, Is, Pure, Option.some.injEq, List.getD_cons_zero, List.getD_cons_succ, List.map_cons, List.map_nil] at hk
      have h4 := hk; clear hk
      simp only [h4] at hK ⊢
      have H4 := Lib.hid h4; clear h4
      have z0 := (mN.cell 0).trans HC0.out
      have z1 := (mN.cell 1).trans HC1.out
      have z2 := (mN.cell 2).trans HC2.out
      have z3 := (mN.cell 3).trans HC3.out
      have z4 := (mN.cell 4).trans HC4.out
      have z5 := (mN.cell 5).trans HC5.out
      have cP := mP.cell; have lP := mP.lt
      have cN := mN.cell; have lN := mN.lt
      have cS := mS.cell; have lS := mS.lt
      go_simp
      exact hK _ _ _ rfl ⟨hP, mP, mN, mS, nA, hZ⟩ trivial rfl
    refine dSteps_cons (fun uu wq D hd hn hn2 hC hk K hK => ?_) ?_
    · obtain ⟨hP, mP, mN, mS, nA, hZ⟩ := hC
      clear hn hn2
      clear hk
      go_simp
      exact hK _ _ _ rfl ⟨hP, mP, mN, mS, nA, hZ⟩ trivial rfl
    refine dSteps_cons (fun uu wq D hd hn hn2 hC hk K hK => ?_) ?_
    · obtain ⟨hP, mP, mN, mS, nA, hZ⟩ := hC
      clear hn hn2
      simp only [calmKnown, List.getElem?_cons_zero, List.getElem?_cons_succ, and_true, Is, Pure, Option.some.injEq, List.getD_cons_zero, List.getD_cons_succ, List.map_cons, List.map_nil] at hk
      have h6 := hk; clear hk
      simp only [h6] at hK ⊢
      have H6 := Lib.hid h6; clear h6
      go_simp
      exact hK _ _ _ rfl ⟨hP, mP, mN, mS, nA, hZ⟩ trivial rfl
    refine dSteps_cons (fun uu wq D hd hn hn2 hC hk K hK => ?_) ?_
    · obtain ⟨hP, mP, mN, mS, nA, hZ⟩ := hC
      clear hn hn2
      simp only [calmKnown, List.getElem?_cons_zero, List.getElem?_cons_succ, and_true, Is, Pure, Option.some.injEq, List.getD_cons_zero, List.getD_cons_succ, List.map_cons, List.map_nil] at hk
      have h7 := hk; clear hk
      simp only [h7] at hK ⊢
      have H7 := Lib.hid h7; clear h7
      have z0 := (mN.cell 0).trans HC0.out
      have z1 := (mN.cell 1).trans HC1.out
      have z2 := (mN.cell 2).trans HC2.out
      have z3 := (mN.cell 3).trans HC3.out
      have z4 := (mN.cell 4).trans HC4.out
      have z5 := (mN.cell 5).trans HC5.out
      have cP := mP.cell; have lP := mP.lt
      have cN := mN.cell; have lN := mN.lt
      have cS := mS.cell; have lS := mS.lt
      go_simp
      exact hK _ _ _ rfl ⟨hP, mP, mN, mS, nA, hZ⟩ trivial rfl
    refine dSteps_cons (fun uu wq D hd hn hn2 hC hk K hK => ?_) ?_
    · obtain ⟨hP, mP, mN, mS, nA, hZ⟩ := hC
      clear hn hn2
      clear hk
      go_simp
      exact hK _ _ _ rfl ⟨hP, mP, mN, mS, nA, hZ⟩ trivial rfl
    refine dSteps_cons (fun uu wq D hd hn hn2 hC hk K hK => ?_) ?_
    · obtain ⟨hP, mP, mN, mS, nA, hZ⟩ := hC
      clear hn hn2
      simp only [calmKnown, List.getElem?_cons_zero, List.getElem?_cons_succ, and_true, Is, Pure, Option.some.injEq, List.getD_cons_zero, List.getD_cons_succ, List.map_cons, List.map_nil] at hk
      have h9 := hk; clear hk
      simp only [h9] at hK ⊢
      have H9 := Lib.hid h9; clear h9
      go_simp
      exact hK _ _ _ rfl ⟨hP, mP, mN, mS, nA, hZ⟩ trivial rfl
    refine dSteps_cons (fun uu wq D hd hn hn2 hC hk K hK => ?_) ?_
    · obtain ⟨hP, mP, mN, mS, nA, hZ⟩ := hC
      clear hn hn2
      simp only [calmKnown, List.getElem?_cons_zero, List.getElem?_cons_succ, and_true, Is, Pure, Option.some.injEq, List.getD_cons_zero, List.getD_cons_succ, List.map_cons, List.map_nil] at hk
      have h10 := hk; clear hk
      simp only [h10] at hK ⊢
      have H10 := Lib.hid h10; clear h10
      have z0 := (mN.cell 0).trans HC0.out
      have z1 := (mN.cell 1).trans HC1.out
      have z2 := (mN.cell 2).trans HC2.out
      have z3 := (mN.cell 3).trans HC3.out
      have z4 := (mN.cell 4).trans HC4.out
      have z5 := (mN.cell 5).trans HC5.out
      have cP := mP.cell; have lP := mP.lt
      have cN := mN.cell; have lN := mN.lt
      have cS := mS.cell; have lS := mS.lt
      go_simp
      exact hK _ _ _ rfl ⟨hP, mP, mN, mS, nA, hZ⟩ trivial rfl
    refine dSteps_cons (fun uu wq D hd hn hn2 hC hk K hK => ?_) ?_
    · obtain ⟨hP, mP, mN, mS, nA, hZ⟩ := hC
      clear hn hn2
      clear hk
      go_simp
      exact hK _ _ _ rfl ⟨hP, mP, mN, mS, nA, hZ⟩ trivial rfl
    refine dSteps_cons (fun uu wq D hd hn hn2 hC hk K hK => ?_) ?_
    · obtain ⟨hP, mP, mN, mS, nA, hZ⟩ := hC
      clear hn hn2
      simp only [calmKnown, List.getElem?_cons_zero, List.getElem?_cons_succ, and_true, Is, Pure, Option.some.injEq, List.getD_cons_zero, List.getD_cons_succ, List.map_cons, List.map_nil] at hk
      have h12 := hk; clear hk
      simp only [h12] at hK ⊢
      have H12 := Lib.hid h12; clear h12
      go_simp
      exact hK _ _ _ rfl ⟨hP, mP, mN, mS, nA, hZ⟩ trivial rfl
    refine dSteps_cons (fun uu wq D hd hn hn2 hC hk K hK => ?_) ?_
    · obtain ⟨hP, mP, mN, mS, nA, hZ⟩ := hC
      clear hn hn2
      simp only [calmKnown, List.getElem?_cons_zero, List.getElem?_cons_succ, and_true, Is, Pure, Option.some.injEq, List.getD_cons_zero, List.getD_cons_succ, List.map_cons, List.map_nil] at hk
      have h13 := hk; clear hk
      simp only [h13] at hK ⊢
      have H13 := Lib.hid h13; clear h13
      have z0 := (mN.cell 0).trans HC0.out
      have z1 := (mN.cell 1).trans HC1.out
      have z2 := (mN.cell 2).trans HC2.out
      have z3 := (mN.cell 3).trans HC3.out
      have z4 := (mN.cell 4).trans HC4.out
      have z5 := (mN.cell 5).trans HC5.out
      have cP := mP.cell; have lP := mP.lt
      have cN := mN.cell; have lN := mN.lt
      have cS := mS.cell; have lS := mS.lt
      go_simp
      exact hK _ _ _ rfl ⟨hP, mP, mN, mS, nA, hZ⟩ trivial rfl
    refine dSteps_cons (fun uu wq D hd hn hn2 hC hk K hK => ?_) ?_
    · obtain ⟨hP, mP, mN, mS, nA, hZ⟩ := hC
      clear hn hn2
      simp only [calmKnown, List.getElem?_cons_zero, List.getElem?_cons_succ, and_true, Is, Pure, Option.some.injEq, List.getD_cons_zero, List.getD_cons_succ, List.map_cons, List.map_nil] at hk
      obtain ⟨h2, h5, h8, h11, h14⟩ := hk
      simp only [h2, h5, h8, h11, h14] at hK ⊢
      have H2 := Lib.hid h2; clear h2; have H5 := Lib.hid h5; clear h5; have H8 := Lib.hid h8; clear h8; have H11 := Lib.hid h11; clear h11; have H14 := Lib.hid h14; clear h14
      go_simp
      exact hK _ _ _ rfl ⟨hP, mP, mN, mS, nA, hZ⟩ trivial rfl
    refine dSteps_cons (fun uu wq D hd hn hn2 hC hk K hK => ?_) ?_
    · obtain ⟨hP, mP, mN, mS, nA, hZ⟩ := hC
      clear hn hn2
      clear hk
      go_simp
      exact hK _ _ _ rfl ⟨hP, mP, mN, mS, nA, hZ⟩ trivial rfl
    refine dSteps_cons (fun uu wq D hd hn hn2 hC hk K hK => ?_) ?_
    · obtain ⟨hP, mP, mN, mS, nA, hZ⟩ := hC
      clear hn hn2
      simp only [calmKnown, List.getElem?_cons_zero, List.getElem?_cons_succ, and_true, Is, Pure, Option.some.injEq, List.getD_cons_zero, List.getD_cons_succ, List.map_cons, List.map_nil] at hk
      have h16 := hk; clear hk
      simp only [h16] at hK ⊢
      have H16 := Lib.hid h16; clear h16
      go_simp
      exact hK _ _ _ rfl ⟨hP, mP, mN, mS, nA, hZ⟩ trivial rfl
    refine dSteps_cons (fun uu wq D hd hn hn2 hC hk K hK => ?_) ?_
    · obtain ⟨hP, mP, mN, mS, nA, hZ⟩ := hC
      clear hn hn2
      simp only [calmKnown, List.getElem?_cons_zero, List.getElem?_cons_succ, and_true, Is, Pure, Option.some.injEq, List.getD_cons_zero, List.getD_cons_succ, List.map_cons, List.map_nil] at hk
      have h17 := hk; clear hk
      simp only [h17] at hK ⊢
      have H17 := Lib.hid h17; clear h17
      go_simp
      exact hK _ _ _ rfl ⟨hP, mP, mN, mS, nA, hZ⟩ trivial rfl
    refine dSteps_cons (fun uu wq D hd hn hn2 hC hk K hK => ?_) ?_
    · obtain ⟨hP, mP, mN, mS, nA, hZ⟩ := hC
      clear hn hn2
      simp only [calmKnown, List.getElem?_cons_zero, List.getElem?_cons_succ, and_true, Is, Pure, Option.some.injEq, List.getD_cons_zero, List.getD_cons_succ, List.map_cons, List.map_nil] at hk
      have h18 := hk; clear hk
      simp only [h18] at hK ⊢
      have H18 := Lib.hid h18; clear h18
      have z0 := (mN.cell 0).trans HC0.out
      have z1 := (mN.cell 1).trans HC1.out
      have z2 := (mN.cell 2).trans HC2.out
      have z3 := (mN.cell 3).trans HC3.out
      have z4 := (mN.cell 4).trans HC4.out
      have z5 := (mN.cell 5).trans HC5.out
      have cP := mP.cell; have lP := mP.lt
      have cN := mN.cell; have lN := mN.lt
      have cS := mS.cell; have lS := mS.lt
      go_simp
      exact hK _ _ _ rfl ⟨hP, mP, mN, mS, nA, hZ⟩ trivial rfl
    refine dSteps_cons (fun uu wq D hd hn hn2 hC hk K hK => ?_) ?_
    · obtain ⟨hP, mP, mN, mS, nA, hZ⟩ := hC
      clear hn hn2
      simp only [calmKnown, List.getElem?_cons_zero, List.getElem?_cons_succ, and_true, Is, Pure, Option.some.injEq, List.getD_cons_zero, List.getD_cons_succ, List.map_cons, List.map_nil] at hk
      obtain ⟨h15, h19⟩ := hk
      simp only [h15, h19] at hK ⊢
      have H15 := Lib.hid h15; clear h15; have H19 := Lib.hid h19; clear h19
      go_wp2_with fail
      first | (with_reducible refine (RA.out _).mono ?_)
      rintro e w2 ⟨rfl, hbl⟩
      exact hK _ _ _ rfl ⟨hP.call hbl, Blk.keep hbl mP, Blk.keep hbl mN, Blk.keep hbl mS, nA.below hbl, Nat.le_trans hZ hbl.size⟩ trivial rfl
    refine dSteps_cons (fun uu wq D hd hn hn2 hC hk K hK => ?_) ?_
    · obtain ⟨hP, mP, mN, mS, nA, hZ⟩ := hC
      clear hn hn2
      simp only [calmKnown, List.getElem?_cons_zero, List.getElem?_cons_succ, and_true, Is, Pure, Option.some.injEq, List.getD_cons_zero, List.getD_cons_succ, List.map_cons, List.map_nil] at hk
      have h20 := hk; clear hk
      simp only [h20] at hK ⊢
      have H20 := Lib.hid h20; clear h20
      go_simp
      exact hK _ _ _ rfl ⟨hP, mP, mN, mS, nA, hZ⟩ trivial rfl
    refine dSteps_cons (fun uu wq D hd hn hn2 hC hk K hK => ?_) ?_
    · obtain ⟨hP, mP, mN, mS, nA, hZ⟩ := hC
      clear hn hn2
      simp only [calmKnown, List.getElem?_cons_zero, List.getElem?_cons_succ, and_true, Is, Pure, Option.some.injEq, List.getD_cons_zero, List.getD_cons_succ, List.map_cons, List.map_nil] at hk
      have h21 := hk; clear hk
      simp only [h21] at hK ⊢
      have H21 := Lib.hid h21; clear h21
      go_simp
      exact hK _ _ _ rfl ⟨hP, mP, mN, mS, nA, hZ⟩ trivial rfl
    refine dSteps_cons (fun uu wq D hd hn hn2 hC hk K hK => ?_) ?_
    · obtain ⟨hP, mP, mN, mS, nA, hZ⟩ := hC
      clear hn hn2
      simp only [calmKnown, List.getElem?_cons_zero, List.getElem?_cons_succ, and_true, Is, Pure, Option.some.injEq, List.getD_cons_zero, List.getD_cons_succ, List.map_cons, List.map_nil] at hk
      have h21 := hk; clear hk
      simp only [h21] at hK ⊢
      have H21 := Lib.hid h21; clear h21
      go_simp
      exact hK _ _ _ rfl ⟨hP, mP, mN, mS, nA, hZ⟩ trivial rfl
    refine dSteps_cons (fun uu wq D hd hn hn2 hC hk K hK => ?_) ?_
    · obtain ⟨hP, mP, mN, mS, nA, hZ⟩ := hC
      replace hn := Lib.hid hn; replace hn2 := Lib.hid hn2
      clear hk
      have d25 := hn.out 25 (by kernel_rfl)
      go_simp
      exact hK _ _ _ rfl ⟨hP.allocs _, mP.alloc _, mN.alloc _, mS.alloc _, NewD.made hZ d25, Nat.le_trans hZ (by simp)⟩ trivial trivial
    refine dSteps_cons (fun uu wq D hd hn hn2 hC hk K hK => ?_) ?_
    · obtain ⟨hP, mP, mN, mS, nA, hZ⟩ := hC
      replace hn := Lib.hid hn; replace hn2 := Lib.hid hn2
      simp only [calmKnown, List.getElem?_cons_zero, List.getElem?_cons_succ, and_true, Is, Pure, Option.some.injEq, List.getD_cons_zero, List.getD_cons_succ, List.map_cons, List.map_nil] at hk
      obtain ⟨-, h22⟩ := hk
      simp only [h22] at hK ⊢
      have H22 := Lib.hid h22; clear h22
      have da : D 24 = true := hn2.out 24 (by kernel_rfl)
      obtain ⟨gn, hgn, gb, gl, hB⟩ := nA.one da hd
      simp only [hgn] at hK ⊢
      have hc9 := hB.cell; have hf9 := hB.frozen
      have hB2 := setAll_blk [.int .i64 a0, .int .i64 a1] 0 wq _ hB
      simp only [setArr, List.setIfInBounds_toArray, List.set_cons_zero, List.set_cons_succ, Nat.zero_add, Nat.reduceAdd] at hB2
      go_simp
      exact hK _ undef (setAll wq gn 0 [.int .i64 a0, .int .i64 a1]) rfl ⟨(setAll_past gb [.int .i64 a0, .int .i64 a1] 0 wq hP), setAll_far (show g ≠ gn by first | omega | (simp <;> omega)) [.int .i64 a0, .int .i64 a1] 0 wq mP, setAll_far (show gm ≠ gn by first | omega | (simp <;> omega)) [.int .i64 a0, .int .i64 a1] 0 wq mN, setAll_far (show gs ≠ gn by first | omega | (simp <;> omega)) [.int .i64 a0, .int .i64 a1] 0 wq mS, (show NewD _ _ _ _ (D 24) true (uu 24) _ from by rw [hgn]; exact NewD.stored gb hB2), (by rw [setAll_size]; exact hZ)⟩ trivial trivial
    refine dSteps_cons (fun uu wq D hd hn hn2 hC hk K hK => ?_) ?_
    · obtain ⟨hP, mP, mN, mS, nA, hZ⟩ := hC
      clear hn hn2
      simp only [calmKnown, List.getElem?_cons_zero, List.getElem?_cons_succ, and_true, Is, Pure, Option.some.injEq, List.getD_cons_zero, List.getD_cons_succ, List.map_cons, List.map_nil] at hk
      have h23 := hk; clear hk
      simp only [h23] at hK ⊢
      have H23 := Lib.hid h23; clear h23
      go_simp
      exact hK _ _ _ rfl ⟨hP, mP, mN, mS, nA, hZ⟩ trivial rfl
    exact dSteps_nil
  · intro uu v1 D hD hC hF
    obtain ⟨hP, mP, mN, mS, nA, hZ⟩ := hC
    simp only [calmFacts, Is, and_true, true_and] at hF
    obtain ⟨f0, f1, f2, f3, f4, f5, f6, f7, f8, f9, f10, f11, f12, f13, f14, f15, f16, f17, f18, f19, f20, f21, f22, f23, f26⟩ := hF
    simp only [f0, f1, f2, f3, f4, f5, f6, f7, f8, f9, f10, f11, f12, f13, f14, f15, f16, f17, f18, f19, f20, f21, f22, f23, f26]
    obtain ⟨gA, e9A, gbA, glA, bA'⟩ := nA.last (hD 24 (by decide)) (hD 25 (by decide))
    simp only [e9A]
    clear e9A
    have hq := hP; clear hP
    have Kv1 : Past [] w v1 := Past.trans (Past.refl _ _) hq
    have Zv1 := hZ; clear hZ
    clear hq
    clear bP cP fP lP eP kP; have bP := mP
    clear bN cN fN lN eN kN; have bN := mN
    clear bS cS fS lS eS kS; have bS := mS
    clear mP mN mS nA hD
    have bA := bA'; clear bA'
    obtain ⟨cP, fP, lP, eP, kP⟩ := Blk.facts bP
    obtain ⟨cN, fN, lN, eN, kN⟩ := Blk.facts bN
    obtain ⟨cS, fS, lS, eS, kS⟩ := Blk.facts bS
    obtain ⟨cA, fA, lA, eA, kA⟩ := Blk.facts bA
    have oA := lA
    clear RA
    have hk0 := HK0.out
    have hk1 := HK1.out
    have hk2 := HK2.out
    have hk3 := HK3.out
    have hk4 := HK4.out
    have hk5 := HK5.out
    have hk6 := HK6.out
    have hkk1 : curS[q * 7 + 1 + 1]? = some (.int .i64 nlo) := HK2.out
    have hkk2 : curS[q * 7 + 1 + 2]? = some (.int .i64 nhi) := HK3.out
    have hkk3 : curS[q * 7 + 1 + 3]? = some (.int .i64 np) := HK4.out
    have hkk4 : curS[q * 7 + 1 + 4]? = some (.int .i64 nle) := HK5.out
    have hkk5 : curS[q * 7 + 1 + 5]? = some (.int .i64 nre) := HK6.out
    by_cases h9ae : ae = 0
    · subst h9ae
      cases kb with
      | true =>
        have hlb := lrn_b na nlo nhi np nle nre t4 a0 a1
        have RL := Lib.hid (fun W => ilearn_any na nlo nhi np nle nre t4 a0 a1 W)
        have hrr : b.heard q t4 (a0, a1, 0) = b.took q a0 a1 ((lrn na nlo nhi np nle nre t4 a0 a1).e, (lrn na nlo nhi np nle nre t4 a0 a1).ok, kOf (lrn na nlo nhi np nle nre t4 a0 a1)) := by unfold Bn.heard; rw [if_pos rfl]; simp only [Int.toNat_natCast]; rw [HKV.out]; rfl
        obtain ⟨L9, hL9⟩ : ∃ L9, lrn na nlo nhi np nle nre t4 a0 a1 = L9 := ⟨_, rfl⟩
        rw [hL9] at hlb hrr
        replace RL := Lib.hid (fun W => hL9 ▸ RL.out W)
        have HLB := Lib.hid hlb; have HRR := Lib.hid hrr
        clear hlb hrr hL9
        obtain ⟨la, llo, lhi, lp, lle, lre, lok, le9⟩ := L9
        unfold Lrn.V V6 at RL
        dsimp only at RL
        go_upto_region 9 with fail
        obtain ⟨wt, hX9⟩ : ∃ x9 : World, x9 = (v1.alloc (.cells #[.int .i64 na, .int .i64 nlo, .int .i64 nhi, .int .i64 np, .int .i64 nle, .int .i64 nre] 44)) := ⟨_, rfl⟩
        have hqX : Past [] w wt := by rw [hX9]; exact (by (repeat' (first | (with_reducible exact Kv1) | (with_reducible exact Past.refl _ _) | (with_reducible refine Past.drew ?_) | (with_reducible refine Past.drewN ?_ _) | (with_reducible refine Past.allocs ?_ _) | (with_reducible refine' Past.setIn ?_ ?_ _; rotate_left 1; (focus (simp; done))) | (with_reducible refine' Past.far ?_ ?_ _; rotate_left 1; (first | omega | (simp <;> omega))))))
        have bP' : Blk wt (g) 76 #[.bool b.begun, .slice (some ⟨gs, 0, none⟩) b.srcs.length b.srcs.length, .int .i64 b.li, .int .i64 b.p, .int .i64 b.ck.aim, .int .i64 b.ck.rate, .bool b.ck.set, .bool b.ck.held, .int .i64 b.ck.at_, .int .i64 b.ck.shown, pq, v] := by rw [hX9]; exact (by (repeat' (first | (with_reducible exact bP) | (with_reducible refine' Blk.alloc ?_ _) | (with_reducible refine' Blk.drew ?_) | (with_reducible refine' Blk.drewN ?_ _) | (with_reducible refine' Blk.put ?_ ?_) | (with_reducible refine' Blk.far ?_ ?_ _) | exact bP | exact rfl)) <;> (first | omega | (simp <;> omega)))
        have bN' : Blk wt (gm) 3 curN := by rw [hX9]; exact (by (repeat' (first | (with_reducible exact bN) | (with_reducible refine' Blk.alloc ?_ _) | (with_reducible refine' Blk.drew ?_) | (with_reducible refine' Blk.drewN ?_ _) | (with_reducible refine' Blk.put ?_ ?_) | (with_reducible refine' Blk.far ?_ ?_ _) | exact bN | exact rfl)) <;> (first | omega | (simp <;> omega)))
        have bS' : Blk wt (gs) 170 curS := by rw [hX9]; exact (by (repeat' (first | (with_reducible exact bS) | (with_reducible refine' Blk.alloc ?_ _) | (with_reducible refine' Blk.drew ?_) | (with_reducible refine' Blk.drewN ?_ _) | (with_reducible refine' Blk.put ?_ ?_) | (with_reducible refine' Blk.far ?_ ?_ _) | exact bS | exact rfl)) <;> (first | omega | (simp <;> omega)))
        have bA' : Blk wt (gA) 40 #[.int .i64 a0, .int .i64 a1] := by rw [hX9]; exact (by (repeat' (first | (with_reducible exact bA) | (with_reducible refine' Blk.alloc ?_ _) | (with_reducible refine' Blk.drew ?_) | (with_reducible refine' Blk.drewN ?_ _) | (with_reducible refine' Blk.put ?_ ?_) | (with_reducible refine' Blk.far ?_ ?_ _) | exact bA | exact rfl)) <;> (first | omega | (simp <;> omega)))
        have bT' : Blk wt (v1.heap.size) 44 #[.int .i64 na, .int .i64 nlo, .int .i64 nhi, .int .i64 np, .int .i64 nle, .int .i64 nre] := by rw [hX9]; exact Blk.new _ _ _
        have Zwt : v1.heap.size + 1 ≤ wt.heap.size := by rw [hX9]; first | omega | (simp; done) | (simp [setAll_size]; done) | (simp <;> omega)
        rw [← hX9]
        clear hX9 Kv1
        clear bP cP fP lP eP kP; have bP := bP'; clear bP'
        clear bN cN fN lN eN kN; have bN := bN'; clear bN'
        clear bS cS fS lS eS kS; have bS := bS'; clear bS'
        clear bA cA fA lA eA kA; have bA := bA'; clear bA'
        have bT := bT'; clear bT'
        have hqXwt := hqX; clear hqX
        obtain ⟨cP, fP, lP, eP, kP⟩ := Blk.facts bP
        obtain ⟨cN, fN, lN, eN, kN⟩ := Blk.facts bN
        obtain ⟨cS, fS, lS, eS, kS⟩ := Blk.facts bS
        obtain ⟨cA, fA, lA, eA, kA⟩ := Blk.facts bA
        obtain ⟨cT, fT, lT, eT, kT⟩ := Blk.facts bT
        have oT := lT
        refine' wp_region_calmD (by kernel_rfl) (fun D u9 w' => Past (v1.heap.size :: []) wt w' ∧ Blk w' (g) 76 #[.bool b.begun, .slice (some ⟨gs, 0, none⟩) b.srcs.length b.srcs.length, .int .i64 b.li, .int .i64 b.p, .int .i64 b.ck.aim, .int .i64 b.ck.rate, .bool b.ck.set, .bool b.ck.held, .int .i64 b.ck.at_, .int .i64 b.ck.shown, pq, v] ∧ Blk w' (gm) 3 curN ∧ Blk w' (gs) 170 curS ∧ Blk w' (gA) 40 #[.int .i64 a0, .int .i64 a1] ∧ (D 13 = false → Blk w' (v1.heap.size) 44 #[.int .i64 na, .int .i64 nlo, .int .i64 nhi, .int .i64 np, .int .i64 nle, .int .i64 nre]) ∧ (D 13 = true → Blk w' (v1.heap.size) 44 #[.int .i64 la, .int .i64 llo, .int .i64 lhi, .int .i64 lp, .int .i64 lle, .int .i64 lre]) ∧ wt.heap.size ≤ w'.heap.size) (fun _ _ => True) [(Is _), (Is _), (Is _), (Is _), (Is _), (Is _), (Is _), (Is _), (Is _), (Is _), (Is _), (Is _), (Is _), (fun _ _ _ => True), (Is _), (Is _)] [[], [0], [1], [2], [], [4], [5], [], [3, 6, 7], [8], [9], [9], [9], [10], [11], [12]] rfl (calmB_of (by kernel_rfl)) (fun u => by (simp only [calmPut, Act.put, List.setIfInBounds_toArray, List.set_cons_zero, List.set_cons_succ, Nat.zero_add, Nat.reduceAdd]; rfl)) ?_ (calmKeep_cons keep_is' (calmKeep_cons keep_is' (calmKeep_cons keep_is' (calmKeep_cons keep_is' (calmKeep_cons keep_is' (calmKeep_cons keep_is' (calmKeep_cons keep_is' (calmKeep_cons keep_is' (calmKeep_cons keep_is' (calmKeep_cons keep_is' (calmKeep_cons keep_is' (calmKeep_cons keep_is' (calmKeep_cons keep_is' (calmKeep_cons keep_triv (calmKeep_cons keep_is' (calmKeep_cons keep_is' (calmKeep_nil))))))))))))))))) ?_ ?_
        · exact ⟨(by (repeat' (first | (with_reducible exact (Past.refl _ _)) | (with_reducible exact Past.refl _ _) | (with_reducible refine Past.drew ?_) | (with_reducible refine Past.drewN ?_ _) | (with_reducible refine Past.allocs ?_ _) | (with_reducible refine' Past.setIn ?_ ?_ _; rotate_left 1; (focus (simp; done))) | (with_reducible refine' Past.far ?_ ?_ _; rotate_left 1; (first | omega | (simp <;> omega)))))), (by (repeat' (first | (with_reducible exact bP) | (with_reducible refine' Blk.alloc ?_ _) | (with_reducible refine' Blk.drew ?_) | (with_reducible refine' Blk.drewN ?_ _) | (with_reducible refine' Blk.put ?_ ?_) | (with_reducible refine' Blk.far ?_ ?_ _) | exact bP | exact rfl)) <;> (first | omega | (simp <;> omega))), (by (repeat' (first | (with_reducible exact bN) | (with_reducible refine' Blk.alloc ?_ _) | (with_reducible refine' Blk.drew ?_) | (with_reducible refine' Blk.drewN ?_ _) | (with_reducible refine' Blk.put ?_ ?_) | (with_reducible refine' Blk.far ?_ ?_ _) | exact bN | exact rfl)) <;> (first | omega | (simp <;> omega))), (by (repeat' (first | (with_reducible exact bS) | (with_reducible refine' Blk.alloc ?_ _) | (with_reducible refine' Blk.drew ?_) | (with_reducible refine' Blk.drewN ?_ _) | (with_reducible refine' Blk.put ?_ ?_) | (with_reducible refine' Blk.far ?_ ?_ _) | exact bS | exact rfl)) <;> (first | omega | (simp <;> omega))), (by (repeat' (first | (with_reducible exact bA) | (with_reducible refine' Blk.alloc ?_ _) | (with_reducible refine' Blk.drew ?_) | (with_reducible refine' Blk.drewN ?_ _) | (with_reducible refine' Blk.put ?_ ?_) | (with_reducible refine' Blk.far ?_ ?_ _) | exact bA | exact rfl)) <;> (first | omega | (simp <;> omega))), (fun _ => (by (repeat' (first | (with_reducible exact bT) | (with_reducible refine' Blk.alloc ?_ _) | (with_reducible refine' Blk.drew ?_) | (with_reducible refine' Blk.drewN ?_ _) | (with_reducible refine' Blk.put ?_ ?_) | (with_reducible refine' Blk.far ?_ ?_ _) | exact bT | exact rfl)) <;> (first | omega | (simp <;> omega)))), (fun h => by cases h), (by first | exact Nat.le_refl _ | omega | (simp <;> omega))⟩
        rotate_left 15
        · skip
          refine dSteps_cons (fun uu wq D hd hn hn2 hC hk K hK => ?_) ?_
          · obtain ⟨hP, mP, mN, mS, mA, mT, yT, hZ⟩ := hC
            clear hn hn2
            clear hk
            go_simp
            exact hK _ _ _ rfl ⟨hP, mP, mN, mS, mA, mT, yT, hZ⟩ trivial rfl
          refine dSteps_cons (fun uu wq D hd hn hn2 hC hk K hK => ?_) ?_
          · obtain ⟨hP, mP, mN, mS, mA, mT, yT, hZ⟩ := hC
            clear hn hn2
            simp only [calmKnown, List.getElem?_cons_zero, List.getElem?_cons_succ, and_true, Is, Pure, Option.some.injEq, List.getD_cons_zero, List.getD_cons_succ, List.map_cons, List.map_nil] at hk
            have h0 := hk; clear hk
            simp only [h0] at hK ⊢
            have H0 := Lib.hid h0; clear h0
            go_simp
            exact hK _ _ _ rfl ⟨hP, mP, mN, mS, mA, mT, yT, hZ⟩ trivial rfl
          refine dSteps_cons (fun uu wq D hd hn hn2 hC hk K hK => ?_) ?_
          · obtain ⟨hP, mP, mN, mS, mA, mT, yT, hZ⟩ := hC
            clear hn hn2
            simp only [calmKnown, List.getElem?_cons_zero, List.getElem?_cons_succ, and_true, Is, Pure, Option.some.injEq, List.getD_cons_zero, List.getD_cons_succ, List.map_cons, List.map_nil] at hk
            have h1 := hk; clear hk
            simp only [h1] at hK ⊢
            have H1 := Lib.hid h1; clear h1
            go_simp
            exact hK _ _ _ rfl ⟨hP, mP, mN, mS, mA, mT, yT, hZ⟩ trivial rfl
          refine dSteps_cons (fun uu wq D hd hn hn2 hC hk K hK => ?_) ?_
          · obtain ⟨hP, mP, mN, mS, mA, mT, yT, hZ⟩ := hC
            replace hn := Lib.hid hn; replace hn2 := Lib.hid hn2
            simp only [calmKnown, List.getElem?_cons_zero, List.getElem?_cons_succ, and_true, Is, Pure, Option.some.injEq, List.getD_cons_zero, List.getD_cons_succ, List.map_cons, List.map_nil] at hk
            have h2 := hk; clear hk
            simp only [h2] at hK ⊢
            have H2 := Lib.hid h2; clear h2
            have z0 := (mN.cell 0).trans HC0.out
            have z1 := (mN.cell 1).trans HC1.out
            have z2 := (mN.cell 2).trans HC2.out
            have z3 := (mN.cell 3).trans HC3.out
            have z4 := (mN.cell 4).trans HC4.out
            have z5 := (mN.cell 5).trans HC5.out
            have cP := mP.cell; have lP := mP.lt
            have cN := mN.cell; have lN := mN.lt
            have cS := mS.cell; have lS := mS.lt
            have cA := mA.cell; have lA := mA.lt
            have hB := mT (hn.out 13 (by kernel_rfl)); have cT := hB.cell; have lT := hB.lt
            go_simp
            exact hK _ _ _ rfl ⟨hP, mP, mN, mS, mA, mT, yT, hZ⟩ trivial rfl
          refine dSteps_cons (fun uu wq D hd hn hn2 hC hk K hK => ?_) ?_
          · obtain ⟨hP, mP, mN, mS, mA, mT, yT, hZ⟩ := hC
            clear hn hn2
            clear hk
            go_simp
            exact hK _ _ _ rfl ⟨hP, mP, mN, mS, mA, mT, yT, hZ⟩ trivial rfl
          refine dSteps_cons (fun uu wq D hd hn hn2 hC hk K hK => ?_) ?_
          · obtain ⟨hP, mP, mN, mS, mA, mT, yT, hZ⟩ := hC
            clear hn hn2
            simp only [calmKnown, List.getElem?_cons_zero, List.getElem?_cons_succ, and_true, Is, Pure, Option.some.injEq, List.getD_cons_zero, List.getD_cons_succ, List.map_cons, List.map_nil] at hk
            have h4 := hk; clear hk
            simp only [h4] at hK ⊢
            have H4 := Lib.hid h4; clear h4
            go_simp
            exact hK _ _ _ rfl ⟨hP, mP, mN, mS, mA, mT, yT, hZ⟩ trivial rfl
          refine dSteps_cons (fun uu wq D hd hn hn2 hC hk K hK => ?_) ?_
          · obtain ⟨hP, mP, mN, mS, mA, mT, yT, hZ⟩ := hC
            replace hn := Lib.hid hn; replace hn2 := Lib.hid hn2
            simp only [calmKnown, List.getElem?_cons_zero, List.getElem?_cons_succ, and_true, Is, Pure, Option.some.injEq, List.getD_cons_zero, List.getD_cons_succ, List.map_cons, List.map_nil] at hk
            have h5 := hk; clear hk
            simp only [h5] at hK ⊢
            have H5 := Lib.hid h5; clear h5
            have z0 := (mN.cell 0).trans HC0.out
            have z1 := (mN.cell 1).trans HC1.out
            have z2 := (mN.cell 2).trans HC2.out
            have z3 := (mN.cell 3).trans HC3.out
            have z4 := (mN.cell 4).trans HC4.out
            have z5 := (mN.cell 5).trans HC5.out
            have cP := mP.cell; have lP := mP.lt
            have cN := mN.cell; have lN := mN.lt
            have cS := mS.cell; have lS := mS.lt
            have cA := mA.cell; have lA := mA.lt
            have hB := mT (hn.out 13 (by kernel_rfl)); have cT := hB.cell; have lT := hB.lt
            go_simp
            exact hK _ _ _ rfl ⟨hP, mP, mN, mS, mA, mT, yT, hZ⟩ trivial rfl
          refine dSteps_cons (fun uu wq D hd hn hn2 hC hk K hK => ?_) ?_
          · obtain ⟨hP, mP, mN, mS, mA, mT, yT, hZ⟩ := hC
            replace hn := Lib.hid hn; replace hn2 := Lib.hid hn2
            clear hk
            have z0 := (mN.cell 0).trans HC0.out
            have z1 := (mN.cell 1).trans HC1.out
            have z2 := (mN.cell 2).trans HC2.out
            have z3 := (mN.cell 3).trans HC3.out
            have z4 := (mN.cell 4).trans HC4.out
            have z5 := (mN.cell 5).trans HC5.out
            have cP := mP.cell; have lP := mP.lt
            have cN := mN.cell; have lN := mN.lt
            have cS := mS.cell; have lS := mS.lt
            have cA := mA.cell; have lA := mA.lt
            have hB := mT (hn.out 13 (by kernel_rfl)); have cT := hB.cell; have lT := hB.lt
            go_simp
            exact hK _ _ _ rfl ⟨hP, mP, mN, mS, mA, mT, yT, hZ⟩ trivial rfl
          refine dSteps_cons (fun uu wq D hd hn hn2 hC hk K hK => ?_) ?_
          · obtain ⟨hP, mP, mN, mS, mA, mT, yT, hZ⟩ := hC
            clear hn hn2
            simp only [calmKnown, List.getElem?_cons_zero, List.getElem?_cons_succ, and_true, Is, Pure, Option.some.injEq, List.getD_cons_zero, List.getD_cons_succ, List.map_cons, List.map_nil] at hk
            obtain ⟨h3, h6, h7⟩ := hk
            simp only [h3, h6, h7] at hK ⊢
            have H3 := Lib.hid h3; clear h3; have H6 := Lib.hid h6; clear h6; have H7 := Lib.hid h7; clear h7
            go_wp2_with fail
            first | (with_reducible refine (RL.out _).mono ?_)
            rintro e w2 ⟨rfl, hbl⟩
            exact hK _ _ _ rfl ⟨hP.call hbl, Blk.keep hbl mP, Blk.keep hbl mN, Blk.keep hbl mS, Blk.keep hbl mA, (fun h => Blk.keep hbl (mT h)), (fun h => Blk.keep hbl (yT h)), Nat.le_trans hZ hbl.size⟩ trivial rfl
          refine dSteps_cons (fun uu wq D hd hn hn2 hC hk K hK => ?_) ?_
          · obtain ⟨hP, mP, mN, mS, mA, mT, yT, hZ⟩ := hC
            clear hn hn2
            simp only [calmKnown, List.getElem?_cons_zero, List.getElem?_cons_succ, and_true, Is, Pure, Option.some.injEq, List.getD_cons_zero, List.getD_cons_succ, List.map_cons, List.map_nil] at hk
            have h8 := hk; clear hk
            simp only [h8] at hK ⊢
            have H8 := Lib.hid h8; clear h8
            go_simp
            exact hK _ _ _ rfl ⟨hP, mP, mN, mS, mA, mT, yT, hZ⟩ trivial rfl
          refine dSteps_cons (fun uu wq D hd hn hn2 hC hk K hK => ?_) ?_
          · obtain ⟨hP, mP, mN, mS, mA, mT, yT, hZ⟩ := hC
            clear hn hn2
            simp only [calmKnown, List.getElem?_cons_zero, List.getElem?_cons_succ, and_true, Is, Pure, Option.some.injEq, List.getD_cons_zero, List.getD_cons_succ, List.map_cons, List.map_nil] at hk
            have h9 := hk; clear hk
            simp only [h9] at hK ⊢
            have H9 := Lib.hid h9; clear h9
            go_simp
            exact hK _ _ _ rfl ⟨hP, mP, mN, mS, mA, mT, yT, hZ⟩ trivial rfl
          refine dSteps_cons (fun uu wq D hd hn hn2 hC hk K hK => ?_) ?_
          · obtain ⟨hP, mP, mN, mS, mA, mT, yT, hZ⟩ := hC
            clear hn hn2
            simp only [calmKnown, List.getElem?_cons_zero, List.getElem?_cons_succ, and_true, Is, Pure, Option.some.injEq, List.getD_cons_zero, List.getD_cons_succ, List.map_cons, List.map_nil] at hk
            have h9 := hk; clear hk
            simp only [h9] at hK ⊢
            have H9 := Lib.hid h9; clear h9
            go_simp
            exact hK _ _ _ rfl ⟨hP, mP, mN, mS, mA, mT, yT, hZ⟩ trivial rfl
          refine dSteps_cons (fun uu wq D hd hn hn2 hC hk K hK => ?_) ?_
          · obtain ⟨hP, mP, mN, mS, mA, mT, yT, hZ⟩ := hC
            clear hn hn2
            simp only [calmKnown, List.getElem?_cons_zero, List.getElem?_cons_succ, and_true, Is, Pure, Option.some.injEq, List.getD_cons_zero, List.getD_cons_succ, List.map_cons, List.map_nil] at hk
            have h9 := hk; clear hk
            simp only [h9] at hK ⊢
            have H9 := Lib.hid h9; clear h9
            go_simp
            exact hK _ _ _ rfl ⟨hP, mP, mN, mS, mA, mT, yT, hZ⟩ trivial rfl
          refine dSteps_cons (fun uu wq D hd hn hn2 hC hk K hK => ?_) ?_
          · obtain ⟨hP, mP, mN, mS, mA, mT, yT, hZ⟩ := hC
            clear hn hn2
            simp only [calmKnown, List.getElem?_cons_zero, List.getElem?_cons_succ, and_true, Is, Pure, Option.some.injEq, List.getD_cons_zero, List.getD_cons_succ, List.map_cons, List.map_nil] at hk
            have h10 := hk; clear hk
            simp only [h10] at hK ⊢
            have H10 := Lib.hid h10; clear h10
            have hB := mT hd
            have hc9 := hB.cell; have hf9 := hB.frozen; have hl9 := hB.lt
            have hB2 := setAll_blk [.int .i64 la, .int .i64 llo, .int .i64 lhi, .int .i64 lp, .int .i64 lle, .int .i64 lre] 0 wq _ hB
            simp only [setArr, List.setIfInBounds_toArray, List.set_cons_zero, List.set_cons_succ, Nat.zero_add, Nat.reduceAdd] at hB2
            go_simp
            exact hK _ undef (setAll wq (v1.heap.size) 0 [.int .i64 la, .int .i64 llo, .int .i64 lhi, .int .i64 lp, .int .i64 lle, .int .i64 lre]) rfl ⟨(setAll_pastX (by simp) [.int .i64 la, .int .i64 llo, .int .i64 lhi, .int .i64 lp, .int .i64 lle, .int .i64 lre] 0 wq hP), setAll_far (show g ≠ v1.heap.size by first | omega | (simp <;> omega)) [.int .i64 la, .int .i64 llo, .int .i64 lhi, .int .i64 lp, .int .i64 lle, .int .i64 lre] 0 wq mP, setAll_far (show gm ≠ v1.heap.size by first | omega | (simp <;> omega)) [.int .i64 la, .int .i64 llo, .int .i64 lhi, .int .i64 lp, .int .i64 lle, .int .i64 lre] 0 wq mN, setAll_far (show gs ≠ v1.heap.size by first | omega | (simp <;> omega)) [.int .i64 la, .int .i64 llo, .int .i64 lhi, .int .i64 lp, .int .i64 lle, .int .i64 lre] 0 wq mS, setAll_far (show gA ≠ v1.heap.size by first | omega | (simp <;> omega)) [.int .i64 la, .int .i64 llo, .int .i64 lhi, .int .i64 lp, .int .i64 lle, .int .i64 lre] 0 wq mA, (fun h => by cases h), (fun _ => hB2), (by rw [setAll_size]; exact hZ)⟩ trivial trivial
          refine dSteps_cons (fun uu wq D hd hn hn2 hC hk K hK => ?_) ?_
          · obtain ⟨hP, mP, mN, mS, mA, mT, yT, hZ⟩ := hC
            clear hn hn2
            simp only [calmKnown, List.getElem?_cons_zero, List.getElem?_cons_succ, and_true, Is, Pure, Option.some.injEq, List.getD_cons_zero, List.getD_cons_succ, List.map_cons, List.map_nil] at hk
            have h11 := hk; clear hk
            simp only [h11] at hK ⊢
            have H11 := Lib.hid h11; clear h11
            go_simp
            exact hK _ _ _ rfl ⟨hP, mP, mN, mS, mA, mT, yT, hZ⟩ trivial rfl
          refine dSteps_cons (fun uu wq D hd hn hn2 hC hk K hK => ?_) ?_
          · obtain ⟨hP, mP, mN, mS, mA, mT, yT, hZ⟩ := hC
            clear hn hn2
            simp only [calmKnown, List.getElem?_cons_zero, List.getElem?_cons_succ, and_true, Is, Pure, Option.some.injEq, List.getD_cons_zero, List.getD_cons_succ, List.map_cons, List.map_nil] at hk
            have h12 := hk; clear hk
            simp only [h12] at hK ⊢
            have H12 := Lib.hid h12; clear h12
            go_simp
            exact hK _ _ _ rfl ⟨hP, mP, mN, mS, mA, mT, yT, hZ⟩ trivial rfl
          exact dSteps_nil
        · intro uu v2 D hD hC hF
          obtain ⟨hP, mP, mN, mS, mA, mT, yT, hZ⟩ := hC
          simp only [calmFacts, Is, and_true, true_and] at hF
          obtain ⟨f0, f1, f2, f3, f4, f5, f6, f7, f8, f9, f10, f11, f12, f14, f15⟩ := hF
          simp only [f0, f1, f2, f3, f4, f5, f6, f7, f8, f9, f10, f11, f12, f14, f15]
          have bbT := yT (hD 13 (by decide))
          have hq := hP; clear hP
          have Kv2 : Past [] w v2 := Past.transF hqXwt hq (by first | omega | (simp; omega))
          have Zv2 := hZ; clear hZ
          clear hq hqXwt
          clear bP cP fP lP eP kP; have bP := mP
          clear bN cN fN lN eN kN; have bN := mN
          clear bS cS fS lS eS kS; have bS := mS
          clear bA cA fA lA eA kA; have bA := mA
          clear bT cT fT lT eT kT; have bT := bbT
          clear mP mN mS mA mT yT bbT hD
          obtain ⟨cP, fP, lP, eP, kP⟩ := Blk.facts bP
          obtain ⟨cN, fN, lN, eN, kN⟩ := Blk.facts bN
          obtain ⟨cS, fS, lS, eS, kS⟩ := Blk.facts bS
          obtain ⟨cA, fA, lA, eA, kA⟩ := Blk.facts bA
          obtain ⟨cT, fT, lT, eT, kT⟩ := Blk.facts bT
          clear RL
          obtain ⟨gT, hgT⟩ : ∃ gT, v1.heap.size = gT := ⟨_, rfl⟩
          rw [hgT] at bT cT fT lT eT kT oT
          (try simp only [hgT])
          have hTs : gT ≠ gs := Blk.ne bT bS (by decide)
          by_cases h9le9 : le9 = 0
          · subst h9le9
            have hcs7 : q * 7 + 6 < curS.size := by have := HSC.out.1; omega
            have HKS := Lib.hid hcs7; clear hcs7
            cases lok with
            | true =>
              go_wp2_with fail
              refine (told_0 g _).mono ?_
              rintro e9 w6 ⟨rfl, hw6⟩
              rw [hw6]
              clear hw6
              go_upto_region 12 with fail
              refine' wp_region_calm (by kernel_rfl) (fun n _ w' => Past [gs] v2 w' ∧ Blk w' (gT) 44 #[.int .i64 la, .int .i64 llo, .int .i64 lhi, .int .i64 lp, .int .i64 lle, .int .i64 lre] ∧ Blk w' gs 170 (srcSt2 curS q ((true, ⟨la, llo, lhi, lp, lle, lre⟩) : Kw) n)) (fun _ _ => True) [(Is _), (Is _), (Is _), (Is _), (Is _), (fun _ _ _ => True), (Is _), (Is _), (fun _ _ _ => True)] [[], [], [], [0], [3], [4], [1], [6], [7, 2]] [5, 8] [] rfl (calmB_of (by kernel_rfl)) (fun u => by (simp only [calmPut, Act.put, List.setIfInBounds_toArray, List.set_cons_zero, List.set_cons_succ, Nat.zero_add, Nat.reduceAdd]; rfl)) ?_ (calmKeep_cons keep_is' (calmKeep_cons keep_is' (calmKeep_cons keep_is' (calmKeep_cons keep_is' (calmKeep_cons keep_is' (calmKeep_cons keep_triv (calmKeep_cons keep_is' (calmKeep_cons keep_is' (calmKeep_cons keep_triv (calmKeep_nil)))))))))) ?_ ?_
              · intro _
                exact ⟨(show Past [gs] v2 v2 from Past.refl _ _), bT, bS⟩
              rotate_left 7
              · skip
                refine calmSteps_cons (fun u wq n hn hn2 hC hk K hK => ?_) ?_
                · obtain ⟨hP, hT, hS⟩ := hC
                  clear hk
                  go_simp
                  exact hK _ _ _ rfl ⟨hP, hT, hS⟩ trivial rfl
                refine calmSteps_cons (fun u wq n hn hn2 hC hk K hK => ?_) ?_
                · obtain ⟨hP, hT, hS⟩ := hC
                  clear hk
                  go_simp
                  exact hK _ _ _ rfl ⟨hP, hT, hS⟩ trivial rfl
                refine calmSteps_cons (fun u wq n hn hn2 hC hk K hK => ?_) ?_
                · obtain ⟨hP, hT, hS⟩ := hC
                  clear hk
                  have z9 := hT.cell; have l9 := hT.lt
                  go_simp
                  exact hK _ _ _ rfl ⟨hP, hT, hS⟩ trivial rfl
                refine calmSteps_cons (fun u wq n hn hn2 hC hk K hK => ?_) ?_
                · obtain ⟨hP, hT, hS⟩ := hC
                  simp only [calmKnown, List.getElem?_cons_zero, List.getElem?_cons_succ, and_true, Is, Pure, Option.some.injEq, List.getD_cons_zero, List.getD_cons_succ, List.map_cons, List.map_nil] at hk
                  have h0 := hk; clear hk
                  simp only [h0] at hK ⊢
                  have H0 := Lib.hid h0; clear h0
                  go_simp
                  exact hK _ _ _ rfl ⟨hP, hT, hS⟩ trivial rfl
                refine calmSteps_cons (fun u wq n hn hn2 hC hk K hK => ?_) ?_
                · obtain ⟨hP, hT, hS⟩ := hC
                  simp only [calmKnown, List.getElem?_cons_zero, List.getElem?_cons_succ, and_true, Is, Pure, Option.some.injEq, List.getD_cons_zero, List.getD_cons_succ, List.map_cons, List.map_nil] at hk
                  have h3 := hk; clear hk
                  simp only [h3] at hK ⊢
                  have H3 := Lib.hid h3; clear h3
                  go_simp
                  exact hK _ _ _ rfl ⟨hP, hT, hS⟩ trivial rfl
                refine calmSteps_cons (fun u wq n hn hn2 hC hk K hK => ?_) ?_
                · obtain ⟨hP, hT, hS⟩ := hC
                  simp only [calmKnown, List.getElem?_cons_zero, List.getElem?_cons_succ, and_true, Is, Pure, Option.some.injEq, List.getD_cons_zero, List.getD_cons_succ, List.map_cons, List.map_nil] at hk
                  have h4 := hk; clear hk
                  simp only [h4] at hK ⊢
                  have H4 := Lib.hid h4; clear h4
                  obtain rfl := hn 0 rfl
                  have hS0 : Blk wq gs 170 curS := hS
                  have z9 := (hS0.cell (q * 7)).trans HK0.out; have f9 := hS0.frozen; have l9 := hS0.lt
                  have hB2 := setAll_blk [.bool true] (q * 7) wq _ hS0
                  go_simp
                  exact hK _ undef (setAll wq gs (q * 7) [.bool true]) rfl ⟨setAll_pastX (by simp) [.bool true] (q * 7) wq hP, setAll_far (show gT ≠ gs by omega) [.bool true] (q * 7) wq hT, hB2⟩ trivial trivial
                refine calmSteps_cons (fun u wq n hn hn2 hC hk K hK => ?_) ?_
                · obtain ⟨hP, hT, hS⟩ := hC
                  simp only [calmKnown, List.getElem?_cons_zero, List.getElem?_cons_succ, and_true, Is, Pure, Option.some.injEq, List.getD_cons_zero, List.getD_cons_succ, List.map_cons, List.map_nil] at hk
                  have h1 := hk; clear hk
                  simp only [h1] at hK ⊢
                  have H1 := Lib.hid h1; clear h1
                  go_simp
                  exact hK _ _ _ rfl ⟨hP, hT, hS⟩ trivial rfl
                refine calmSteps_cons (fun u wq n hn hn2 hC hk K hK => ?_) ?_
                · obtain ⟨hP, hT, hS⟩ := hC
                  simp only [calmKnown, List.getElem?_cons_zero, List.getElem?_cons_succ, and_true, Is, Pure, Option.some.injEq, List.getD_cons_zero, List.getD_cons_succ, List.map_cons, List.map_nil] at hk
                  have h6 := hk; clear hk
                  simp only [h6] at hK ⊢
                  have H6 := Lib.hid h6; clear h6
                  go_simp
                  exact hK _ _ _ rfl ⟨hP, hT, hS⟩ trivial rfl
                refine calmSteps_cons (fun u wq n hn hn2 hC hk K hK => ?_) ?_
                · obtain ⟨hP, hT, hS⟩ := hC
                  simp only [calmKnown, List.getElem?_cons_zero, List.getElem?_cons_succ, and_true, Is, Pure, Option.some.injEq, List.getD_cons_zero, List.getD_cons_succ, List.map_cons, List.map_nil] at hk
                  obtain ⟨h7, h2⟩ := hk
                  simp only [h7, h2] at hK ⊢
                  have H7 := Lib.hid h7; clear h7; have H2 := Lib.hid h2; clear h2
                  obtain rfl := hn 1 rfl
                  have hS0 : Blk wq gs 170 (setArr curS (q * 7) [.bool true]) := hS
                  have z1 := (hS0.cell (q * 7 + 1)).trans (getE_set HKS.out HK1.out)
                  have z2 := (hS0.cell (q * 7 + 2)).trans (getE_set HKS.out HK2.out)
                  have z3 := (hS0.cell (q * 7 + 3)).trans (getE_set HKS.out HK3.out)
                  have z4 := (hS0.cell (q * 7 + 4)).trans (getE_set HKS.out HK4.out)
                  have z5 := (hS0.cell (q * 7 + 5)).trans (getE_set HKS.out HK5.out)
                  have z6 := (hS0.cell (q * 7 + 6)).trans (getE_set HKS.out HK6.out)
                  have zz1 : wq.cell? ⟨gs, q * 7 + 1 + 1, none⟩ = some (.int .i64 nlo) := (hS0.cell (q * 7 + 1 + 1)).trans (getE_set HKS.out HK2.out)
                  have zz2 : wq.cell? ⟨gs, q * 7 + 1 + 2, none⟩ = some (.int .i64 nhi) := (hS0.cell (q * 7 + 1 + 2)).trans (getE_set HKS.out HK3.out)
                  have zz3 : wq.cell? ⟨gs, q * 7 + 1 + 3, none⟩ = some (.int .i64 np) := (hS0.cell (q * 7 + 1 + 3)).trans (getE_set HKS.out HK4.out)
                  have zz4 : wq.cell? ⟨gs, q * 7 + 1 + 4, none⟩ = some (.int .i64 nle) := (hS0.cell (q * 7 + 1 + 4)).trans (getE_set HKS.out HK5.out)
                  have zz5 : wq.cell? ⟨gs, q * 7 + 1 + 5, none⟩ = some (.int .i64 nre) := (hS0.cell (q * 7 + 1 + 5)).trans (getE_set HKS.out HK6.out)
                  have f9 := hS0.frozen; have l9 := hS0.lt
                  have hB2 := setAll_blk [.int .i64 la, .int .i64 llo, .int .i64 lhi, .int .i64 lp, .int .i64 lle, .int .i64 lre] (q * 7 + 1) wq _ hS0
                  go_simp
                  have hset : setAll wq gs (q * 7 + 1) [.int .i64 la, .int .i64 llo, .int .i64 lhi, .int .i64 lp, .int .i64 lle, .int .i64 lre] = ((((((wq.setCell ⟨gs, q * 7 + 1, none⟩ (.int .i64 la)).setCell ⟨gs, q * 7 + 1 + 1, none⟩ (.int .i64 llo)).setCell ⟨gs, q * 7 + 1 + 2, none⟩ (.int .i64 lhi)).setCell ⟨gs, q * 7 + 1 + 3, none⟩ (.int .i64 lp)).setCell ⟨gs, q * 7 + 1 + 4, none⟩ (.int .i64 lle)).setCell ⟨gs, q * 7 + 1 + 5, none⟩ (.int .i64 lre)) := by simp only [setAll, Nat.add_assoc, Nat.reduceAdd]
                  have h1 := setAll_pastX (X := [gs]) (g := gs) (by simp) [.int .i64 la, .int .i64 llo, .int .i64 lhi, .int .i64 lp, .int .i64 lle, .int .i64 lre] (q * 7 + 1) wq hP
                  have h2 := setAll_far (show gT ≠ gs by omega) [.int .i64 la, .int .i64 llo, .int .i64 lhi, .int .i64 lp, .int .i64 lle, .int .i64 lre] (q * 7 + 1) wq hT
                  rw [hset, ← setArr_cons] at hB2
                  rw [hset] at h1 h2
                  clear hset
                  exact hK _ undef ((((((wq.setCell ⟨gs, q * 7 + 1, none⟩ (.int .i64 la)).setCell ⟨gs, q * 7 + 1 + 1, none⟩ (.int .i64 llo)).setCell ⟨gs, q * 7 + 1 + 2, none⟩ (.int .i64 lhi)).setCell ⟨gs, q * 7 + 1 + 3, none⟩ (.int .i64 lp)).setCell ⟨gs, q * 7 + 1 + 4, none⟩ (.int .i64 lle)).setCell ⟨gs, q * 7 + 1 + 5, none⟩ (.int .i64 lre)) rfl ⟨h1, h2, hB2⟩ trivial trivial
                exact calmSteps_nil
              · intro u wz hC hF
                obtain ⟨hP, hT, hS⟩ := hC
                clear hF
                have hst := BnAt.source (q := q) ((true, ⟨la, llo, lhi, lp, lle, lre⟩) : Kw) hB bP rfl hgs bS HSC.out hql HE3.out ((HE4.out.pastT (Ts := []) (PastT.below (Past.toBelow Kv2)) (by simp))) hP hS
                have bA8 := hP.blk bA (by simp <;> omega)
                have bN8 := hP.blk bN (by simp <;> omega)
                have HST := Lib.hid hst; have HA8 := Lib.hid bA8; have HN8 := Lib.hid bN8; have P8 := Lib.hid ((HPW.out.below (Past.toBelow Kv2)).pastT hst.2); have HKK := Lib.hid (Past.toBelow Kv2)
                clear hP hT hS hst bA8 bN8
                go_upto_region 16 with fail
                refine' wp_region_calm (by kernel_rfl) (fun n _ w' => (n = 0 → Below wz.heap.size wz w') ∧ (n = 1 → BnAt B w' g (Bn.say { b with srcs := b.srcs.set q ((true, ⟨la, llo, lhi, lp, lle, lre⟩) : Kw) } wLearnt [(q : Int), a0, a1]) ∧ PastT B [5, 76] wz w')) (PastT B [5, 76]) [(Is _), (Is _), (Is _), (Is _), (Is _), (Is _), (Is _), (Is _), (Is _), (SliceB [] wz.heap.size 3 3 #[.int .i64 (q : Int), .int .i64 a0, .int .i64 a1]), (fun _ _ _ => True)] [[], [], [], [2], [3], [], [5], [], [7], [4, 6, 8], [0, 1, 9]] [10] [] rfl (calmB_of (by kernel_rfl)) (fun u => by (simp only [calmPut, Act.put, List.setIfInBounds_toArray, List.set_cons_zero, List.set_cons_succ, Nat.zero_add, Nat.reduceAdd]; rfl)) ?_ (calmKeep_cons keep_is' (calmKeep_cons keep_is' (calmKeep_cons keep_is' (calmKeep_cons keep_is' (calmKeep_cons keep_is' (calmKeep_cons keep_is' (calmKeep_cons keep_is' (calmKeep_cons keep_is' (calmKeep_cons keep_is' (calmKeep_cons (keep_slicePT (by decide)) (calmKeep_cons keep_triv (calmKeep_nil)))))))))))) ?_ ?_
                · intro _
                  exact ⟨fun _ => (Below.refl _ _).drew, fun h => by cases h⟩
                rotate_left 9
                · skip
                  refine calmSteps_cons (fun u wq n hn hn2 hC hk K hK => ?_) ?_
                  · obtain ⟨hR0, hR1⟩ := hC
                    clear hk
                    go_simp
                    exact hK _ _ _ rfl ⟨hR0, hR1⟩ (PastT.refl _ _ _) rfl
                  refine calmSteps_cons (fun u wq n hn hn2 hC hk K hK => ?_) ?_
                  · obtain ⟨hR0, hR1⟩ := hC
                    clear hk
                    go_simp
                    exact hK _ _ _ rfl ⟨hR0, hR1⟩ (PastT.refl _ _ _) rfl
                  refine calmSteps_cons (fun u wq n hn hn2 hC hk K hK => ?_) ?_
                  · obtain ⟨hR0, hR1⟩ := hC
                    clear hk
                    go_simp
                    exact hK _ _ _ rfl ⟨hR0, hR1⟩ (PastT.refl _ _ _) rfl
                  refine calmSteps_cons (fun u wq n hn hn2 hC hk K hK => ?_) ?_
                  · obtain ⟨hR0, hR1⟩ := hC
                    simp only [calmKnown, List.getElem?_cons_zero, List.getElem?_cons_succ, and_true, Is, Pure, Option.some.injEq, List.getD_cons_zero, List.getD_cons_succ, List.map_cons, List.map_nil] at hk
                    have h2 := hk; clear hk
                    simp only [h2] at hK ⊢
                    have H2 := Lib.hid h2; clear h2
                    go_simp
                    exact hK _ _ _ rfl ⟨hR0, hR1⟩ (PastT.refl _ _ _) rfl
                  refine calmSteps_cons (fun u wq n hn hn2 hC hk K hK => ?_) ?_
                  · obtain ⟨hR0, hR1⟩ := hC
                    simp only [calmKnown, List.getElem?_cons_zero, List.getElem?_cons_succ, and_true, Is, Pure, Option.some.injEq, List.getD_cons_zero, List.getD_cons_succ, List.map_cons, List.map_nil] at hk
                    have h3 := hk; clear hk
                    simp only [h3] at hK ⊢
                    have H3 := Lib.hid h3; clear h3
                    have hn0 : n = 0 := Nat.le_zero.1 (hn2 0 10 rfl (by kernel_rfl))
                    subst hn0
                    have hQ := hR0 rfl
                    have bx := Blk.keep hQ HN8.out; have z9 := (bx.cell 0).trans HC0.out; have l9 := bx.lt
                    go_simp
                    exact hK _ _ _ rfl ⟨hR0, hR1⟩ (PastT.refl _ _ _) rfl
                  refine calmSteps_cons (fun u wq n hn hn2 hC hk K hK => ?_) ?_
                  · obtain ⟨hR0, hR1⟩ := hC
                    clear hk
                    go_simp
                    exact hK _ _ _ rfl ⟨hR0, hR1⟩ (PastT.refl _ _ _) rfl
                  refine calmSteps_cons (fun u wq n hn hn2 hC hk K hK => ?_) ?_
                  · obtain ⟨hR0, hR1⟩ := hC
                    simp only [calmKnown, List.getElem?_cons_zero, List.getElem?_cons_succ, and_true, Is, Pure, Option.some.injEq, List.getD_cons_zero, List.getD_cons_succ, List.map_cons, List.map_nil] at hk
                    have h5 := hk; clear hk
                    simp only [h5] at hK ⊢
                    have H5 := Lib.hid h5; clear h5
                    have hn0 : n = 0 := Nat.le_zero.1 (hn2 0 10 rfl (by kernel_rfl))
                    subst hn0
                    have hQ := hR0 rfl
                    have bx := Blk.keep hQ HA8.out; have z9 := bx.cell; have l9 := bx.lt
                    go_simp
                    exact hK _ _ _ rfl ⟨hR0, hR1⟩ (PastT.refl _ _ _) rfl
                  refine calmSteps_cons (fun u wq n hn hn2 hC hk K hK => ?_) ?_
                  · obtain ⟨hR0, hR1⟩ := hC
                    clear hk
                    go_simp
                    exact hK _ _ _ rfl ⟨hR0, hR1⟩ (PastT.refl _ _ _) rfl
                  refine calmSteps_cons (fun u wq n hn hn2 hC hk K hK => ?_) ?_
                  · obtain ⟨hR0, hR1⟩ := hC
                    simp only [calmKnown, List.getElem?_cons_zero, List.getElem?_cons_succ, and_true, Is, Pure, Option.some.injEq, List.getD_cons_zero, List.getD_cons_succ, List.map_cons, List.map_nil] at hk
                    have h7 := hk; clear hk
                    simp only [h7] at hK ⊢
                    have H7 := Lib.hid h7; clear h7
                    have hn0 : n = 0 := Nat.le_zero.1 (hn2 0 10 rfl (by kernel_rfl))
                    subst hn0
                    have hQ := hR0 rfl
                    have bx := Blk.keep hQ HA8.out; have z9 := bx.cell; have l9 := bx.lt
                    go_simp
                    exact hK _ _ _ rfl ⟨hR0, hR1⟩ (PastT.refl _ _ _) rfl
                  refine calmSteps_cons (fun u wq n hn hn2 hC hk K hK => ?_) ?_
                  · obtain ⟨hR0, hR1⟩ := hC
                    simp only [calmKnown, List.getElem?_cons_zero, List.getElem?_cons_succ, and_true, Is, Pure, Option.some.injEq, List.getD_cons_zero, List.getD_cons_succ, List.map_cons, List.map_nil] at hk
                    obtain ⟨h4, h6, h8⟩ := hk
                    simp only [h4, h6, h8] at hK ⊢
                    have H4 := Lib.hid h4; clear h4; have H6 := Lib.hid h6; clear h6; have H8 := Lib.hid h8; clear h8
                    have hn0 : n = 0 := Nat.le_zero.1 (hn2 0 10 rfl (by kernel_rfl))
                    subst hn0
                    have hQ := hR0 rfl
                    go_simp
                    exact hK _ _ _ rfl ⟨fun _ => hQ.alloc hQ.size _, fun h => by cases h⟩ (PastT.below (below_new _ _)) ⟨_, rfl, by simp, hQ.size, Blk.new _ _ _⟩
                  refine calmSteps_cons (fun u wq n hn hn2 hC hk K hK => ?_) ?_
                  · obtain ⟨hR0, hR1⟩ := hC
                    simp only [calmKnown, List.getElem?_cons_zero, List.getElem?_cons_succ, and_true, Is, Pure, Option.some.injEq, List.getD_cons_zero, List.getD_cons_succ, List.map_cons, List.map_nil] at hk
                    obtain ⟨h0, h1, ⟨g9, h9, -, hl9, hb9⟩⟩ := hk
                    simp only [h0, h1, h9] at hK ⊢
                    have H0 := Lib.hid h0; clear h0; have H1 := Lib.hid h1; clear h1; have H9 := Lib.hid h9; clear h9
                    obtain rfl := hn 0 rfl
                    have hQ := hR0 rfl
                    have hnr : NumsR wq (some ⟨g9, 0, none⟩) 3 [(q : Int), a0, a1] := NumsR.of (zs := [(q : Int), a0, a1]) hb9
                    have HNR := Lib.hid hnr; have HB9 := Lib.hid hb9
                    clear hnr hb9
                    go_wp2_with fail
                    refine (say_any B g _ ⟨#[108, 101, 97, 114, 110, 116]⟩ _ 3 3 [(q : Int), a0, a1] _ (HST.out.1.below hQ) HNR.out (fun n hn => by simp at hn; rcases hn with rfl | rfl | rfl; exact HS0.out; exact HA0.out; exact HA1.out) (P8.out.below hQ) (by show b.out.length + 6 + 22 * 3 + 1 ≤ _; omega)).mono ?_
                    rintro e w2 ⟨rfl, h2, hT2⟩
                    exact hK _ _ _ rfl ⟨(fun h => by cases h), fun _ => ⟨h2, (PastT.below hQ).trans hT2⟩⟩ hT2 trivial
                  exact calmSteps_nil
                · intro u wy hC hF
                  obtain ⟨h10, hT10⟩ := hC.2 rfl
                  clear hF hC
                  go_wp2
                  go_ret
                  rw [HRR.out, show b.took (q : Int) a0 a1 (0, true, kOf ⟨la, llo, lhi, lp, lle, lre, true, 0⟩) = (Bn.say { b with srcs := b.srcs.set q ((true, ⟨la, llo, lhi, lp, lle, lre⟩) : Kw) } wLearnt [(q : Int), a0, a1], 0) from by unfold Bn.took; rw [if_pos rfl]; rfl]
                  exact ⟨rfl, h10, (PastT.below HKK.out).trans ((HST.out.2.mono (fun t ht => by simp at ht; subst ht; simp)).trans hT10.three)⟩
            | false =>
              go_wp2_with fail
              refine (told_0 g _).mono ?_
              rintro e9 w6 ⟨rfl, hw6⟩
              rw [hw6]
              clear hw6
              go_upto_region 12 with fail
              refine' wp_region_calm (by kernel_rfl) (fun n _ w' => Past [gs] v2 w' ∧ Blk w' (gT) 44 #[.int .i64 la, .int .i64 llo, .int .i64 lhi, .int .i64 lp, .int .i64 lle, .int .i64 lre] ∧ Blk w' gs 170 (srcSt2 curS q ((true, ⟨la, llo, lhi, lp, lle, lre⟩) : Kw) n)) (fun _ _ => True) [(Is _), (Is _), (Is _), (Is _), (Is _), (fun _ _ _ => True), (Is _), (Is _), (fun _ _ _ => True)] [[], [], [], [0], [3], [4], [1], [6], [7, 2]] [5, 8] [] rfl (calmB_of (by kernel_rfl)) (fun u => by (simp only [calmPut, Act.put, List.setIfInBounds_toArray, List.set_cons_zero, List.set_cons_succ, Nat.zero_add, Nat.reduceAdd]; rfl)) ?_ (calmKeep_cons keep_is' (calmKeep_cons keep_is' (calmKeep_cons keep_is' (calmKeep_cons keep_is' (calmKeep_cons keep_is' (calmKeep_cons keep_triv (calmKeep_cons keep_is' (calmKeep_cons keep_is' (calmKeep_cons keep_triv (calmKeep_nil)))))))))) ?_ ?_
              · intro _
                exact ⟨(show Past [gs] v2 v2 from Past.refl _ _), bT, bS⟩
              rotate_left 7
              · skip
                refine calmSteps_cons (fun u wq n hn hn2 hC hk K hK => ?_) ?_
                · obtain ⟨hP, hT, hS⟩ := hC
                  clear hk
                  go_simp
                  exact hK _ _ _ rfl ⟨hP, hT, hS⟩ trivial rfl
                refine calmSteps_cons (fun u wq n hn hn2 hC hk K hK => ?_) ?_
                · obtain ⟨hP, hT, hS⟩ := hC
                  clear hk
                  go_simp
                  exact hK _ _ _ rfl ⟨hP, hT, hS⟩ trivial rfl
                refine calmSteps_cons (fun u wq n hn hn2 hC hk K hK => ?_) ?_
                · obtain ⟨hP, hT, hS⟩ := hC
                  clear hk
                  have z9 := hT.cell; have l9 := hT.lt
                  go_simp
                  exact hK _ _ _ rfl ⟨hP, hT, hS⟩ trivial rfl
                refine calmSteps_cons (fun u wq n hn hn2 hC hk K hK => ?_) ?_
                · obtain ⟨hP, hT, hS⟩ := hC
                  simp only [calmKnown, List.getElem?_cons_zero, List.getElem?_cons_succ, and_true, Is, Pure, Option.some.injEq, List.getD_cons_zero, List.getD_cons_succ, List.map_cons, List.map_nil] at hk
                  have h0 := hk; clear hk
                  simp only [h0] at hK ⊢
                  have H0 := Lib.hid h0; clear h0
                  go_simp
                  exact hK _ _ _ rfl ⟨hP, hT, hS⟩ trivial rfl
                refine calmSteps_cons (fun u wq n hn hn2 hC hk K hK => ?_) ?_
                · obtain ⟨hP, hT, hS⟩ := hC
                  simp only [calmKnown, List.getElem?_cons_zero, List.getElem?_cons_succ, and_true, Is, Pure, Option.some.injEq, List.getD_cons_zero, List.getD_cons_succ, List.map_cons, List.map_nil] at hk
                  have h3 := hk; clear hk
                  simp only [h3] at hK ⊢
                  have H3 := Lib.hid h3; clear h3
                  go_simp
                  exact hK _ _ _ rfl ⟨hP, hT, hS⟩ trivial rfl
                refine calmSteps_cons (fun u wq n hn hn2 hC hk K hK => ?_) ?_
                · obtain ⟨hP, hT, hS⟩ := hC
                  simp only [calmKnown, List.getElem?_cons_zero, List.getElem?_cons_succ, and_true, Is, Pure, Option.some.injEq, List.getD_cons_zero, List.getD_cons_succ, List.map_cons, List.map_nil] at hk
                  have h4 := hk; clear hk
                  simp only [h4] at hK ⊢
                  have H4 := Lib.hid h4; clear h4
                  obtain rfl := hn 0 rfl
                  have hS0 : Blk wq gs 170 curS := hS
                  have z9 := (hS0.cell (q * 7)).trans HK0.out; have f9 := hS0.frozen; have l9 := hS0.lt
                  have hB2 := setAll_blk [.bool true] (q * 7) wq _ hS0
                  go_simp
                  exact hK _ undef (setAll wq gs (q * 7) [.bool true]) rfl ⟨setAll_pastX (by simp) [.bool true] (q * 7) wq hP, setAll_far (show gT ≠ gs by omega) [.bool true] (q * 7) wq hT, hB2⟩ trivial trivial
                refine calmSteps_cons (fun u wq n hn hn2 hC hk K hK => ?_) ?_
                · obtain ⟨hP, hT, hS⟩ := hC
                  simp only [calmKnown, List.getElem?_cons_zero, List.getElem?_cons_succ, and_true, Is, Pure, Option.some.injEq, List.getD_cons_zero, List.getD_cons_succ, List.map_cons, List.map_nil] at hk
                  have h1 := hk; clear hk
                  simp only [h1] at hK ⊢
                  have H1 := Lib.hid h1; clear h1
                  go_simp
                  exact hK _ _ _ rfl ⟨hP, hT, hS⟩ trivial rfl
                refine calmSteps_cons (fun u wq n hn hn2 hC hk K hK => ?_) ?_
                · obtain ⟨hP, hT, hS⟩ := hC
                  simp only [calmKnown, List.getElem?_cons_zero, List.getElem?_cons_succ, and_true, Is, Pure, Option.some.injEq, List.getD_cons_zero, List.getD_cons_succ, List.map_cons, List.map_nil] at hk
                  have h6 := hk; clear hk
                  simp only [h6] at hK ⊢
                  have H6 := Lib.hid h6; clear h6
                  go_simp
                  exact hK _ _ _ rfl ⟨hP, hT, hS⟩ trivial rfl
                refine calmSteps_cons (fun u wq n hn hn2 hC hk K hK => ?_) ?_
                · obtain ⟨hP, hT, hS⟩ := hC
                  simp only [calmKnown, List.getElem?_cons_zero, List.getElem?_cons_succ, and_true, Is, Pure, Option.some.injEq, List.getD_cons_zero, List.getD_cons_succ, List.map_cons, List.map_nil] at hk
                  obtain ⟨h7, h2⟩ := hk
                  simp only [h7, h2] at hK ⊢
                  have H7 := Lib.hid h7; clear h7; have H2 := Lib.hid h2; clear h2
                  obtain rfl := hn 1 rfl
                  have hS0 : Blk wq gs 170 (setArr curS (q * 7) [.bool true]) := hS
                  have z1 := (hS0.cell (q * 7 + 1)).trans (getE_set HKS.out HK1.out)
                  have z2 := (hS0.cell (q * 7 + 2)).trans (getE_set HKS.out HK2.out)
                  have z3 := (hS0.cell (q * 7 + 3)).trans (getE_set HKS.out HK3.out)
                  have z4 := (hS0.cell (q * 7 + 4)).trans (getE_set HKS.out HK4.out)
                  have z5 := (hS0.cell (q * 7 + 5)).trans (getE_set HKS.out HK5.out)
                  have z6 := (hS0.cell (q * 7 + 6)).trans (getE_set HKS.out HK6.out)
                  have zz1 : wq.cell? ⟨gs, q * 7 + 1 + 1, none⟩ = some (.int .i64 nlo) := (hS0.cell (q * 7 + 1 + 1)).trans (getE_set HKS.out HK2.out)
                  have zz2 : wq.cell? ⟨gs, q * 7 + 1 + 2, none⟩ = some (.int .i64 nhi) := (hS0.cell (q * 7 + 1 + 2)).trans (getE_set HKS.out HK3.out)
                  have zz3 : wq.cell? ⟨gs, q * 7 + 1 + 3, none⟩ = some (.int .i64 np) := (hS0.cell (q * 7 + 1 + 3)).trans (getE_set HKS.out HK4.out)
                  have zz4 : wq.cell? ⟨gs, q * 7 + 1 + 4, none⟩ = some (.int .i64 nle) := (hS0.cell (q * 7 + 1 + 4)).trans (getE_set HKS.out HK5.out)
                  have zz5 : wq.cell? ⟨gs, q * 7 + 1 + 5, none⟩ = some (.int .i64 nre) := (hS0.cell (q * 7 + 1 + 5)).trans (getE_set HKS.out HK6.out)
                  have f9 := hS0.frozen; have l9 := hS0.lt
                  have hB2 := setAll_blk [.int .i64 la, .int .i64 llo, .int .i64 lhi, .int .i64 lp, .int .i64 lle, .int .i64 lre] (q * 7 + 1) wq _ hS0
                  go_simp
                  have hset : setAll wq gs (q * 7 + 1) [.int .i64 la, .int .i64 llo, .int .i64 lhi, .int .i64 lp, .int .i64 lle, .int .i64 lre] = ((((((wq.setCell ⟨gs, q * 7 + 1, none⟩ (.int .i64 la)).setCell ⟨gs, q * 7 + 1 + 1, none⟩ (.int .i64 llo)).setCell ⟨gs, q * 7 + 1 + 2, none⟩ (.int .i64 lhi)).setCell ⟨gs, q * 7 + 1 + 3, none⟩ (.int .i64 lp)).setCell ⟨gs, q * 7 + 1 + 4, none⟩ (.int .i64 lle)).setCell ⟨gs, q * 7 + 1 + 5, none⟩ (.int .i64 lre)) := by simp only [setAll, Nat.add_assoc, Nat.reduceAdd]
                  have h1 := setAll_pastX (X := [gs]) (g := gs) (by simp) [.int .i64 la, .int .i64 llo, .int .i64 lhi, .int .i64 lp, .int .i64 lle, .int .i64 lre] (q * 7 + 1) wq hP
                  have h2 := setAll_far (show gT ≠ gs by omega) [.int .i64 la, .int .i64 llo, .int .i64 lhi, .int .i64 lp, .int .i64 lle, .int .i64 lre] (q * 7 + 1) wq hT
                  rw [hset, ← setArr_cons] at hB2
                  rw [hset] at h1 h2
                  clear hset
                  exact hK _ undef ((((((wq.setCell ⟨gs, q * 7 + 1, none⟩ (.int .i64 la)).setCell ⟨gs, q * 7 + 1 + 1, none⟩ (.int .i64 llo)).setCell ⟨gs, q * 7 + 1 + 2, none⟩ (.int .i64 lhi)).setCell ⟨gs, q * 7 + 1 + 3, none⟩ (.int .i64 lp)).setCell ⟨gs, q * 7 + 1 + 4, none⟩ (.int .i64 lle)).setCell ⟨gs, q * 7 + 1 + 5, none⟩ (.int .i64 lre)) rfl ⟨h1, h2, hB2⟩ trivial trivial
                exact calmSteps_nil
              · intro u wz hC hF
                obtain ⟨hP, hT, hS⟩ := hC
                clear hF
                have hst := BnAt.source (q := q) ((true, ⟨la, llo, lhi, lp, lle, lre⟩) : Kw) hB bP rfl hgs bS HSC.out hql HE3.out ((HE4.out.pastT (Ts := []) (PastT.below (Past.toBelow Kv2)) (by simp))) hP hS
                have bA8 := hP.blk bA (by simp <;> omega)
                have bN8 := hP.blk bN (by simp <;> omega)
                have HST := Lib.hid hst; have HA8 := Lib.hid bA8; have HN8 := Lib.hid bN8; have P8 := Lib.hid ((HPW.out.below (Past.toBelow Kv2)).pastT hst.2); have HKK := Lib.hid (Past.toBelow Kv2)
                clear hP hT hS hst bA8 bN8
                go_upto_region 16 with fail
                refine' wp_region_calm (by kernel_rfl) (fun n _ w' => (n = 0 → Below wz.heap.size wz w') ∧ (n = 1 → BnAt B w' g (Bn.say { b with srcs := b.srcs.set q ((true, ⟨la, llo, lhi, lp, lle, lre⟩) : Kw) } wRefused [(q : Int), a0, a1]) ∧ PastT B [5, 76] wz w')) (PastT B [5, 76]) [(Is _), (Is _), (Is _), (Is _), (Is _), (Is _), (Is _), (Is _), (Is _), (SliceB [] wz.heap.size 3 3 #[.int .i64 (q : Int), .int .i64 a0, .int .i64 a1]), (fun _ _ _ => True)] [[], [], [], [2], [3], [], [5], [], [7], [4, 6, 8], [0, 1, 9]] [10] [] rfl (calmB_of (by kernel_rfl)) (fun u => by (simp only [calmPut, Act.put, List.setIfInBounds_toArray, List.set_cons_zero, List.set_cons_succ, Nat.zero_add, Nat.reduceAdd]; rfl)) ?_ (calmKeep_cons keep_is' (calmKeep_cons keep_is' (calmKeep_cons keep_is' (calmKeep_cons keep_is' (calmKeep_cons keep_is' (calmKeep_cons keep_is' (calmKeep_cons keep_is' (calmKeep_cons keep_is' (calmKeep_cons keep_is' (calmKeep_cons (keep_slicePT (by decide)) (calmKeep_cons keep_triv (calmKeep_nil)))))))))))) ?_ ?_
                · intro _
                  exact ⟨fun _ => (Below.refl _ _).drew, fun h => by cases h⟩
                rotate_left 9
                · skip
                  refine calmSteps_cons (fun u wq n hn hn2 hC hk K hK => ?_) ?_
                  · obtain ⟨hR0, hR1⟩ := hC
                    clear hk
                    go_simp
                    exact hK _ _ _ rfl ⟨hR0, hR1⟩ (PastT.refl _ _ _) rfl
                  refine calmSteps_cons (fun u wq n hn hn2 hC hk K hK => ?_) ?_
                  · obtain ⟨hR0, hR1⟩ := hC
                    clear hk
                    go_simp
                    exact hK _ _ _ rfl ⟨hR0, hR1⟩ (PastT.refl _ _ _) rfl
                  refine calmSteps_cons (fun u wq n hn hn2 hC hk K hK => ?_) ?_
                  · obtain ⟨hR0, hR1⟩ := hC
                    clear hk
                    go_simp
                    exact hK _ _ _ rfl ⟨hR0, hR1⟩ (PastT.refl _ _ _) rfl
                  refine calmSteps_cons (fun u wq n hn hn2 hC hk K hK => ?_) ?_
                  · obtain ⟨hR0, hR1⟩ := hC
                    simp only [calmKnown, List.getElem?_cons_zero, List.getElem?_cons_succ, and_true, Is, Pure, Option.some.injEq, List.getD_cons_zero, List.getD_cons_succ, List.map_cons, List.map_nil] at hk
                    have h2 := hk; clear hk
                    simp only [h2] at hK ⊢
                    have H2 := Lib.hid h2; clear h2
                    go_simp
                    exact hK _ _ _ rfl ⟨hR0, hR1⟩ (PastT.refl _ _ _) rfl
                  refine calmSteps_cons (fun u wq n hn hn2 hC hk K hK => ?_) ?_
                  · obtain ⟨hR0, hR1⟩ := hC
                    simp only [calmKnown, List.getElem?_cons_zero, List.getElem?_cons_succ, and_true, Is, Pure, Option.some.injEq, List.getD_cons_zero, List.getD_cons_succ, List.map_cons, List.map_nil] at hk
                    have h3 := hk; clear hk
                    simp only [h3] at hK ⊢
                    have H3 := Lib.hid h3; clear h3
                    have hn0 : n = 0 := Nat.le_zero.1 (hn2 0 10 rfl (by kernel_rfl))
                    subst hn0
                    have hQ := hR0 rfl
                    have bx := Blk.keep hQ HN8.out; have z9 := (bx.cell 0).trans HC0.out; have l9 := bx.lt
                    go_simp
                    exact hK _ _ _ rfl ⟨hR0, hR1⟩ (PastT.refl _ _ _) rfl
                  refine calmSteps_cons (fun u wq n hn hn2 hC hk K hK => ?_) ?_
                  · obtain ⟨hR0, hR1⟩ := hC
                    clear hk
                    go_simp
                    exact hK _ _ _ rfl ⟨hR0, hR1⟩ (PastT.refl _ _ _) rfl
                  refine calmSteps_cons (fun u wq n hn hn2 hC hk K hK => ?_) ?_
                  · obtain ⟨hR0, hR1⟩ := hC
                    simp only [calmKnown, List.getElem?_cons_zero, List.getElem?_cons_succ, and_true, Is, Pure, Option.some.injEq, List.getD_cons_zero, List.getD_cons_succ, List.map_cons, List.map_nil] at hk
                    have h5 := hk; clear hk
                    simp only [h5] at hK ⊢
                    have H5 := Lib.hid h5; clear h5
                    have hn0 : n = 0 := Nat.le_zero.1 (hn2 0 10 rfl (by kernel_rfl))
                    subst hn0
                    have hQ := hR0 rfl
                    have bx := Blk.keep hQ HA8.out; have z9 := bx.cell; have l9 := bx.lt
                    go_simp
                    exact hK _ _ _ rfl ⟨hR0, hR1⟩ (PastT.refl _ _ _) rfl
                  refine calmSteps_cons (fun u wq n hn hn2 hC hk K hK => ?_) ?_
                  · obtain ⟨hR0, hR1⟩ := hC
                    clear hk
                    go_simp
                    exact hK _ _ _ rfl ⟨hR0, hR1⟩ (PastT.refl _ _ _) rfl
                  refine calmSteps_cons (fun u wq n hn hn2 hC hk K hK => ?_) ?_
                  · obtain ⟨hR0, hR1⟩ := hC
                    simp only [calmKnown, List.getElem?_cons_zero, List.getElem?_cons_succ, and_true, Is, Pure, Option.some.injEq, List.getD_cons_zero, List.getD_cons_succ, List.map_cons, List.map_nil] at hk
                    have h7 := hk; clear hk
                    simp only [h7] at hK ⊢
                    have H7 := Lib.hid h7; clear h7
                    have hn0 : n = 0 := Nat.le_zero.1 (hn2 0 10 rfl (by kernel_rfl))
                    subst hn0
                    have hQ := hR0 rfl
                    have bx := Blk.keep hQ HA8.out; have z9 := bx.cell; have l9 := bx.lt
                    go_simp
                    exact hK _ _ _ rfl ⟨hR0, hR1⟩ (PastT.refl _ _ _) rfl
                  refine calmSteps_cons (fun u wq n hn hn2 hC hk K hK => ?_) ?_
                  · obtain ⟨hR0, hR1⟩ := hC
                    simp only [calmKnown, List.getElem?_cons_zero, List.getElem?_cons_succ, and_true, Is, Pure, Option.some.injEq, List.getD_cons_zero, List.getD_cons_succ, List.map_cons, List.map_nil] at hk
                    obtain ⟨h4, h6, h8⟩ := hk
                    simp only [h4, h6, h8] at hK ⊢
                    have H4 := Lib.hid h4; clear h4; have H6 := Lib.hid h6; clear h6; have H8 := Lib.hid h8; clear h8
                    have hn0 : n = 0 := Nat.le_zero.1 (hn2 0 10 rfl (by kernel_rfl))
                    subst hn0
                    have hQ := hR0 rfl
                    go_simp
                    exact hK _ _ _ rfl ⟨fun _ => hQ.alloc hQ.size _, fun h => by cases h⟩ (PastT.below (below_new _ _)) ⟨_, rfl, by simp, hQ.size, Blk.new _ _ _⟩
                  refine calmSteps_cons (fun u wq n hn hn2 hC hk K hK => ?_) ?_
                  · obtain ⟨hR0, hR1⟩ := hC
                    simp only [calmKnown, List.getElem?_cons_zero, List.getElem?_cons_succ, and_true, Is, Pure, Option.some.injEq, List.getD_cons_zero, List.getD_cons_succ, List.map_cons, List.map_nil] at hk
                    obtain ⟨h0, h1, ⟨g9, h9, -, hl9, hb9⟩⟩ := hk
                    simp only [h0, h1, h9] at hK ⊢
                    have H0 := Lib.hid h0; clear h0; have H1 := Lib.hid h1; clear h1; have H9 := Lib.hid h9; clear h9
                    obtain rfl := hn 0 rfl
                    have hQ := hR0 rfl
                    have hnr : NumsR wq (some ⟨g9, 0, none⟩) 3 [(q : Int), a0, a1] := NumsR.of (zs := [(q : Int), a0, a1]) hb9
                    have HNR := Lib.hid hnr; have HB9 := Lib.hid hb9
                    clear hnr hb9
                    go_wp2_with fail
                    refine (say_any B g _ ⟨#[114, 101, 102, 117, 115, 101, 100]⟩ _ 3 3 [(q : Int), a0, a1] _ (HST.out.1.below hQ) HNR.out (fun n hn => by simp at hn; rcases hn with rfl | rfl | rfl; exact HS0.out; exact HA0.out; exact HA1.out) (P8.out.below hQ) (by show b.out.length + 7 + 22 * 3 + 1 ≤ _; omega)).mono ?_
                    rintro e w2 ⟨rfl, h2, hT2⟩
                    exact hK _ _ _ rfl ⟨(fun h => by cases h), fun _ => ⟨h2, (PastT.below hQ).trans hT2⟩⟩ hT2 trivial
                  exact calmSteps_nil
                · intro u wy hC hF
                  obtain ⟨h10, hT10⟩ := hC.2 rfl
                  clear hF hC
                  go_wp2
                  go_ret
                  rw [HRR.out, show b.took (q : Int) a0 a1 (0, false, kOf ⟨la, llo, lhi, lp, lle, lre, false, 0⟩) = (Bn.say { b with srcs := b.srcs.set q ((true, ⟨la, llo, lhi, lp, lle, lre⟩) : Kw) } wRefused [(q : Int), a0, a1], 0) from by unfold Bn.took; rw [if_pos rfl]; rfl]
                  exact ⟨rfl, h10, (PastT.below HKK.out).trans ((HST.out.2.mono (fun t ht => by simp at ht; subst ht; simp)).trans hT10.three)⟩
          · skip
            have g1 : (le9 == 0) = false := by simpa using h9le9
            have g2 : decide (le9 = 0) = false := by simpa using h9le9
            have g3 : (le9 != 0) = true := by simpa using h9le9
            go_wp2_with fail
            refine (told_e B g b le9 _ ((HH.out.below (Past.toBelow Kv2)).below (by (repeat' (first | (with_reducible exact Below.refl _ _) | (with_reducible refine Below.setCell ?_ ?_ _) | (with_reducible refine Below.alloc ?_ ?_ _) | (with_reducible refine Below.drew ?_) | (with_reducible refine below_drewN ?_ _))) <;> (first | omega | (simp <;> omega)))) h9le9 HLB.out.small ((HPW.out.below (Past.toBelow Kv2)).below (by (repeat' (first | (with_reducible exact Below.refl _ _) | (with_reducible refine Below.setCell ?_ ?_ _) | (with_reducible refine Below.alloc ?_ ?_ _) | (with_reducible refine Below.drew ?_) | (with_reducible refine below_drewN ?_ _))) <;> (first | omega | (simp <;> omega)))) hl).mono ?_
            rintro e9 w6 ⟨rfl, h6, hT6⟩
            go_wp2
            go_ret
            rw [HRR.out, show b.took (q : Int) a0 a1 (le9, lok, kOf ⟨la, llo, lhi, lp, lle, lre, lok, le9⟩) = b.tell le9 from if_neg h9le9]
            exact ⟨rfl, h6, ((PastT.below (kept_call (show Below v2.heap.size v2 _ from (by (repeat' (first | (with_reducible exact Below.refl _ _) | (with_reducible refine Below.setCell ?_ ?_ _) | (with_reducible refine Below.alloc ?_ ?_ _) | (with_reducible refine Below.drew ?_) | (with_reducible refine below_drewN ?_ _))) <;> (first | omega | (simp <;> omega)))) (Past.toBelow Kv2))).trans hT6).three⟩
      | false =>
        have hkb := kE_b t4 a0 a1 b.p 0 0
        have RB9 := Lib.hid (fun W => begK_V t4 a0 a1 b.p ▸ ibegin_any t4 a0 a1 b.p W)
        have hrr : b.heard q t4 (a0, a1, 0) = b.took q a0 a1 (kE t4 a0 a1 b.p 0 0, true, begK t4 a0 a1 b.p) := by unfold Bn.heard; rw [if_pos rfl]; simp only [Int.toNat_natCast]; rw [HKV.out]; rfl
        obtain ⟨k9, hk9⟩ : ∃ k9, begK t4 a0 a1 b.p = k9 := ⟨_, rfl⟩
        obtain ⟨le9, hle9⟩ : ∃ le9, kE t4 a0 a1 b.p 0 0 = le9 := ⟨_, rfl⟩
        rw [hle9] at hkb hrr
        rw [hk9] at hrr
        replace RB9 := Lib.hid (fun W => hle9 ▸ hk9 ▸ RB9.out W)
        have HLB := Lib.hid hkb; have HRR := Lib.hid hrr
        clear hkb hrr hk9 hle9
        obtain ⟨la, llo, lhi, lp, lle, lre⟩ := k9
        simp only [K6.cs] at RB9
        go_upto_region 6 with fail
        obtain ⟨wt, hX9⟩ : ∃ x9 : World, x9 = (v1.alloc (.cells #[.int .i64 na, .int .i64 nlo, .int .i64 nhi, .int .i64 np, .int .i64 nle, .int .i64 nre] 44)) := ⟨_, rfl⟩
        have hqX : Past [] w wt := by rw [hX9]; exact (by (repeat' (first | (with_reducible exact Kv1) | (with_reducible exact Past.refl _ _) | (with_reducible refine Past.drew ?_) | (with_reducible refine Past.drewN ?_ _) | (with_reducible refine Past.allocs ?_ _) | (with_reducible refine' Past.setIn ?_ ?_ _; rotate_left 1; (focus (simp; done))) | (with_reducible refine' Past.far ?_ ?_ _; rotate_left 1; (first | omega | (simp <;> omega))))))
        have bP' : Blk wt (g) 76 #[.bool b.begun, .slice (some ⟨gs, 0, none⟩) b.srcs.length b.srcs.length, .int .i64 b.li, .int .i64 b.p, .int .i64 b.ck.aim, .int .i64 b.ck.rate, .bool b.ck.set, .bool b.ck.held, .int .i64 b.ck.at_, .int .i64 b.ck.shown, pq, v] := by rw [hX9]; exact (by (repeat' (first | (with_reducible exact bP) | (with_reducible refine' Blk.alloc ?_ _) | (with_reducible refine' Blk.drew ?_) | (with_reducible refine' Blk.drewN ?_ _) | (with_reducible refine' Blk.put ?_ ?_) | (with_reducible refine' Blk.far ?_ ?_ _) | exact bP | exact rfl)) <;> (first | omega | (simp <;> omega)))
        have bN' : Blk wt (gm) 3 curN := by rw [hX9]; exact (by (repeat' (first | (with_reducible exact bN) | (with_reducible refine' Blk.alloc ?_ _) | (with_reducible refine' Blk.drew ?_) | (with_reducible refine' Blk.drewN ?_ _) | (with_reducible refine' Blk.put ?_ ?_) | (with_reducible refine' Blk.far ?_ ?_ _) | exact bN | exact rfl)) <;> (first | omega | (simp <;> omega)))
        have bS' : Blk wt (gs) 170 curS := by rw [hX9]; exact (by (repeat' (first | (with_reducible exact bS) | (with_reducible refine' Blk.alloc ?_ _) | (with_reducible refine' Blk.drew ?_) | (with_reducible refine' Blk.drewN ?_ _) | (with_reducible refine' Blk.put ?_ ?_) | (with_reducible refine' Blk.far ?_ ?_ _) | exact bS | exact rfl)) <;> (first | omega | (simp <;> omega)))
        have bA' : Blk wt (gA) 40 #[.int .i64 a0, .int .i64 a1] := by rw [hX9]; exact (by (repeat' (first | (with_reducible exact bA) | (with_reducible refine' Blk.alloc ?_ _) | (with_reducible refine' Blk.drew ?_) | (with_reducible refine' Blk.drewN ?_ _) | (with_reducible refine' Blk.put ?_ ?_) | (with_reducible refine' Blk.far ?_ ?_ _) | exact bA | exact rfl)) <;> (first | omega | (simp <;> omega)))
        have bT' : Blk wt (v1.heap.size) 44 #[.int .i64 na, .int .i64 nlo, .int .i64 nhi, .int .i64 np, .int .i64 nle, .int .i64 nre] := by rw [hX9]; exact Blk.new _ _ _
        have Zwt : v1.heap.size + 1 ≤ wt.heap.size := by rw [hX9]; first | omega | (simp; done) | (simp [setAll_size]; done) | (simp <;> omega)
        rw [← hX9]
        clear hX9 Kv1
        clear bP cP fP lP eP kP; have bP := bP'; clear bP'
        clear bN cN fN lN eN kN; have bN := bN'; clear bN'
        clear bS cS fS lS eS kS; have bS := bS'; clear bS'
        clear bA cA fA lA eA kA; have bA := bA'; clear bA'
        have bT := bT'; clear bT'
        have hqXwt := hqX; clear hqX
        obtain ⟨cP, fP, lP, eP, kP⟩ := Blk.facts bP
        obtain ⟨cN, fN, lN, eN, kN⟩ := Blk.facts bN
        obtain ⟨cS, fS, lS, eS, kS⟩ := Blk.facts bS
        obtain ⟨cA, fA, lA, eA, kA⟩ := Blk.facts bA
        obtain ⟨cT, fT, lT, eT, kT⟩ := Blk.facts bT
        have oT := lT
        refine' wp_region_calmD (by kernel_rfl) (fun D u9 w' => Past (v1.heap.size :: []) wt w' ∧ Blk w' (g) 76 #[.bool b.begun, .slice (some ⟨gs, 0, none⟩) b.srcs.length b.srcs.length, .int .i64 b.li, .int .i64 b.p, .int .i64 b.ck.aim, .int .i64 b.ck.rate, .bool b.ck.set, .bool b.ck.held, .int .i64 b.ck.at_, .int .i64 b.ck.shown, pq, v] ∧ Blk w' (gm) 3 curN ∧ Blk w' (gs) 170 curS ∧ Blk w' (gA) 40 #[.int .i64 a0, .int .i64 a1] ∧ (D 12 = false → Blk w' (v1.heap.size) 44 #[.int .i64 na, .int .i64 nlo, .int .i64 nhi, .int .i64 np, .int .i64 nle, .int .i64 nre]) ∧ (D 12 = true → Blk w' (v1.heap.size) 44 #[.int .i64 la, .int .i64 llo, .int .i64 lhi, .int .i64 lp, .int .i64 lle, .int .i64 lre]) ∧ wt.heap.size ≤ w'.heap.size) (fun _ _ => True) [(Is _), (Is _), (Is _), (Is _), (Is _), (Is _), (Is _), (Is _), (Is _), (Is _), (Is _), (Is _), (fun _ _ _ => True), (Is _)] [[], [0], [1], [], [], [4], [5], [6], [2, 3, 7], [8], [9], [9], [10], [11]] rfl (calmB_of (by kernel_rfl)) (fun u => by (simp only [calmPut, Act.put, List.setIfInBounds_toArray, List.set_cons_zero, List.set_cons_succ, Nat.zero_add, Nat.reduceAdd]; rfl)) ?_ (calmKeep_cons keep_is' (calmKeep_cons keep_is' (calmKeep_cons keep_is' (calmKeep_cons keep_is' (calmKeep_cons keep_is' (calmKeep_cons keep_is' (calmKeep_cons keep_is' (calmKeep_cons keep_is' (calmKeep_cons keep_is' (calmKeep_cons keep_is' (calmKeep_cons keep_is' (calmKeep_cons keep_is' (calmKeep_cons keep_triv (calmKeep_cons keep_is' (calmKeep_nil))))))))))))))) ?_ ?_
        · exact ⟨(by (repeat' (first | (with_reducible exact (Past.refl _ _)) | (with_reducible exact Past.refl _ _) | (with_reducible refine Past.drew ?_) | (with_reducible refine Past.drewN ?_ _) | (with_reducible refine Past.allocs ?_ _) | (with_reducible refine' Past.setIn ?_ ?_ _; rotate_left 1; (focus (simp; done))) | (with_reducible refine' Past.far ?_ ?_ _; rotate_left 1; (first | omega | (simp <;> omega)))))), (by (repeat' (first | (with_reducible exact bP) | (with_reducible refine' Blk.alloc ?_ _) | (with_reducible refine' Blk.drew ?_) | (with_reducible refine' Blk.drewN ?_ _) | (with_reducible refine' Blk.put ?_ ?_) | (with_reducible refine' Blk.far ?_ ?_ _) | exact bP | exact rfl)) <;> (first | omega | (simp <;> omega))), (by (repeat' (first | (with_reducible exact bN) | (with_reducible refine' Blk.alloc ?_ _) | (with_reducible refine' Blk.drew ?_) | (with_reducible refine' Blk.drewN ?_ _) | (with_reducible refine' Blk.put ?_ ?_) | (with_reducible refine' Blk.far ?_ ?_ _) | exact bN | exact rfl)) <;> (first | omega | (simp <;> omega))), (by (repeat' (first | (with_reducible exact bS) | (with_reducible refine' Blk.alloc ?_ _) | (with_reducible refine' Blk.drew ?_) | (with_reducible refine' Blk.drewN ?_ _) | (with_reducible refine' Blk.put ?_ ?_) | (with_reducible refine' Blk.far ?_ ?_ _) | exact bS | exact rfl)) <;> (first | omega | (simp <;> omega))), (by (repeat' (first | (with_reducible exact bA) | (with_reducible refine' Blk.alloc ?_ _) | (with_reducible refine' Blk.drew ?_) | (with_reducible refine' Blk.drewN ?_ _) | (with_reducible refine' Blk.put ?_ ?_) | (with_reducible refine' Blk.far ?_ ?_ _) | exact bA | exact rfl)) <;> (first | omega | (simp <;> omega))), (fun _ => (by (repeat' (first | (with_reducible exact bT) | (with_reducible refine' Blk.alloc ?_ _) | (with_reducible refine' Blk.drew ?_) | (with_reducible refine' Blk.drewN ?_ _) | (with_reducible refine' Blk.put ?_ ?_) | (with_reducible refine' Blk.far ?_ ?_ _) | exact bT | exact rfl)) <;> (first | omega | (simp <;> omega)))), (fun h => by cases h), (by first | exact Nat.le_refl _ | omega | (simp <;> omega))⟩
        rotate_left 13
        · skip
          refine dSteps_cons (fun uu wq D hd hn hn2 hC hk K hK => ?_) ?_
          · obtain ⟨hP, mP, mN, mS, mA, mT, yT, hZ⟩ := hC
            clear hn hn2
            clear hk
            go_simp
            exact hK _ _ _ rfl ⟨hP, mP, mN, mS, mA, mT, yT, hZ⟩ trivial rfl
          refine dSteps_cons (fun uu wq D hd hn hn2 hC hk K hK => ?_) ?_
          · obtain ⟨hP, mP, mN, mS, mA, mT, yT, hZ⟩ := hC
            clear hn hn2
            simp only [calmKnown, List.getElem?_cons_zero, List.getElem?_cons_succ, and_true, Is, Pure, Option.some.injEq, List.getD_cons_zero, List.getD_cons_succ, List.map_cons, List.map_nil] at hk
            have h0 := hk; clear hk
            simp only [h0] at hK ⊢
            have H0 := Lib.hid h0; clear h0
            go_simp
            exact hK _ _ _ rfl ⟨hP, mP, mN, mS, mA, mT, yT, hZ⟩ trivial rfl
          refine dSteps_cons (fun uu wq D hd hn hn2 hC hk K hK => ?_) ?_
          · obtain ⟨hP, mP, mN, mS, mA, mT, yT, hZ⟩ := hC
            replace hn := Lib.hid hn; replace hn2 := Lib.hid hn2
            simp only [calmKnown, List.getElem?_cons_zero, List.getElem?_cons_succ, and_true, Is, Pure, Option.some.injEq, List.getD_cons_zero, List.getD_cons_succ, List.map_cons, List.map_nil] at hk
            have h1 := hk; clear hk
            simp only [h1] at hK ⊢
            have H1 := Lib.hid h1; clear h1
            have z0 := (mN.cell 0).trans HC0.out
            have z1 := (mN.cell 1).trans HC1.out
            have z2 := (mN.cell 2).trans HC2.out
            have z3 := (mN.cell 3).trans HC3.out
            have z4 := (mN.cell 4).trans HC4.out
            have z5 := (mN.cell 5).trans HC5.out
            have cP := mP.cell; have lP := mP.lt
            have cN := mN.cell; have lN := mN.lt
            have cS := mS.cell; have lS := mS.lt
            have cA := mA.cell; have lA := mA.lt
            have hB := mT (hn.out 12 (by kernel_rfl)); have cT := hB.cell; have lT := hB.lt
            go_simp
            exact hK _ _ _ rfl ⟨hP, mP, mN, mS, mA, mT, yT, hZ⟩ trivial rfl
          refine dSteps_cons (fun uu wq D hd hn hn2 hC hk K hK => ?_) ?_
          · obtain ⟨hP, mP, mN, mS, mA, mT, yT, hZ⟩ := hC
            replace hn := Lib.hid hn; replace hn2 := Lib.hid hn2
            clear hk
            have z0 := (mN.cell 0).trans HC0.out
            have z1 := (mN.cell 1).trans HC1.out
            have z2 := (mN.cell 2).trans HC2.out
            have z3 := (mN.cell 3).trans HC3.out
            have z4 := (mN.cell 4).trans HC4.out
            have z5 := (mN.cell 5).trans HC5.out
            have cP := mP.cell; have lP := mP.lt
            have cN := mN.cell; have lN := mN.lt
            have cS := mS.cell; have lS := mS.lt
            have cA := mA.cell; have lA := mA.lt
            have hB := mT (hn.out 12 (by kernel_rfl)); have cT := hB.cell; have lT := hB.lt
            go_simp
            exact hK _ _ _ rfl ⟨hP, mP, mN, mS, mA, mT, yT, hZ⟩ trivial rfl
          refine dSteps_cons (fun uu wq D hd hn hn2 hC hk K hK => ?_) ?_
          · obtain ⟨hP, mP, mN, mS, mA, mT, yT, hZ⟩ := hC
            clear hn hn2
            clear hk
            go_simp
            exact hK _ _ _ rfl ⟨hP, mP, mN, mS, mA, mT, yT, hZ⟩ trivial rfl
          refine dSteps_cons (fun uu wq D hd hn hn2 hC hk K hK => ?_) ?_
          · obtain ⟨hP, mP, mN, mS, mA, mT, yT, hZ⟩ := hC
            clear hn hn2
            simp only [calmKnown, List.getElem?_cons_zero, List.getElem?_cons_succ, and_true, Is, Pure, Option.some.injEq, List.getD_cons_zero, List.getD_cons_succ, List.map_cons, List.map_nil] at hk
            have h4 := hk; clear hk
            simp only [h4] at hK ⊢
            have H4 := Lib.hid h4; clear h4
            go_simp
            exact hK _ _ _ rfl ⟨hP, mP, mN, mS, mA, mT, yT, hZ⟩ trivial rfl
          refine dSteps_cons (fun uu wq D hd hn hn2 hC hk K hK => ?_) ?_
          · obtain ⟨hP, mP, mN, mS, mA, mT, yT, hZ⟩ := hC
            clear hn hn2
            simp only [calmKnown, List.getElem?_cons_zero, List.getElem?_cons_succ, and_true, Is, Pure, Option.some.injEq, List.getD_cons_zero, List.getD_cons_succ, List.map_cons, List.map_nil] at hk
            have h5 := hk; clear hk
            simp only [h5] at hK ⊢
            have H5 := Lib.hid h5; clear h5
            go_simp
            exact hK _ _ _ rfl ⟨hP, mP, mN, mS, mA, mT, yT, hZ⟩ trivial rfl
          refine dSteps_cons (fun uu wq D hd hn hn2 hC hk K hK => ?_) ?_
          · obtain ⟨hP, mP, mN, mS, mA, mT, yT, hZ⟩ := hC
            replace hn := Lib.hid hn; replace hn2 := Lib.hid hn2
            simp only [calmKnown, List.getElem?_cons_zero, List.getElem?_cons_succ, and_true, Is, Pure, Option.some.injEq, List.getD_cons_zero, List.getD_cons_succ, List.map_cons, List.map_nil] at hk
            have h6 := hk; clear hk
            simp only [h6] at hK ⊢
            have H6 := Lib.hid h6; clear h6
            have z0 := (mN.cell 0).trans HC0.out
            have z1 := (mN.cell 1).trans HC1.out
            have z2 := (mN.cell 2).trans HC2.out
            have z3 := (mN.cell 3).trans HC3.out
            have z4 := (mN.cell 4).trans HC4.out
            have z5 := (mN.cell 5).trans HC5.out
            have cP := mP.cell; have lP := mP.lt
            have cN := mN.cell; have lN := mN.lt
            have cS := mS.cell; have lS := mS.lt
            have cA := mA.cell; have lA := mA.lt
            have hB := mT (hn.out 12 (by kernel_rfl)); have cT := hB.cell; have lT := hB.lt
            go_simp
            exact hK _ _ _ rfl ⟨hP, mP, mN, mS, mA, mT, yT, hZ⟩ trivial rfl
          refine dSteps_cons (fun uu wq D hd hn hn2 hC hk K hK => ?_) ?_
          · obtain ⟨hP, mP, mN, mS, mA, mT, yT, hZ⟩ := hC
            clear hn hn2
            simp only [calmKnown, List.getElem?_cons_zero, List.getElem?_cons_succ, and_true, Is, Pure, Option.some.injEq, List.getD_cons_zero, List.getD_cons_succ, List.map_cons, List.map_nil] at hk
            obtain ⟨h2, h3, h7⟩ := hk
            simp only [h2, h3, h7] at hK ⊢
            have H2 := Lib.hid h2; clear h2; have H3 := Lib.hid h3; clear h3; have H7 := Lib.hid h7; clear h7
            go_wp2_with fail
            first | (with_reducible refine (RB9.out _).mono ?_)
            rintro e w2 ⟨rfl, hbl⟩
            exact hK _ _ _ rfl ⟨hP.call hbl, Blk.keep hbl mP, Blk.keep hbl mN, Blk.keep hbl mS, Blk.keep hbl mA, (fun h => Blk.keep hbl (mT h)), (fun h => Blk.keep hbl (yT h)), Nat.le_trans hZ hbl.size⟩ trivial rfl
          refine dSteps_cons (fun uu wq D hd hn hn2 hC hk K hK => ?_) ?_
          · obtain ⟨hP, mP, mN, mS, mA, mT, yT, hZ⟩ := hC
            clear hn hn2
            simp only [calmKnown, List.getElem?_cons_zero, List.getElem?_cons_succ, and_true, Is, Pure, Option.some.injEq, List.getD_cons_zero, List.getD_cons_succ, List.map_cons, List.map_nil] at hk
            have h8 := hk; clear hk
            simp only [h8] at hK ⊢
            have H8 := Lib.hid h8; clear h8
            go_simp
            exact hK _ _ _ rfl ⟨hP, mP, mN, mS, mA, mT, yT, hZ⟩ trivial rfl
          refine dSteps_cons (fun uu wq D hd hn hn2 hC hk K hK => ?_) ?_
          · obtain ⟨hP, mP, mN, mS, mA, mT, yT, hZ⟩ := hC
            clear hn hn2
            simp only [calmKnown, List.getElem?_cons_zero, List.getElem?_cons_succ, and_true, Is, Pure, Option.some.injEq, List.getD_cons_zero, List.getD_cons_succ, List.map_cons, List.map_nil] at hk
            have h9 := hk; clear hk
            simp only [h9] at hK ⊢
            have H9 := Lib.hid h9; clear h9
            go_simp
            exact hK _ _ _ rfl ⟨hP, mP, mN, mS, mA, mT, yT, hZ⟩ trivial rfl
          refine dSteps_cons (fun uu wq D hd hn hn2 hC hk K hK => ?_) ?_
          · obtain ⟨hP, mP, mN, mS, mA, mT, yT, hZ⟩ := hC
            clear hn hn2
            simp only [calmKnown, List.getElem?_cons_zero, List.getElem?_cons_succ, and_true, Is, Pure, Option.some.injEq, List.getD_cons_zero, List.getD_cons_succ, List.map_cons, List.map_nil] at hk
            have h9 := hk; clear hk
            simp only [h9] at hK ⊢
            have H9 := Lib.hid h9; clear h9
            go_simp
            exact hK _ _ _ rfl ⟨hP, mP, mN, mS, mA, mT, yT, hZ⟩ trivial rfl
          refine dSteps_cons (fun uu wq D hd hn hn2 hC hk K hK => ?_) ?_
          · obtain ⟨hP, mP, mN, mS, mA, mT, yT, hZ⟩ := hC
            clear hn hn2
            simp only [calmKnown, List.getElem?_cons_zero, List.getElem?_cons_succ, and_true, Is, Pure, Option.some.injEq, List.getD_cons_zero, List.getD_cons_succ, List.map_cons, List.map_nil] at hk
            have h10 := hk; clear hk
            simp only [h10] at hK ⊢
            have H10 := Lib.hid h10; clear h10
            have hB := mT hd
            have hc9 := hB.cell; have hf9 := hB.frozen; have hl9 := hB.lt
            have hB2 := setAll_blk [.int .i64 la, .int .i64 llo, .int .i64 lhi, .int .i64 lp, .int .i64 lle, .int .i64 lre] 0 wq _ hB
            simp only [setArr, List.setIfInBounds_toArray, List.set_cons_zero, List.set_cons_succ, Nat.zero_add, Nat.reduceAdd] at hB2
            go_simp
            exact hK _ undef (setAll wq (v1.heap.size) 0 [.int .i64 la, .int .i64 llo, .int .i64 lhi, .int .i64 lp, .int .i64 lle, .int .i64 lre]) rfl ⟨(setAll_pastX (by simp) [.int .i64 la, .int .i64 llo, .int .i64 lhi, .int .i64 lp, .int .i64 lle, .int .i64 lre] 0 wq hP), setAll_far (show g ≠ v1.heap.size by first | omega | (simp <;> omega)) [.int .i64 la, .int .i64 llo, .int .i64 lhi, .int .i64 lp, .int .i64 lle, .int .i64 lre] 0 wq mP, setAll_far (show gm ≠ v1.heap.size by first | omega | (simp <;> omega)) [.int .i64 la, .int .i64 llo, .int .i64 lhi, .int .i64 lp, .int .i64 lle, .int .i64 lre] 0 wq mN, setAll_far (show gs ≠ v1.heap.size by first | omega | (simp <;> omega)) [.int .i64 la, .int .i64 llo, .int .i64 lhi, .int .i64 lp, .int .i64 lle, .int .i64 lre] 0 wq mS, setAll_far (show gA ≠ v1.heap.size by first | omega | (simp <;> omega)) [.int .i64 la, .int .i64 llo, .int .i64 lhi, .int .i64 lp, .int .i64 lle, .int .i64 lre] 0 wq mA, (fun h => by cases h), (fun _ => hB2), (by rw [setAll_size]; exact hZ)⟩ trivial trivial
          refine dSteps_cons (fun uu wq D hd hn hn2 hC hk K hK => ?_) ?_
          · obtain ⟨hP, mP, mN, mS, mA, mT, yT, hZ⟩ := hC
            clear hn hn2
            simp only [calmKnown, List.getElem?_cons_zero, List.getElem?_cons_succ, and_true, Is, Pure, Option.some.injEq, List.getD_cons_zero, List.getD_cons_succ, List.map_cons, List.map_nil] at hk
            have h11 := hk; clear hk
            simp only [h11] at hK ⊢
            have H11 := Lib.hid h11; clear h11
            go_simp
            exact hK _ _ _ rfl ⟨hP, mP, mN, mS, mA, mT, yT, hZ⟩ trivial rfl
          exact dSteps_nil
        · intro uu v2 D hD hC hF
          obtain ⟨hP, mP, mN, mS, mA, mT, yT, hZ⟩ := hC
          simp only [calmFacts, Is, and_true, true_and] at hF
          obtain ⟨f0, f1, f2, f3, f4, f5, f6, f7, f8, f9, f10, f11, f13⟩ := hF
          simp only [f0, f1, f2, f3, f4, f5, f6, f7, f8, f9, f10, f11, f13]
          have bbT := yT (hD 12 (by decide))
          have hq := hP; clear hP
          have Kv2 : Past [] w v2 := Past.transF hqXwt hq (by first | omega | (simp; omega))
          have Zv2 := hZ; clear hZ
          clear hq hqXwt
          clear bP cP fP lP eP kP; have bP := mP
          clear bN cN fN lN eN kN; have bN := mN
          clear bS cS fS lS eS kS; have bS := mS
          clear bA cA fA lA eA kA; have bA := mA
          clear bT cT fT lT eT kT; have bT := bbT
          clear mP mN mS mA mT yT bbT hD
          obtain ⟨cP, fP, lP, eP, kP⟩ := Blk.facts bP
          obtain ⟨cN, fN, lN, eN, kN⟩ := Blk.facts bN
          obtain ⟨cS, fS, lS, eS, kS⟩ := Blk.facts bS
          obtain ⟨cA, fA, lA, eA, kA⟩ := Blk.facts bA
          obtain ⟨cT, fT, lT, eT, kT⟩ := Blk.facts bT
          clear RB9
          obtain ⟨gT, hgT⟩ : ∃ gT, v1.heap.size = gT := ⟨_, rfl⟩
          rw [hgT] at bT cT fT lT eT kT oT
          (try simp only [hgT])
          have hTs : gT ≠ gs := Blk.ne bT bS (by decide)
          by_cases h9le9 : le9 = 0
          · subst h9le9
            have hcs7 : q * 7 + 6 < curS.size := by have := HSC.out.1; omega
            have HKS := Lib.hid hcs7; clear hcs7
            go_wp2_with fail
            refine (told_0 g _).mono ?_
            rintro e9 w6 ⟨rfl, hw6⟩
            rw [hw6]
            clear hw6
            go_upto_region 12 with fail
            refine' wp_region_calm (by kernel_rfl) (fun n _ w' => Past [gs] v2 w' ∧ Blk w' (gT) 44 #[.int .i64 la, .int .i64 llo, .int .i64 lhi, .int .i64 lp, .int .i64 lle, .int .i64 lre] ∧ Blk w' gs 170 (srcSt2 curS q ((true, ⟨la, llo, lhi, lp, lle, lre⟩) : Kw) n)) (fun _ _ => True) [(Is _), (Is _), (Is _), (Is _), (Is _), (fun _ _ _ => True), (Is _), (Is _), (fun _ _ _ => True)] [[], [], [], [0], [3], [4], [1], [6], [7, 2]] [5, 8] [] rfl (calmB_of (by kernel_rfl)) (fun u => by (simp only [calmPut, Act.put, List.setIfInBounds_toArray, List.set_cons_zero, List.set_cons_succ, Nat.zero_add, Nat.reduceAdd]; rfl)) ?_ (calmKeep_cons keep_is' (calmKeep_cons keep_is' (calmKeep_cons keep_is' (calmKeep_cons keep_is' (calmKeep_cons keep_is' (calmKeep_cons keep_triv (calmKeep_cons keep_is' (calmKeep_cons keep_is' (calmKeep_cons keep_triv (calmKeep_nil)))))))))) ?_ ?_
            · intro _
              exact ⟨(show Past [gs] v2 v2 from Past.refl _ _), bT, bS⟩
            rotate_left 7
            · skip
              refine calmSteps_cons (fun u wq n hn hn2 hC hk K hK => ?_) ?_
              · obtain ⟨hP, hT, hS⟩ := hC
                clear hk
                go_simp
                exact hK _ _ _ rfl ⟨hP, hT, hS⟩ trivial rfl
              refine calmSteps_cons (fun u wq n hn hn2 hC hk K hK => ?_) ?_
              · obtain ⟨hP, hT, hS⟩ := hC
                clear hk
                go_simp
                exact hK _ _ _ rfl ⟨hP, hT, hS⟩ trivial rfl
              refine calmSteps_cons (fun u wq n hn hn2 hC hk K hK => ?_) ?_
              · obtain ⟨hP, hT, hS⟩ := hC
                clear hk
                have z9 := hT.cell; have l9 := hT.lt
                go_simp
                exact hK _ _ _ rfl ⟨hP, hT, hS⟩ trivial rfl
              refine calmSteps_cons (fun u wq n hn hn2 hC hk K hK => ?_) ?_
              · obtain ⟨hP, hT, hS⟩ := hC
                simp only [calmKnown, List.getElem?_cons_zero, List.getElem?_cons_succ, and_true, Is, Pure, Option.some.injEq, List.getD_cons_zero, List.getD_cons_succ, List.map_cons, List.map_nil] at hk
                have h0 := hk; clear hk
                simp only [h0] at hK ⊢
                have H0 := Lib.hid h0; clear h0
                go_simp
                exact hK _ _ _ rfl ⟨hP, hT, hS⟩ trivial rfl
              refine calmSteps_cons (fun u wq n hn hn2 hC hk K hK => ?_) ?_
              · obtain ⟨hP, hT, hS⟩ := hC
                simp only [calmKnown, List.getElem?_cons_zero, List.getElem?_cons_succ, and_true, Is, Pure, Option.some.injEq, List.getD_cons_zero, List.getD_cons_succ, List.map_cons, List.map_nil] at hk
                have h3 := hk; clear hk
                simp only [h3] at hK ⊢
                have H3 := Lib.hid h3; clear h3
                go_simp
                exact hK _ _ _ rfl ⟨hP, hT, hS⟩ trivial rfl
              refine calmSteps_cons (fun u wq n hn hn2 hC hk K hK => ?_) ?_
              · obtain ⟨hP, hT, hS⟩ := hC
                simp only [calmKnown, List.getElem?_cons_zero, List.getElem?_cons_succ, and_true, Is, Pure, Option.some.injEq, List.getD_cons_zero, List.getD_cons_succ, List.map_cons, List.map_nil] at hk
                have h4 := hk; clear hk
                simp only [h4] at hK ⊢
                have H4 := Lib.hid h4; clear h4
                obtain rfl := hn 0 rfl
                have hS0 : Blk wq gs 170 curS := hS
                have z9 := (hS0.cell (q * 7)).trans HK0.out; have f9 := hS0.frozen; have l9 := hS0.lt
                have hB2 := setAll_blk [.bool true] (q * 7) wq _ hS0
                go_simp
                exact hK _ undef (setAll wq gs (q * 7) [.bool true]) rfl ⟨setAll_pastX (by simp) [.bool true] (q * 7) wq hP, setAll_far (show gT ≠ gs by omega) [.bool true] (q * 7) wq hT, hB2⟩ trivial trivial
              refine calmSteps_cons (fun u wq n hn hn2 hC hk K hK => ?_) ?_
              · obtain ⟨hP, hT, hS⟩ := hC
                simp only [calmKnown, List.getElem?_cons_zero, List.getElem?_cons_succ, and_true, Is, Pure, Option.some.injEq, List.getD_cons_zero, List.getD_cons_succ, List.map_cons, List.map_nil] at hk
                have h1 := hk; clear hk
                simp only [h1] at hK ⊢
                have H1 := Lib.hid h1; clear h1
                go_simp
                exact hK _ _ _ rfl ⟨hP, hT, hS⟩ trivial rfl
              refine calmSteps_cons (fun u wq n hn hn2 hC hk K hK => ?_) ?_
              · obtain ⟨hP, hT, hS⟩ := hC
                simp only [calmKnown, List.getElem?_cons_zero, List.getElem?_cons_succ, and_true, Is, Pure, Option.some.injEq, List.getD_cons_zero, List.getD_cons_succ, List.map_cons, List.map_nil] at hk
                have h6 := hk; clear hk
                simp only [h6] at hK ⊢
                have H6 := Lib.hid h6; clear h6
                go_simp
                exact hK _ _ _ rfl ⟨hP, hT, hS⟩ trivial rfl
              refine calmSteps_cons (fun u wq n hn hn2 hC hk K hK => ?_) ?_
              · obtain ⟨hP, hT, hS⟩ := hC
                simp only [calmKnown, List.getElem?_cons_zero, List.getElem?_cons_succ, and_true, Is, Pure, Option.some.injEq, List.getD_cons_zero, List.getD_cons_succ, List.map_cons, List.map_nil] at hk
                obtain ⟨h7, h2⟩ := hk
                simp only [h7, h2] at hK ⊢
                have H7 := Lib.hid h7; clear h7; have H2 := Lib.hid h2; clear h2
                obtain rfl := hn 1 rfl
                have hS0 : Blk wq gs 170 (setArr curS (q * 7) [.bool true]) := hS
                have z1 := (hS0.cell (q * 7 + 1)).trans (getE_set HKS.out HK1.out)
                have z2 := (hS0.cell (q * 7 + 2)).trans (getE_set HKS.out HK2.out)
                have z3 := (hS0.cell (q * 7 + 3)).trans (getE_set HKS.out HK3.out)
                have z4 := (hS0.cell (q * 7 + 4)).trans (getE_set HKS.out HK4.out)
                have z5 := (hS0.cell (q * 7 + 5)).trans (getE_set HKS.out HK5.out)
                have z6 := (hS0.cell (q * 7 + 6)).trans (getE_set HKS.out HK6.out)
                have zz1 : wq.cell? ⟨gs, q * 7 + 1 + 1, none⟩ = some (.int .i64 nlo) := (hS0.cell (q * 7 + 1 + 1)).trans (getE_set HKS.out HK2.out)
                have zz2 : wq.cell? ⟨gs, q * 7 + 1 + 2, none⟩ = some (.int .i64 nhi) := (hS0.cell (q * 7 + 1 + 2)).trans (getE_set HKS.out HK3.out)
                have zz3 : wq.cell? ⟨gs, q * 7 + 1 + 3, none⟩ = some (.int .i64 np) := (hS0.cell (q * 7 + 1 + 3)).trans (getE_set HKS.out HK4.out)
                have zz4 : wq.cell? ⟨gs, q * 7 + 1 + 4, none⟩ = some (.int .i64 nle) := (hS0.cell (q * 7 + 1 + 4)).trans (getE_set HKS.out HK5.out)
                have zz5 : wq.cell? ⟨gs, q * 7 + 1 + 5, none⟩ = some (.int .i64 nre) := (hS0.cell (q * 7 + 1 + 5)).trans (getE_set HKS.out HK6.out)
                have f9 := hS0.frozen; have l9 := hS0.lt
                have hB2 := setAll_blk [.int .i64 la, .int .i64 llo, .int .i64 lhi, .int .i64 lp, .int .i64 lle, .int .i64 lre] (q * 7 + 1) wq _ hS0
                go_simp
                have hset : setAll wq gs (q * 7 + 1) [.int .i64 la, .int .i64 llo, .int .i64 lhi, .int .i64 lp, .int .i64 lle, .int .i64 lre] = ((((((wq.setCell ⟨gs, q * 7 + 1, none⟩ (.int .i64 la)).setCell ⟨gs, q * 7 + 1 + 1, none⟩ (.int .i64 llo)).setCell ⟨gs, q * 7 + 1 + 2, none⟩ (.int .i64 lhi)).setCell ⟨gs, q * 7 + 1 + 3, none⟩ (.int .i64 lp)).setCell ⟨gs, q * 7 + 1 + 4, none⟩ (.int .i64 lle)).setCell ⟨gs, q * 7 + 1 + 5, none⟩ (.int .i64 lre)) := by simp only [setAll, Nat.add_assoc, Nat.reduceAdd]
                have h1 := setAll_pastX (X := [gs]) (g := gs) (by simp) [.int .i64 la, .int .i64 llo, .int .i64 lhi, .int .i64 lp, .int .i64 lle, .int .i64 lre] (q * 7 + 1) wq hP
                have h2 := setAll_far (show gT ≠ gs by omega) [.int .i64 la, .int .i64 llo, .int .i64 lhi, .int .i64 lp, .int .i64 lle, .int .i64 lre] (q * 7 + 1) wq hT
                rw [hset, ← setArr_cons] at hB2
                rw [hset] at h1 h2
                clear hset
                exact hK _ undef ((((((wq.setCell ⟨gs, q * 7 + 1, none⟩ (.int .i64 la)).setCell ⟨gs, q * 7 + 1 + 1, none⟩ (.int .i64 llo)).setCell ⟨gs, q * 7 + 1 + 2, none⟩ (.int .i64 lhi)).setCell ⟨gs, q * 7 + 1 + 3, none⟩ (.int .i64 lp)).setCell ⟨gs, q * 7 + 1 + 4, none⟩ (.int .i64 lle)).setCell ⟨gs, q * 7 + 1 + 5, none⟩ (.int .i64 lre)) rfl ⟨h1, h2, hB2⟩ trivial trivial
              exact calmSteps_nil
            · intro u wz hC hF
              obtain ⟨hP, hT, hS⟩ := hC
              clear hF
              have hst := BnAt.source (q := q) ((true, ⟨la, llo, lhi, lp, lle, lre⟩) : Kw) hB bP rfl hgs bS HSC.out hql HE3.out ((HE4.out.pastT (Ts := []) (PastT.below (Past.toBelow Kv2)) (by simp))) hP hS
              have bA8 := hP.blk bA (by simp <;> omega)
              have bN8 := hP.blk bN (by simp <;> omega)
              have HST := Lib.hid hst; have HA8 := Lib.hid bA8; have HN8 := Lib.hid bN8; have P8 := Lib.hid ((HPW.out.below (Past.toBelow Kv2)).pastT hst.2); have HKK := Lib.hid (Past.toBelow Kv2)
              clear hP hT hS hst bA8 bN8
              go_upto_region 16 with fail
              refine' wp_region_calm (by kernel_rfl) (fun n _ w' => (n = 0 → Below wz.heap.size wz w') ∧ (n = 1 → BnAt B w' g (Bn.say { b with srcs := b.srcs.set q ((true, ⟨la, llo, lhi, lp, lle, lre⟩) : Kw) } wLearnt [(q : Int), a0, a1]) ∧ PastT B [5, 76] wz w')) (PastT B [5, 76]) [(Is _), (Is _), (Is _), (Is _), (Is _), (Is _), (Is _), (Is _), (Is _), (SliceB [] wz.heap.size 3 3 #[.int .i64 (q : Int), .int .i64 a0, .int .i64 a1]), (fun _ _ _ => True)] [[], [], [], [2], [3], [], [5], [], [7], [4, 6, 8], [0, 1, 9]] [10] [] rfl (calmB_of (by kernel_rfl)) (fun u => by (simp only [calmPut, Act.put, List.setIfInBounds_toArray, List.set_cons_zero, List.set_cons_succ, Nat.zero_add, Nat.reduceAdd]; rfl)) ?_ (calmKeep_cons keep_is' (calmKeep_cons keep_is' (calmKeep_cons keep_is' (calmKeep_cons keep_is' (calmKeep_cons keep_is' (calmKeep_cons keep_is' (calmKeep_cons keep_is' (calmKeep_cons keep_is' (calmKeep_cons keep_is' (calmKeep_cons (keep_slicePT (by decide)) (calmKeep_cons keep_triv (calmKeep_nil)))))))))))) ?_ ?_
              · intro _
                exact ⟨fun _ => (Below.refl _ _).drew, fun h => by cases h⟩
              rotate_left 9
              · skip
                refine calmSteps_cons (fun u wq n hn hn2 hC hk K hK => ?_) ?_
                · obtain ⟨hR0, hR1⟩ := hC
                  clear hk
                  go_simp
                  exact hK _ _ _ rfl ⟨hR0, hR1⟩ (PastT.refl _ _ _) rfl
                refine calmSteps_cons (fun u wq n hn hn2 hC hk K hK => ?_) ?_
                · obtain ⟨hR0, hR1⟩ := hC
                  clear hk
                  go_simp
                  exact hK _ _ _ rfl ⟨hR0, hR1⟩ (PastT.refl _ _ _) rfl
                refine calmSteps_cons (fun u wq n hn hn2 hC hk K hK => ?_) ?_
                · obtain ⟨hR0, hR1⟩ := hC
                  clear hk
                  go_simp
                  exact hK _ _ _ rfl ⟨hR0, hR1⟩ (PastT.refl _ _ _) rfl
                refine calmSteps_cons (fun u wq n hn hn2 hC hk K hK => ?_) ?_
                · obtain ⟨hR0, hR1⟩ := hC
                  simp only [calmKnown, List.getElem?_cons_zero, List.getElem?_cons_succ, and_true, Is, Pure, Option.some.injEq, List.getD_cons_zero, List.getD_cons_succ, List.map_cons, List.map_nil] at hk
                  have h2 := hk; clear hk
                  simp only [h2] at hK ⊢
                  have H2 := Lib.hid h2; clear h2
                  go_simp
                  exact hK _ _ _ rfl ⟨hR0, hR1⟩ (PastT.refl _ _ _) rfl
                refine calmSteps_cons (fun u wq n hn hn2 hC hk K hK => ?_) ?_
                · obtain ⟨hR0, hR1⟩ := hC
                  simp only [calmKnown, List.getElem?_cons_zero, List.getElem?_cons_succ, and_true, Is, Pure, Option.some.injEq, List.getD_cons_zero, List.getD_cons_succ, List.map_cons, List.map_nil] at hk
                  have h3 := hk; clear hk
                  simp only [h3] at hK ⊢
                  have H3 := Lib.hid h3; clear h3
                  have hn0 : n = 0 := Nat.le_zero.1 (hn2 0 10 rfl (by kernel_rfl))
                  subst hn0
                  have hQ := hR0 rfl
                  have bx := Blk.keep hQ HN8.out; have z9 := (bx.cell 0).trans HC0.out; have l9 := bx.lt
                  go_simp
                  exact hK _ _ _ rfl ⟨hR0, hR1⟩ (PastT.refl _ _ _) rfl
                refine calmSteps_cons (fun u wq n hn hn2 hC hk K hK => ?_) ?_
                · obtain ⟨hR0, hR1⟩ := hC
                  clear hk
                  go_simp
                  exact hK _ _ _ rfl ⟨hR0, hR1⟩ (PastT.refl _ _ _) rfl
                refine calmSteps_cons (fun u wq n hn hn2 hC hk K hK => ?_) ?_
                · obtain ⟨hR0, hR1⟩ := hC
                  simp only [calmKnown, List.getElem?_cons_zero, List.getElem?_cons_succ, and_true, Is, Pure, Option.some.injEq, List.getD_cons_zero, List.getD_cons_succ, List.map_cons, List.map_nil] at hk
                  have h5 := hk; clear hk
                  simp only [h5] at hK ⊢
                  have H5 := Lib.hid h5; clear h5
                  have hn0 : n = 0 := Nat.le_zero.1 (hn2 0 10 rfl (by kernel_rfl))
                  subst hn0
                  have hQ := hR0 rfl
                  have bx := Blk.keep hQ HA8.out; have z9 := bx.cell; have l9 := bx.lt
                  go_simp
                  exact hK _ _ _ rfl ⟨hR0, hR1⟩ (PastT.refl _ _ _) rfl
                refine calmSteps_cons (fun u wq n hn hn2 hC hk K hK => ?_) ?_
                · obtain ⟨hR0, hR1⟩ := hC
                  clear hk
                  go_simp
                  exact hK _ _ _ rfl ⟨hR0, hR1⟩ (PastT.refl _ _ _) rfl
                refine calmSteps_cons (fun u wq n hn hn2 hC hk K hK => ?_) ?_
                · obtain ⟨hR0, hR1⟩ := hC
                  simp only [calmKnown, List.getElem?_cons_zero, List.getElem?_cons_succ, and_true, Is, Pure, Option.some.injEq, List.getD_cons_zero, List.getD_cons_succ, List.map_cons, List.map_nil] at hk
                  have h7 := hk; clear hk
                  simp only [h7] at hK ⊢
                  have H7 := Lib.hid h7; clear h7
                  have hn0 : n = 0 := Nat.le_zero.1 (hn2 0 10 rfl (by kernel_rfl))
                  subst hn0
                  have hQ := hR0 rfl
                  have bx := Blk.keep hQ HA8.out; have z9 := bx.cell; have l9 := bx.lt
                  go_simp
                  exact hK _ _ _ rfl ⟨hR0, hR1⟩ (PastT.refl _ _ _) rfl
                refine calmSteps_cons (fun u wq n hn hn2 hC hk K hK => ?_) ?_
                · obtain ⟨hR0, hR1⟩ := hC
                  simp only [calmKnown, List.getElem?_cons_zero, List.getElem?_cons_succ, and_true, Is, Pure, Option.some.injEq, List.getD_cons_zero, List.getD_cons_succ, List.map_cons, List.map_nil] at hk
                  obtain ⟨h4, h6, h8⟩ := hk
                  simp only [h4, h6, h8] at hK ⊢
                  have H4 := Lib.hid h4; clear h4; have H6 := Lib.hid h6; clear h6; have H8 := Lib.hid h8; clear h8
                  have hn0 : n = 0 := Nat.le_zero.1 (hn2 0 10 rfl (by kernel_rfl))
                  subst hn0
                  have hQ := hR0 rfl
                  go_simp
                  exact hK _ _ _ rfl ⟨fun _ => hQ.alloc hQ.size _, fun h => by cases h⟩ (PastT.below (below_new _ _)) ⟨_, rfl, by simp, hQ.size, Blk.new _ _ _⟩
                refine calmSteps_cons (fun u wq n hn hn2 hC hk K hK => ?_) ?_
                · obtain ⟨hR0, hR1⟩ := hC
                  simp only [calmKnown, List.getElem?_cons_zero, List.getElem?_cons_succ, and_true, Is, Pure, Option.some.injEq, List.getD_cons_zero, List.getD_cons_succ, List.map_cons, List.map_nil] at hk
                  obtain ⟨h0, h1, ⟨g9, h9, -, hl9, hb9⟩⟩ := hk
                  simp only [h0, h1, h9] at hK ⊢
                  have H0 := Lib.hid h0; clear h0; have H1 := Lib.hid h1; clear h1; have H9 := Lib.hid h9; clear h9
                  obtain rfl := hn 0 rfl
                  have hQ := hR0 rfl
                  have hnr : NumsR wq (some ⟨g9, 0, none⟩) 3 [(q : Int), a0, a1] := NumsR.of (zs := [(q : Int), a0, a1]) hb9
                  have HNR := Lib.hid hnr; have HB9 := Lib.hid hb9
                  clear hnr hb9
                  go_wp2_with fail
                  refine (say_any B g _ ⟨#[108, 101, 97, 114, 110, 116]⟩ _ 3 3 [(q : Int), a0, a1] _ (HST.out.1.below hQ) HNR.out (fun n hn => by simp at hn; rcases hn with rfl | rfl | rfl; exact HS0.out; exact HA0.out; exact HA1.out) (P8.out.below hQ) (by show b.out.length + 6 + 22 * 3 + 1 ≤ _; omega)).mono ?_
                  rintro e w2 ⟨rfl, h2, hT2⟩
                  exact hK _ _ _ rfl ⟨(fun h => by cases h), fun _ => ⟨h2, (PastT.below hQ).trans hT2⟩⟩ hT2 trivial
                exact calmSteps_nil
              · intro u wy hC hF
                obtain ⟨h10, hT10⟩ := hC.2 rfl
                clear hF hC
                go_wp2
                go_ret
                rw [HRR.out, show b.took (q : Int) a0 a1 (0, true, ⟨la, llo, lhi, lp, lle, lre⟩) = (Bn.say { b with srcs := b.srcs.set q ((true, ⟨la, llo, lhi, lp, lle, lre⟩) : Kw) } wLearnt [(q : Int), a0, a1], 0) from by unfold Bn.took; rw [if_pos rfl]; rfl]
                exact ⟨rfl, h10, (PastT.below HKK.out).trans ((HST.out.2.mono (fun t ht => by simp at ht; subst ht; simp)).trans hT10.three)⟩
          · skip
            have g1 : (le9 == 0) = false := by simpa using h9le9
            have g2 : decide (le9 = 0) = false := by simpa using h9le9
            have g3 : (le9 != 0) = true := by simpa using h9le9
            go_wp2_with fail
            refine (told_e B g b le9 _ ((HH.out.below (Past.toBelow Kv2)).below (by (repeat' (first | (with_reducible exact Below.refl _ _) | (with_reducible refine Below.setCell ?_ ?_ _) | (with_reducible refine Below.alloc ?_ ?_ _) | (with_reducible refine Below.drew ?_) | (with_reducible refine below_drewN ?_ _))) <;> (first | omega | (simp <;> omega)))) h9le9 HLB.out.small ((HPW.out.below (Past.toBelow Kv2)).below (by (repeat' (first | (with_reducible exact Below.refl _ _) | (with_reducible refine Below.setCell ?_ ?_ _) | (with_reducible refine Below.alloc ?_ ?_ _) | (with_reducible refine Below.drew ?_) | (with_reducible refine below_drewN ?_ _))) <;> (first | omega | (simp <;> omega)))) hl).mono ?_
            rintro e9 w6 ⟨rfl, h6, hT6⟩
            go_wp2
            go_ret
            rw [HRR.out, show b.took (q : Int) a0 a1 (le9, true, ⟨la, llo, lhi, lp, lle, lre⟩) = b.tell le9 from if_neg h9le9]
            exact ⟨rfl, h6, ((PastT.below (kept_call (show Below v2.heap.size v2 _ from (by (repeat' (first | (with_reducible exact Below.refl _ _) | (with_reducible refine Below.setCell ?_ ?_ _) | (with_reducible refine Below.alloc ?_ ?_ _) | (with_reducible refine Below.drew ?_) | (with_reducible refine below_drewN ?_ _))) <;> (first | omega | (simp <;> omega)))) (Past.toBelow Kv2))).trans hT6).three⟩
    · skip
      have g1 : (ae == 0) = false := by simpa using h9ae
      have g2 : decide (ae = 0) = false := by simpa using h9ae
      have g3 : (ae != 0) = true := by simpa using h9ae
      go_wp2_with fail
      refine (told_e B g b ae _ ((HH.out.below (Past.toBelow Kv1)).below (by (repeat' (first | (with_reducible exact Below.refl _ _) | (with_reducible refine Below.setCell ?_ ?_ _) | (with_reducible refine Below.alloc ?_ ?_ _) | (with_reducible refine Below.drew ?_) | (with_reducible refine below_drewN ?_ _))) <;> (first | omega | (simp <;> omega)))) h9ae HAE.out.small ((HPW.out.below (Past.toBelow Kv1)).below (by (repeat' (first | (with_reducible exact Below.refl _ _) | (with_reducible refine Below.setCell ?_ ?_ _) | (with_reducible refine Below.alloc ?_ ?_ _) | (with_reducible refine Below.drew ?_) | (with_reducible refine below_drewN ?_ _))) <;> (first | omega | (simp <;> omega)))) hl).mono ?_
      rintro e9 w6 ⟨rfl, h6, hT6⟩
      go_wp2
      go_ret
      rw [show b.heard (q : Int) t4 (a0, a1, ae) = b.tell ae from if_neg h9ae]
      exact ⟨rfl, h6, ((PastT.below (kept_call (show Below v1.heap.size v1 _ from (by (repeat' (first | (with_reducible exact Below.refl _ _) | (with_reducible refine Below.setCell ?_ ?_ _) | (with_reducible refine Below.alloc ?_ ?_ _) | (with_reducible refine Below.drew ?_) | (with_reducible refine below_drewN ?_ _))) <;> (first | omega | (simp <;> omega)))) (Past.toBelow Kv1))).trans hT6).three⟩
end Go.Proofs.YtiinmhfolfgobaaGreatDoor
