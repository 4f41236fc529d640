/- Lemmas. -/
import Derived.Test.YtiinmhfolfgobaaGreatDoorJ31
import Derived.Test.YtiinmhfolfgobaaGreatDoorWkH
set_option linter.unusedVariables false
set_option linter.unusedSimpArgs false
namespace Go.Proofs.YtiinmhfolfgobaaGreatDoor
open Go.RowKit Go.Lib
set_option maxHeartbeats 128000000
set_option maxRecDepth 100000
def SaveOk (sv : Sv) : Prop := ∀ (B g : Nat) (b : Bn) (A : Option Addr) (cap : Nat) (n0 n1 n2 : Int) (w : World), BnAt B w g b → NumsR w A 3 [n0, n1, n2] → vT n0 = true → vT n1 = true → vT n2 = true → PowB B w → b.out.length ≤ 900000 → b.srcs.length ≤ 64 →
 Calls Tryz.prog 99 #[.pointer (some ⟨g, 0, none⟩), .slice A 3 cap] w (LnR B g w (sv b n0 n1 n2))
def needR (b : Bn) (r : Bn × Int) : Bn × Int := if b.begun then r else (b, 7)
theorem need_sample (B g L : Nat) (b : Bn) (A : Option Addr) (cap : Nat) (r : Bn × Int) (w : World) (h : BnAt B w g b) (hL : Blk w L 109 #[.func (.func 95) #[] #[]]) (hc : Calls Tryz.prog 95 #[.pointer (some ⟨g, 0, none⟩), .slice A 6 cap] w (LnR B g w r)) :
  Calls Tryz.prog 133 #[.pointer (some ⟨g, 0, none⟩), .slice A 6 cap, .pointer (some ⟨L, 0, none⟩)] w (LnR B g w (needR b r)) := by
 have HC := Yh hc; have HH := Yh h
 have cL := hL.cell 0; have lL := hL.lt
 obtain ⟨hB, VL, p, v, e1, -⟩ := h
 have cP := e1.cell 0
 have hgl := e1.lt
 unfold bnC at cP
 clear hc hL e1
 unfold needR
 cases hb : b.begun with
 | true =>
  rw [hb] at cP
  rw [if_pos rfl]
  go_enter Tryz.func133, Tryz.ntmps133
  go_wp2_with fail
  refine HC.out.mono ?_
  rintro e w1 ⟨rfl, h1, hT1⟩
  go_wp2
  go_ret
  exact ⟨rfl, h1, hT1⟩
 | false =>
  rw [hb] at cP
  rw [if_neg Ys]
  go_enter Tryz.func133, Tryz.ntmps133
  go_wp2
  go_ret
  exact ⟨rfl, HH.out, PastT.refl _ _ _⟩
theorem need_now (B g L : Nat) (b : Bn) (A : Option Addr) (cap : Nat) (r : Bn × Int) (w : World) (h : BnAt B w g b) (hL : Blk w L 109 #[.func (.func 96) #[] #[]]) (hc : Calls Tryz.prog 96 #[.pointer (some ⟨g, 0, none⟩), .slice A 1 cap] w (LnR B g w r)) :
  Calls Tryz.prog 133 #[.pointer (some ⟨g, 0, none⟩), .slice A 1 cap, .pointer (some ⟨L, 0, none⟩)] w (LnR B g w (needR b r)) := by
 have HC := Yh hc; have HH := Yh h
 have cL := hL.cell 0; have lL := hL.lt
 obtain ⟨hB, VL, p, v, e1, -⟩ := h
 have cP := e1.cell 0
 have hgl := e1.lt
 unfold bnC at cP
 clear hc hL e1
 unfold needR
 cases hb : b.begun with
 | true =>
  rw [hb] at cP
  rw [if_pos rfl]
  go_enter Tryz.func133, Tryz.ntmps133
  go_wp2_with fail
  refine HC.out.mono ?_
  rintro e w1 ⟨rfl, h1, hT1⟩
  go_wp2
  go_ret
  exact ⟨rfl, h1, hT1⟩
 | false =>
  rw [hb] at cP
  rw [if_neg Ys]
  go_enter Tryz.func133, Tryz.ntmps133
  go_wp2
  go_ret
  exact ⟨rfl, HH.out, PastT.refl _ _ _⟩
theorem need_read (B g L : Nat) (b : Bn) (A : Option Addr) (cap : Nat) (r : Bn × Int) (w : World) (h : BnAt B w g b) (hL : Blk w L 109 #[.func (.func 97) #[] #[]]) (hc : Calls Tryz.prog 97 #[.pointer (some ⟨g, 0, none⟩), .slice A 2 cap] w (LnR B g w r)) :
  Calls Tryz.prog 133 #[.pointer (some ⟨g, 0, none⟩), .slice A 2 cap, .pointer (some ⟨L, 0, none⟩)] w (LnR B g w (needR b r)) := by
 have HC := Yh hc; have HH := Yh h
 have cL := hL.cell 0; have lL := hL.lt
 obtain ⟨hB, VL, p, v, e1, -⟩ := h
 have cP := e1.cell 0
 have hgl := e1.lt
 unfold bnC at cP
 clear hc hL e1
 unfold needR
 cases hb : b.begun with
 | true =>
  rw [hb] at cP
  rw [if_pos rfl]
  go_enter Tryz.func133, Tryz.ntmps133
  go_wp2_with fail
  refine HC.out.mono ?_
  rintro e w1 ⟨rfl, h1, hT1⟩
  go_wp2
  go_ret
  exact ⟨rfl, h1, hT1⟩
 | false =>
  rw [hb] at cP
  rw [if_neg Ys]
  go_enter Tryz.func133, Tryz.ntmps133
  go_wp2
  go_ret
  exact ⟨rfl, HH.out, PastT.refl _ _ _⟩
theorem need_save (B g L : Nat) (b : Bn) (A : Option Addr) (cap : Nat) (r : Bn × Int) (w : World) (h : BnAt B w g b) (hL : Blk w L 109 #[.func (.func 99) #[] #[]]) (hc : Calls Tryz.prog 99 #[.pointer (some ⟨g, 0, none⟩), .slice A 3 cap] w (LnR B g w r)) :
  Calls Tryz.prog 133 #[.pointer (some ⟨g, 0, none⟩), .slice A 3 cap, .pointer (some ⟨L, 0, none⟩)] w (LnR B g w (needR b r)) := by
 have HC := Yh hc; have HH := Yh h
 have cL := hL.cell 0; have lL := hL.lt
 obtain ⟨hB, VL, p, v, e1, -⟩ := h
 have cP := e1.cell 0
 have hgl := e1.lt
 unfold bnC at cP
 clear hc hL e1
 unfold needR
 cases hb : b.begun with
 | true =>
  rw [hb] at cP
  rw [if_pos rfl]
  go_enter Tryz.func133, Tryz.ntmps133
  go_wp2_with fail
  refine HC.out.mono ?_
  rintro e w1 ⟨rfl, h1, hT1⟩
  go_wp2
  go_ret
  exact ⟨rfl, h1, hT1⟩
 | false =>
  rw [hb] at cP
  rw [if_neg Ys]
  go_enter Tryz.func133, Tryz.ntmps133
  go_wp2
  go_ret
  exact ⟨rfl, HH.out, PastT.refl _ _ _⟩
def StrR (w : World) (gW len : Nat) (ws : List (List UInt8)) : Prop := ws.length = len ∧ ∃ cur, Blk w gW 9 cur ∧ ∀ j, j < len → cur[j]? = some (strV (ws.getD j []))
theorem StrR.pastT {B : Nat} {Ts : List TypeId} {w w' : World} {gW len : Nat} {ws : List (List UInt8)} (h : StrR w gW len ws) (hp : PastT B Ts w w') (hT : 9 ∉ Ts) : StrR w' gW len ws := by
 obtain ⟨h1, cur, hb, hc⟩ := h
 exact ⟨h1, cur, hp.blk hb hT, hc⟩
theorem StrR.below {w w' : World} {gW len : Nat} {ws : List (List UInt8)} (h : StrR w gW len ws) (hb : Below w.heap.size w w') : StrR w' gW len ws := h.pastT (B := 0) (Ts := []) (PastT.below hb) Ys
def RowN (w : World) (base : Nat) (v : Value) (zs : List Int) : Prop := w.ownsRow base 3 1 v zs.length (zs.map (Value.int .i64))
theorem RowN.below {w w' : World} {base : Nat} {v : Value} {zs : List Int} (h : RowN w base v zs) (hb : Below w.heap.size w w') : RowN w' base v zs := Past.own (X := []) (Past.below hb) h (fun k _ hm => by simp at hm)
theorem infoInt : (Tryz.prog.info? 3).map (fun i => (i.zero, i.size, i.bytes)) = some (some (.int .i64 0), 1, 8) := by kernel_rfl
theorem RowN.nums {w : World} {base c : Nat} {A : Option Addr} {zs : List Int} (h : RowN w base (.slice A zs.length c) zs) : NumsR w A zs.length zs := by
 refine ⟨rfl, fun h0 => ?_⟩
 rcases h.2 with ⟨_, e⟩ | ⟨gA, cap, cur, e, hb, hg, h1, h2, h3, h4⟩
 ·omega
 ·injection e with e1 e2 e3
  refine ⟨gA, cur, e1, hg, fun j hj => ?_⟩
  have h5 : (zs.map (Value.int .i64))[j]? = some (.int .i64 (zs.getD j 0)) := by
   rw [List.getElem?_map, Y9 hj, Y8, Y9 hj]; rfl
  rw [← h4, List.getElem?_take, if_pos Yo] at h5
  simpa using h5
theorem intsW_snoc : ∀ (l : List (List UInt8)) (x : List UInt8) (zs : List Int) (n : Int), intsW l = some zs → intW x = some n → intsW (l ++ [x]) = some (zs ++ [n])
 | [], x, zs, n, h, hx => by
  simp only [intsW, osj] at h
  subst h
  simp [intsW, hx]
 | w :: l, x, zs, n, h, hx => by
  unfold intsW at h
  rw [List.cons_append, intsW]
  cases hw : intW w with
  | none => rw [hw] at h; simp at h
  | some m =>
   rw [hw] at h
   cases hl : intsW l with
   | none => rw [hl] at h; simp at h
   | some ms =>
    rw [hl] at h
    simp only [osj] at h
    subst h
    simp [intsW_snoc l x ms n hl hx]
theorem intsW_none : ∀ (l : List (List UInt8)) (q : Nat), q < l.length → intW (l.getD q []) = none → intsW l = none
 | [], q, h, _ => by simp at h
 | w :: l, 0, _, h => by
  have h' : intW w = none := by simpa using h
  simp [intsW, h']
 | w :: l, q + 1, hq, h => by
  have := intsW_none l q (by simpa using hq) (by simpa using h)
  unfold intsW
  cases intW w <;> simp [this]
theorem intsW_vT : ∀ (l : List (List UInt8)) (zs : List Int), intsW l = some zs → zs.length = l.length ∧ ∀ n ∈ zs, vT n = true
 | [], zs, h => by simp [intsW] at h; subst h; simp
 | w :: l, zs, h => by
  unfold intsW at h
  cases hw : intW w with
  | none => rw [hw] at h; simp at h
  | some m =>
   rw [hw] at h
   cases hl : intsW l with
   | none => rw [hl] at h; simp at h
   | some ms =>
    rw [hl] at h
    simp only [osj] at h
    subst h
    obtain ⟨h1, h2⟩ := intsW_vT l ms hl
    refine ⟨by simp [h1], fun n hn => ?_⟩
    rcases List.mem_cons.1 hn with rfl | hn
    ·unfold intW at hw
     split at hw
     ·split at hw
      ·rename_i h3; injection hw with hw; subst hw; exact h3.2
      ·cases hw
     ·cases hw
    ·exact h2 n hn
theorem intW_of {x : List UInt8} {n : Int} (hl : x.length ≤ 18) (h : atoi x = some n) : intW x = if (itoa n == x) = true then some n else none := by
 have hb := atoi_small hl h
 have hv : vT n = true := vT_true.2 Yo
 unfold intW
 rw [h]
 simp only [hv, and_true]
 by_cases e : itoa n = x
 ·rw [if_pos e, if_pos (by simpa using e)]
 ·rw [if_neg e, if_neg (by simpa using e)]
def ExecRel (w : World) (ws : List (List UInt8)) (N : Nat) (G : Nat) (v i : Value) (wr : World) : Prop := ∃ (q : Nat) (A : Option Addr) (c : Nat) (zs : List Int), q ≤ N ∧ G = N - q ∧ i = .int .i64 q ∧ v = .slice A q c ∧ zs.length = q ∧ intsW (ws.take q) = some zs ∧ RowN wr w.heap.size (.slice A q c) zs ∧ Below w.heap.size w wr
theorem CmdsAt.pastT {w w' : World} {m : Nat} {fs : Cmd → Value} (h : CmdsAt w m fs) (hp : PastT 0 [111] w w') : CmdsAt w' m fs := by
 refine ⟨?_, fun c => (h.2 c).pastT hp Yd⟩
 obtain ⟨es, k, e, h1⟩ := h.1
 exact ⟨es, k, (hp.2.2.2.2 m (Array.getElem?_eq_some_iff.1 e).1 (.inr fun cs t fz hc => by rw [e] at hc; cases hc)).trans e, h1⟩
theorem FnOf.shape {w : World} {c : Cmd} {v : Value} (h : FnOf w c v) : ∃ k cp, v = .func (.func k) #[] cp := by
 cases c
 case sample | now | read | save => obtain ⟨L, e, -⟩ := h; exact ⟨_, _, e⟩
 all_goals exact ⟨_, _, h⟩
theorem run_zeroCmd (w : World) : (zeroValue 111).run Tryz.prog w = .ok (.agg #[.int .i64 0, .nilFunc]) w := by kernel_rfl
theorem run_storeF {P : Program} {w : World} {g i : Nat} {t : TypeId} {cs : Array Value} {u v : Value} (h : Blk w g t cs) (hi : cs[i]? = some u) (h1 : v.oneCell' = true) : (store ⟨g, i, none⟩ v).run P w = .ok () (w.setCell ⟨g, i, none⟩ v) := by
 rw [run_store P w _ v _ h1, (h.cell i).trans hi]
 simp [h.frozen i]
def MapF : List Value → Value → World → Prop := fun _ v w => ∃ m fs, v = .map (some m) ∧ CmdsAt w m fs
def TupF (c : Cmd) : List Value → Value → World → Prop := fun _ v w => ∃ k cp, v = .tuple #[.agg #[.int .i64 c.count, .func (.func k) #[] cp], .bool true] ∧ FnOf w c (.func (.func k) #[] cp)
def AggF (c : Cmd) : List Value → Value → World → Prop := fun _ v w => ∃ k cp, v = .agg #[.int .i64 c.count, .func (.func k) #[] cp] ∧ FnOf w c (.func (.func k) #[] cp)
theorem keep_mapF : ∀ d v w w', PastT 0 [111] w w' → MapF d v w → MapF d v w' := fun _ _ _ _ h ⟨m, fs, e, hc⟩ => ⟨m, fs, e, hc.pastT h⟩
theorem keep_tupF {c : Cmd} : ∀ d v w w', PastT 0 [111] w w' → TupF c d v w → TupF c d v w' := fun _ _ _ _ h ⟨m, fs, e, hc⟩ => ⟨m, fs, e, hc.pastT h Yd⟩
theorem keep_aggF {c : Cmd} : ∀ d v w w', PastT 0 [111] w w' → AggF c d v w → AggF c d v w' := fun _ _ _ _ h ⟨m, fs, e, hc⟩ => ⟨m, fs, e, hc.pastT h Yd⟩
theorem exec_any (sv : Sv) (B g : Nat) (b : Bn) (gW len : Nat) (ws : List (List UInt8)) (w : World) (h : BnAt B w g b) (hw : StrR w gW len ws) (h0 : 0 < len) (hgood : ∀ x ∈ ws.tail, x.length ≤ 18 ∧ ∃ n, atoi x = some n) (hpow : PowB B w) (hl : b.out.length ≤ 900000) (hs : b.srcs.length ≤ 64) (hsv : cmdOf (ws.getD 0 []) = some .save → SaveOk sv) (hln : len ≤ 2000000) :
  Calls Tryz.prog 33 #[.pointer (some ⟨g, 0, none⟩), .slice (some ⟨gW, 0, none⟩) len len] w (LnR B g w (b.exec sv ws)) := by
 have HH := Yh h; have HW := Yh hw; have HPW := Yh hpow; have HG := Yh hgood; have HSV := Yh hsv
 have hgl := h.lt
 have hwl := hw.1
 obtain ⟨curW, hWb, hWc⟩ := hw.2
 have HWB := Yh hWb; have HWC := Yh hWc
 have hwlt := hWb.lt
 obtain ⟨w0, hw0⟩ : ∃ w0, ws.getD 0 [] = w0 := ⟨_, rfl⟩
 have hw0c : curW[0]? = some (strV w0) := by rw [← hw0]; exact hWc 0 h0
 have HW0 := Yh hw0c; have HW0E := Yh hw0
 rw [hw0] at hsv HSV
 replace HSV := Yh hsv
 clear h hw hpow hgood hsv hWb hWc hw0c hw0
 rcases hcm : cmdOf w0 with _ | c
 ·have hr : b.exec sv ws = (b, 29) := by unfold Bn.exec; rw [HW0E.out, hcm]
  rw [hr]
  have HCM := Yh hcm
  clear hr hcm
  go_enter Tryz.func33, Tryz.ntmps33
  go_upto_region 1 with fail
  refine' wp_region_calm Yr (fun n us w' => Below w.heap.size w w' ∧ NewC w.heap.size 111 #[.int .i64 0, .nilFunc] n us w') (PastT 0 [111]) [(MapF), Is _, Is _, Is _, Is _, Is _, Is _, Is _, (fun _ _ _ => True), (fun _ _ _ => True), Is _] [[], [], [1], [2], [0, 3], [4], [5], [5], [], [8, 6], [7]] [8, 9] [8, 6] rfl Yr Yp ?_ (kcc keep_mapF (Y1 (Y1 (Y1 (Y1 (Y1 (Y1 (Y1 (Y0 (Y0 (Y1 Yn))))))))))) ?_ ?_
  ·intro _
   exact ⟨Yl.drew, .inl rfl⟩
  rotate_left 8
  ·skip
   refine Yz (fun u wq n hn hn2 hC hk K hK => ?_) ?_
   ·obtain ⟨hP, hN⟩ := hC
    clear hk
    go_wp2_with fail
    refine (commands_any _).mono ?_
    rintro e w2 ⟨m, fs, rfl, hc, hb⟩
    exact hK _ _ _ rfl ⟨Yc hb hP, NewC.keep (b := 0) hN (Past.below hb) Yo⟩ (PastT.below hb) ⟨m, fs, rfl, hc⟩
   iterate 2 refine zq0 ?_
   refine Yz (fun u wq n hn hn2 hC hk K hK => ?_) ?_
   ·obtain ⟨hP, hN⟩ := hC
    simp only [calmKnown, lg0, lg1, and_true, Is] at hk
    have h2 := hk; clear hk
    simp only [h2] at hK ⊢
    have H2 := Yh h2; clear h2
    have bW := Yk hP HWB.out; have z9 : wq.cell? ⟨gW, 0, none⟩ = some (strV w0) := (bW.cell 0).trans HW0.out; have l9 := bW.lt
    unfold strV at z9
    go_simp
    exact hK _ _ _ rfl ⟨hP, hN⟩ (PastT.refl _ _ _) rfl
   refine Yz (fun u wq n hn hn2 hC hk K hK => ?_) ?_
   ·obtain ⟨hP, hN⟩ := hC
    simp only [calmKnown, lg0, lg1, and_true, Is] at hk
    obtain ⟨⟨m, fs, h0, hc⟩, h3⟩ := hk
    simp only [h0, h3] at hK ⊢
    have H0 := Yh h0; clear h0; have H3 := Yh h3; clear h3
    have hlk := run_mapMiss (P := Tryz.prog) Tryz.underlying113 Tryz.underlying9 hc.1 w0 _ (run_zeroCmd wq) (cmdOf_none fs HCM.out)
    unfold strV at hlk
    clear hc
    go_simp
    exact hK _ _ _ rfl ⟨hP, hN⟩ (PastT.refl _ _ _) rfl
   refine zq0 ?_
   refine Yz (fun u wq n hn hn2 hC hk K hK => ?_) ?_
   ·obtain ⟨hP, hN⟩ := hC
    simp only [calmKnown, lg0, lg1, and_true, Is] at hk
    have h5 := hk; clear hk
    simp only [h5] at hK ⊢
    have H5 := Yh h5; clear h5
    have hn9 : n ≤ 1 := hn2 1 9 rfl Yr
    go_simp
    exact hK _ _ _ rfl ⟨hP, hN.val hn9⟩ (PastT.refl _ _ _) rfl
   refine zq0 ?_
   refine Yz (fun u wq n hn hn2 hC hk K hK => ?_) ?_
   ·obtain ⟨hP, hN⟩ := hC
    clear hk
    obtain rfl := hn 0 rfl
    go_simp
    exact hK _ _ _ rfl ⟨hP.alloc hP.size _, NewC.made (x := u 6) hP.size⟩ (PastT.below (below_new _ _)) trivial
   refine Yz (fun u wq n hn hn2 hC hk K hK => ?_) ?_
   ·obtain ⟨hP, hN⟩ := hC
    simp only [calmKnown, lg0, lg1, and_true, Is] at hk
    obtain ⟨-, h6⟩ := hk
    simp only [h6] at hK ⊢
    have H6 := Yh h6; clear h6
    obtain rfl := hn 1 rfl
    obtain ⟨gn, h8, gb, gl, hB⟩ := NewC.one (show NewC _ _ _ 1 [u 8, u 6] wq from hN)
    simp only [h8] at hK ⊢
    have H8 := Yh h8; clear h8
    have hc9 := hB.cell; have hf9 := hB.frozen
    have hst9 := run_storeF (P := Tryz.prog) (i := 1) (v := .nilFunc) (hB.set_ 0 (.int .i64 0)) rfl rfl
    have hB2 := setAll_blk [.int .i64 0, .nilFunc] 0 wq _ hB
    simp only [setArr, lst, ls0, ls1, Nat.zero_add, Nat.reduceAdd] at hB2
    go_simp
    exact hK _ undef (setAll wq gn 0 [.int .i64 0, .nilFunc]) rfl ⟨setAll_below gb [.int .i64 0, .nilFunc] 0 wq hP, (show NewC _ _ _ 2 [u 8, u 6] _ from by rw [H8.out, H6.out]; exact NewC.stored gb hB2)⟩ (.of_past (X := [gn]) (setAll_pastX Ys [.int .i64 0, .nilFunc] 0 wq (Past.refl _ _)) (fun k hk => by simp at hk; subst hk; exact ⟨Nat.zero_le _, _, _, _, hB, by simp⟩)) trivial
   refine zq0 ?_
   exact Yw
  ·intro u wz hC hF
   obtain ⟨hP, hN⟩ := hC
   obtain ⟨g9, cs9, h8, hg9, h6, hB9⟩ := NewC.last (show NewC _ _ _ 2 [u 8, u 6] wz from hN)
   clear hN
   simp only [calmFacts, Is, and_true, true_and] at hF
   obtain ⟨-, -, -, -, -, -, h6', h7', h10'⟩ := hF
   rw [h6] at h6'
   obtain rfl : cs9 = _ := by injection h6'
   simp only [h8, h7', h10']
   clear h8 h6 h6' h7' h10'
   have HB9 := Yh hB9; have HP := Yh hP
   have c9 := hB9.cell; have l9 := hB9.lt
   have ZP := hP.size
   clear hB9 hP
   go_wp2
   go_ret
   exact ⟨rfl, HH.out.below HP.out, PastT.below HP.out⟩
 ·have HCM := Yh hcm
  clear hcm
  by_cases hnl : len = 1 + c.count
  ·have hr : b.exec sv ws = b.nums sv c c.count (intsW ws.tail) := by unfold Bn.exec; rw [HW0E.out, HCM.out]; simp only; rw [if_pos (by rw [hwl]; exact hnl)]
   rw [hr]
   have hcc : c.count ≤ 6 := by cases c <;> decide
   obtain rfl : len = c.count + 1 := by omega
   have wl : IntKind.i64.wrap (1 + (c.count : Int)) = (c.count : Int) + 1 := Y4
   clear hr hnl
   go_enter Tryz.func33, Tryz.ntmps33
   go_upto_region 1 with fail
   refine' wp_region_calm Yr (fun n us w' => Below w.heap.size w w' ∧ NewC w.heap.size 111 #[.int .i64 0, .nilFunc] n us w') (PastT 0 [111]) [(MapF), Is _, Is _, Is _, (TupF c), (TupF c), (AggF c), Is _, (fun _ _ _ => True), (fun _ _ _ => True), Is _] [[], [], [1], [2], [0, 3], [4], [5], [5], [], [8, 6], [7]] [8, 9] [8, 6] rfl Yr Yp ?_ (kcc keep_mapF (Y1 (Y1 (Y1 (kcc keep_tupF (kcc keep_tupF (kcc keep_aggF (Y1 (Y0 (Y0 (Y1 Yn))))))))))) ?_ ?_
   ·intro _
    exact ⟨Yl.drew, .inl rfl⟩
   rotate_left 5
   ·skip
    refine Yz (fun u wq n hn hn2 hC hk K hK => ?_) ?_
    ·obtain ⟨hP, hN⟩ := hC
     clear hk
     go_wp2_with fail
     refine (commands_any _).mono ?_
     rintro e w2 ⟨m, fs, rfl, hc, hb⟩
     exact hK _ _ _ rfl ⟨Yc hb hP, NewC.keep (b := 0) hN (Past.below hb) Yo⟩ (PastT.below hb) ⟨m, fs, rfl, hc⟩
    iterate 2 refine zq0 ?_
    refine Yz (fun u wq n hn hn2 hC hk K hK => ?_) ?_
    ·obtain ⟨hP, hN⟩ := hC
     simp only [calmKnown, lg0, lg1, and_true, Is] at hk
     have h2 := hk; clear hk
     simp only [h2] at hK ⊢
     have H2 := Yh h2; clear h2
     have bW := Yk hP HWB.out; have z9 : wq.cell? ⟨gW, 0, none⟩ = some (strV w0) := (bW.cell 0).trans HW0.out; have l9 := bW.lt
     unfold strV at z9
     go_simp
     exact hK _ _ _ rfl ⟨hP, hN⟩ (PastT.refl _ _ _) rfl
    refine Yz (fun u wq n hn hn2 hC hk K hK => ?_) ?_
    ·obtain ⟨hP, hN⟩ := hC
     simp only [calmKnown, lg0, lg1, and_true, Is] at hk
     obtain ⟨⟨m, fs, h0, hc⟩, h3⟩ := hk
     simp only [h0, h3] at hK ⊢
     have H0 := Yh h0; clear h0; have H3 := Yh h3; clear h3
     have hlk := run_mapLook (P := Tryz.prog) Tryz.underlying113 Tryz.underlying9 hc.1 w0 _ (cmdOf_some fs HCM.out)
     obtain ⟨k9, cp9, hf9⟩ := (hc.2 c).shape
     have hf8 := hc.2 c
     rw [hf9] at hf8 hlk
     unfold cmdV strV at hlk
     clear hc
     go_simp
     exact hK _ _ _ rfl ⟨hP, hN⟩ (PastT.refl _ _ _) ⟨k9, cp9, rfl, hf8⟩
    refine Yz (fun u wq n hn hn2 hC hk K hK => ?_) ?_
    ·obtain ⟨hP, hN⟩ := hC
     simp only [calmKnown, lg0, lg1, and_true, Is] at hk
     obtain ⟨k9, cp9, h4, hf8⟩ := hk
     simp only [h4] at hK ⊢
     have H4 := Yh h4; clear h4
     go_simp
     exact hK _ _ _ rfl ⟨hP, hN⟩ (PastT.refl _ _ _) ⟨k9, cp9, rfl, hf8⟩
    refine Yz (fun u wq n hn hn2 hC hk K hK => ?_) ?_
    ·obtain ⟨hP, hN⟩ := hC
     simp only [calmKnown, lg0, lg1, and_true, Is] at hk
     obtain ⟨k9, cp9, h5, hf8⟩ := hk
     simp only [h5] at hK ⊢
     have H5 := Yh h5; clear h5
     have hn9 : n ≤ 1 := hn2 1 9 rfl Yr
     go_simp
     exact hK _ _ _ rfl ⟨hP, hN.val hn9⟩ (PastT.refl _ _ _) ⟨k9, cp9, rfl, hf8⟩
    refine Yz (fun u wq n hn hn2 hC hk K hK => ?_) ?_
    ·obtain ⟨hP, hN⟩ := hC
     simp only [calmKnown, lg0, lg1, and_true, Is] at hk
     obtain ⟨k9, cp9, h5, hf8⟩ := hk
     simp only [h5] at hK ⊢
     have H5 := Yh h5; clear h5
     go_simp
     exact hK _ _ _ rfl ⟨hP, hN⟩ (PastT.refl _ _ _) rfl
    refine Yz (fun u wq n hn hn2 hC hk K hK => ?_) ?_
    ·obtain ⟨hP, hN⟩ := hC
     clear hk
     obtain rfl := hn 0 rfl
     go_simp
     exact hK _ _ _ rfl ⟨hP.alloc hP.size _, NewC.made (x := u 6) hP.size⟩ (PastT.below (below_new _ _)) trivial
    refine Yz (fun u wq n hn hn2 hC hk K hK => ?_) ?_
    ·obtain ⟨hP, hN⟩ := hC
     simp only [calmKnown, lg0, lg1, and_true, Is] at hk
     obtain ⟨-, ⟨k9, cp9, h6, hf8⟩⟩ := hk
     simp only [h6] at hK ⊢
     have H6 := Yh h6; clear h6
     obtain rfl := hn 1 rfl
     obtain ⟨gn, h8, gb, gl, hB⟩ := NewC.one (show NewC _ _ _ 1 [u 8, u 6] wq from hN)
     simp only [h8] at hK ⊢
     have H8 := Yh h8; clear h8
     have hc9 := hB.cell; have hf9 := hB.frozen
     have hst9 := run_storeF (P := Tryz.prog) (i := 1) (v := .func (.func k9) #[] cp9) (hB.set_ 0 (.int .i64 c.count)) rfl rfl
     have hB2 := setAll_blk [.int .i64 c.count, .func (.func k9) #[] cp9] 0 wq _ hB
     simp only [setArr, lst, ls0, ls1, Nat.zero_add, Nat.reduceAdd] at hB2
     go_simp
     exact hK _ undef (setAll wq gn 0 [.int .i64 c.count, .func (.func k9) #[] cp9]) rfl ⟨setAll_below gb [.int .i64 c.count, .func (.func k9) #[] cp9] 0 wq hP, (show NewC _ _ _ 2 [u 8, u 6] _ from by rw [H8.out, H6.out]; exact NewC.stored gb hB2)⟩ (.of_past (X := [gn]) (setAll_pastX Ys [.int .i64 c.count, .func (.func k9) #[] cp9] 0 wq (Past.refl _ _)) (fun k hk => by simp at hk; subst hk; exact ⟨Nat.zero_le _, _, _, _, hB, by simp⟩)) trivial
    refine zq0 ?_
    exact Yw
   ·intro u wz hC hF
    obtain ⟨hP, hN⟩ := hC
    obtain ⟨g9, cs9, h8, hg9, h6, hB9⟩ := NewC.last (show NewC _ _ _ 2 [u 8, u 6] wz from hN)
    clear hN
    simp only [calmFacts, Is, and_true, true_and] at hF
    obtain ⟨-, -, -, -, -, -, ⟨k9, cp9, h6', hf9⟩, h7', h10'⟩ := hF
    rw [h6] at h6'
    obtain rfl : cs9 = _ := by injection h6'
    simp only [h8, h7', h10']
    clear h8 h6 h6' h7' h10'
    have HB9 := Yh hB9; have HP := Yh hP
    have c9 := hB9.cell; have l9 := hB9.lt
    have ZP := hP.size
    have HF9 := Yh hf9
    clear hf9 hB9 hP
    have htl : ws.tail.length = c.count := by rw [List.length_tail, hwl]; omega
    have HTL := Yh htl; clear htl
    have hcp : 1 ≤ c.count := by cases c <;> decide
    have hcz : c.count ≠ 0 := by omega
    have hcz2 : (c.count == 0) = false := by simpa using hcz
    have hcz3 : decide (c.count = 0) = false := by simpa using hcz
    go_wp2
    obtain ⟨uu, huu⟩ : ∃ uu : Nat → Value, uu = u := ⟨_, rfl⟩
    rw [← huu]
    clear huu
    clear c9
    go_loopg [7, 33] c.count (fun G v i wr => ExecRel wz ws.tail c.count G v i wr)
    case atStart => exact ⟨0, none, 0, [], Yo, Yo, rfl, rfl, rfl, rfl, World.ownsRow_nil _ _ _ _, Below.refl _ _⟩
    case round =>
     obtain ⟨q, A, cq, zs, hq, rfl, rfl, rfl, hzl, hzs, hrow, KR⟩ := hrel
     have ZR := KR.size
     have HKR := Yh KR; have HZL := Yh hzl; have HZS := Yh hzs; have HRW := Yh hrow
     have PR := Yh (HPW.out.below (Yc KR HP.out))
     have bW := Yk KR (Yk HP.out HWB.out)
     clear hzl hzs hrow KR
     by_cases hlt : q < c.count
     ·have gp : decide ((q : Int) < (c.count : Int)) = true := Y2
      have gpn : decide (q < c.count) = true := decide_eq_true hlt
      have wp : IntKind.i64.wrap ((q : Int) + 1) = ((q + 1 : Nat) : Int) := Y4
      obtain ⟨x, hx⟩ : ∃ x, ws.getD (q + 1) [] = x := ⟨_, rfl⟩
      have hxt : ws.tail.getD q [] = x := by rw [← hx]; cases ws with
       | nil => simp at hwl
       | cons a l => simp
      have hxm : x ∈ ws.tail := by rw [← hxt, Y8, Y9 (by rw [HTL.out]; exact hlt)]; exact List.getElem_mem _
      obtain ⟨hx18, n9, hn9⟩ := HG.out x hxm
      have hcx : curW[q + 1]? = some (strV x) := by rw [← hx]; exact HWC.out (q + 1) Yo
      have c1 : wr.cell? ⟨gW, q + 1, none⟩ = some (.string ⟨x.toArray⟩) := (bW.cell (q + 1)).trans hcx
      have c2 : wr.cell? ⟨gW, 1 + q, none⟩ = some (.string ⟨x.toArray⟩) := by rw [Nat.add_comm]; exact c1
      have lW := bW.lt
      have HXT := Yh hxt; have HXI := Yh (intW_of hx18 hn9)
      have RI := Yh (fun W hW => integer_any ⟨x.toArray⟩ n9 W (by show x.toArray.size ≤ 18; simpa using hx18) (by show atoi x.toArray.toList = _; simpa using hn9) hW)
      clear hxt hxm hx18 hn9 hcx hx bW
      go_wp2_with fail
      refine (RI.out _ PR.out.1).mono ?_
      rintro e w3 ⟨rfl, hb3⟩
      have HB3 := Yh hb3; have Z3 := hb3.size
      clear c1 c2 lW RI hb3
      have hbq : (itoa n9 == (⟨x.toArray⟩ : ByteArray).data.toList) = (itoa n9 == x) := by rfl
      cases hbx : (itoa n9 == x) with
      | true =>
       rw [hbx] at hbq
       have hxi : intW x = some n9 := by rw [HXI.out, hbx, if_pos rfl]
       have HXJ := Yh hxi
       clear hxi hbx HXI
       obtain ⟨i0, hif, hz0, hz1, hz2⟩ := info_parts infoInt
       have hrow3 : RowN w3 wz.heap.size (.slice A q cq) zs := RowN.below HRW.out HB3.out
       have hrl := World.ownsRow.lt hrow3
       have hown : w3.ownsRow wz.heap.size 3 1 (.slice A q cq) q (zs.map (Value.int .i64)) := by have h9 := hrow3; unfold RowN at h9; rw [HZL.out] at h9; exact h9
       generalize hv9 : (Value.slice A q cq) = v9 at *
       have HV9 := Yh hv9; clear hv9 hrow3 HRW
       go_wp2_with (at_builtin; refine wpList_append_own _ rfl _ _ 22 rfl wz.heap.size 3 i0 (.int .i64 0) 1 8 Tryz.underlying22 hif hz0 hz1 hz2 rfl Yd _ _ _ rfl (hown.alloc _) ⟨w3.heap.size, 0, none⟩ 1 1 [.int .i64 n9] rfl rfl ?c1 ?c2 ?c3 ?c4 ?c5 ?_)
       case c1 =>
        intro j u hj
        match j, hj with
        | 0, hj => simp at hj; subst hj; simp [Addr.add]
       case c2 => intro u hu; simp at hu; subst hu; rfl
       case c3 => unfold maxLen; omega
       case c4 => omega
       case c5 => simp; omega
       intro v' w4 hown' hgrow _
       have K4 : Below wz.heap.size wz w4 := ((Yc HB3.out HKR.out).alloc Yo _).grown hgrow (by simp; omega) (fun k hk => (hrl k hk).1)
       obtain ⟨A', c', rfl⟩ : ∃ A' c', v' = .slice A' (q + 1) c' := by
        rcases hown'.2 with ⟨_, h0⟩ | ⟨g, cap, cur, hv, _⟩
        ·omega
        ·exact ⟨_, _, hv⟩
       have HK4 := Yh K4
       have hrow4 : RowN w4 wz.heap.size (.slice A' (q + 1) c') (zs ++ [n9]) := by
        unfold RowN
        rw [lla, List.length_singleton, HZL.out, List.map_append]; exact hown'
       have HR4 := Yh hrow4
       clear K4 hrow4 hown' hgrow hown hrl hif hz0 hz1 hz2
       go_wp2
       go_roundg (c.count - (q + 1))
       case measure => omega
       case rel =>
        refine ⟨q + 1, A', c', zs ++ [n9], Yo, Yo, by go_num, rfl, by rw [lla, List.length_singleton, HZL.out], ?_, HR4.out, HK4.out⟩
        have htk : ws.tail.take (q + 1) = ws.tail.take q ++ [x] := by
         rw [List.take_add_one, Y9 (by rw [HTL.out]; exact hlt), ← HXT.out, Y8, Y9 (by rw [HTL.out]; exact hlt)]; rfl
        rw [htk]
        exact intsW_snoc _ _ _ _ HZS.out HXJ.out
      | false =>
       rw [hbx] at hbq
       have hxi : intW x = none := by rw [HXI.out, hbx, if_neg Ys]
       have hin : intsW ws.tail = none := intsW_none _ q (by rw [HTL.out]; exact hlt) (by rw [HXT.out]; exact hxi)
       have hr : b.nums sv c c.count (intsW ws.tail) = (b, 29) := by rw [hin]; rfl
       have HR9 := Yh hr
       clear hxi hin hr hbx HXI
       go_wp2
       go_ret
       rw [HR9.out]
       have K4 : Below w.heap.size w w3 := Yc HB3.out (Yc HKR.out HP.out)
       exact ⟨rfl, HH.out.below K4, PastT.below K4⟩
     ·obtain rfl : q = c.count := by omega
      have gp : decide ((c.count : Int) < (c.count : Int)) = false := Y3
      have gpn : decide (c.count < c.count) = false := Y3
      have hzs : intsW ws.tail = some zs := by have h9 := HZS.out; rw [List.take_of_length_le (by rw [HTL.out]; exact Nat.le_refl _)] at h9; exact h9
      have hzv := (intsW_vT _ _ hzs).2
      have hnr : NumsR wr A c.count zs := by have h9 := RowN.nums (by rw [HZL.out]; exact HRW.out : RowN wr wz.heap.size (.slice A zs.length cq) zs); rw [HZL.out] at h9; exact h9
      have HNR := Yh hnr; have HZV := Yh hzv
      have KW := Yc HKR.out HP.out
      have HKW := Yh KW; have HBW := Yh (HH.out.below KW)
      have hr : b.nums sv c c.count (intsW ws.tail) = b.run sv c zs := by rw [hzs]; rfl
      have HR9 := Yh hr
      have hfw := HF9.out.below HKR.out
      have bC := Yk HKR.out HB9.out
      have cC := bC.cell; have lC := bC.lt
      have hzl := HZL.out
      clear hnr hzv hzs KW hr HZS HRW bW bC
      cases c with
      | sources =>
       obtain ⟨z0, z1, rfl⟩ : ∃ z0 z1, zs = [z0, z1] := by
        have h9 : zs.length = 2 := hzl
        match zs, h9 with
        | [z0, z1], _ => exact ⟨_, _, rfl⟩
       injection hfw with e1 e2 e3
       injection e1 with e1
       subst e1; subst e3
       clear e2
       have hcn : Cmd.count .sources = 2 := rfl
       clear hcn
       go_wp2_with fail
       refine (sources_any B g b A cq z0 z1 _ HBW.out HNR.out (HZV.out z0 Ys) (HZV.out z1 Ys) PR.out hl).mono ?_
       rintro e9 w5 ⟨rfl, h5, hT5⟩
       go_wp2
       go_ret
       rw [HR9.out]
       exact ⟨rfl, h5, (PastT.below HKW.out).trans hT5⟩
      | drift =>
       obtain ⟨z0, rfl⟩ : ∃ z0, zs = [z0] := by
        have h9 : zs.length = 1 := hzl
        match zs, h9 with
        | [z0], _ => exact ⟨_, rfl⟩
       injection hfw with e1 e2 e3
       injection e1 with e1
       subst e1; subst e3
       clear e2
       have hcn : Cmd.count .drift = 1 := rfl
       clear hcn
       go_wp2_with fail
       refine (drift_any B g b A cq z0 _ HBW.out HNR.out (HZV.out z0 Ys) PR.out hl hs).mono ?_
       rintro e9 w5 ⟨rfl, h5, hT5⟩
       go_wp2
       go_ret
       rw [HR9.out]
       exact ⟨rfl, h5, (PastT.below HKW.out).trans hT5⟩
      | sample =>
       obtain ⟨z0, z1, z2, z3, z4, z5, rfl⟩ : ∃ z0 z1 z2 z3 z4 z5, zs = [z0, z1, z2, z3, z4, z5] := by
        have h9 : zs.length = 6 := hzl
        match zs, h9 with
        | [z0, z1, z2, z3, z4, z5], _ => exact ⟨_, _, _, _, _, _, rfl⟩
       obtain ⟨L, e, hL⟩ := hfw
       injection e with e1 e2 e3
       injection e1 with e1
       subst e1; subst e3
       have HL := Yh hL; clear hL e2
       have hcn : Cmd.count .sample = 6 := rfl
       clear hcn
       go_wp2_with fail
       refine (need_sample B g L b A cq _ _ HBW.out HL.out (sample_any B g b A cq z0 z1 z2 z3 z4 z5 _ HBW.out HNR.out (HZV.out z0 Ys) PR.out hl hs)).mono ?_
       rintro e9 w5 ⟨rfl, h5, hT5⟩
       go_wp2
       go_ret
       rw [HR9.out]
       exact ⟨rfl, h5, (PastT.below HKW.out).trans hT5⟩
      | now =>
       obtain ⟨z0, rfl⟩ : ∃ z0, zs = [z0] := by
        have h9 : zs.length = 1 := hzl
        match zs, h9 with
        | [z0], _ => exact ⟨_, rfl⟩
       obtain ⟨L, e, hL⟩ := hfw
       injection e with e1 e2 e3
       injection e1 with e1
       subst e1; subst e3
       have HL := Yh hL; clear hL e2
       have hcn : Cmd.count .now = 1 := rfl
       clear hcn
       go_wp2_with fail
       refine (need_now B g L b A cq _ _ HBW.out HL.out (now_any B g b A cq z0 _ HBW.out HNR.out PR.out hl hs)).mono ?_
       rintro e9 w5 ⟨rfl, h5, hT5⟩
       go_wp2
       go_ret
       rw [HR9.out]
       exact ⟨rfl, h5, (PastT.below HKW.out).trans hT5⟩
      | read =>
       obtain ⟨z0, z1, rfl⟩ : ∃ z0 z1, zs = [z0, z1] := by
        have h9 : zs.length = 2 := hzl
        match zs, h9 with
        | [z0, z1], _ => exact ⟨_, _, rfl⟩
       obtain ⟨L, e, hL⟩ := hfw
       injection e with e1 e2 e3
       injection e1 with e1
       subst e1; subst e3
       have HL := Yh hL; clear hL e2
       have hcn : Cmd.count .read = 2 := rfl
       clear hcn
       go_wp2_with fail
       refine (need_read B g L b A cq _ _ HBW.out HL.out (bread_any B g b A cq z0 z1 _ HBW.out HNR.out PR.out hl hs)).mono ?_
       rintro e9 w5 ⟨rfl, h5, hT5⟩
       go_wp2
       go_ret
       rw [HR9.out]
       exact ⟨rfl, h5, (PastT.below HKW.out).trans hT5⟩
      | utc =>
       obtain ⟨z0, rfl⟩ : ∃ z0, zs = [z0] := by
        have h9 : zs.length = 1 := hzl
        match zs, h9 with
        | [z0], _ => exact ⟨_, rfl⟩
       injection hfw with e1 e2 e3
       injection e1 with e1
       subst e1; subst e3
       clear e2
       have hcn : Cmd.count .utc = 1 := rfl
       clear hcn
       go_wp2_with fail
       refine (utc_any B g b A cq z0 _ HBW.out HNR.out (HZV.out z0 Ys) PR.out hl).mono ?_
       rintro e9 w5 ⟨rfl, h5, hT5⟩
       go_wp2
       go_ret
       rw [HR9.out]
       exact ⟨rfl, h5, ((PastT.below HKW.out).trans hT5).three⟩
      | save =>
       obtain ⟨z0, z1, z2, rfl⟩ : ∃ z0 z1 z2, zs = [z0, z1, z2] := by
        have h9 : zs.length = 3 := hzl
        match zs, h9 with
        | [z0, z1, z2], _ => exact ⟨_, _, _, rfl⟩
       obtain ⟨L, e, hL⟩ := hfw
       injection e with e1 e2 e3
       injection e1 with e1
       subst e1; subst e3
       have HL := Yh hL; clear hL e2
       have hcn : Cmd.count .save = 3 := rfl
       clear hcn
       go_wp2_with fail
       refine (need_save B g L b A cq _ _ HBW.out HL.out (HSV.out HCM.out B g b A cq z0 z1 z2 _ HBW.out HNR.out (HZV.out z0 Ys) (HZV.out z1 Ys) (HZV.out z2 Ys) PR.out hl hs)).mono ?_
       rintro e9 w5 ⟨rfl, h5, hT5⟩
       go_wp2
       go_ret
       rw [HR9.out]
       exact ⟨rfl, h5, (PastT.below HKW.out).trans hT5⟩
  ·have hr : b.exec sv ws = (b, 29) := by unfold Bn.exec; rw [HW0E.out, HCM.out]; simp only; rw [if_neg (by rw [hwl]; exact hnl)]
   have hcc : c.count ≤ 6 := by cases c <;> decide
   have wl : IntKind.i64.wrap (1 + (c.count : Int)) = 1 + (c.count : Int) := IntWalk.i64_in _ Yo
   have gl : decide ((len : Int) = 1 + (c.count : Int)) = false := Y3
   have gl2 : ((len : Int) == 1 + (c.count : Int)) = false := by simp; omega
   have gl3 : ((len : Int) != 1 + (c.count : Int)) = true := by simp; omega
   rw [hr]
   clear hr hnl
   go_enter Tryz.func33, Tryz.ntmps33
   go_upto_region 1 with fail
   refine' wp_region_calm Yr (fun n us w' => Below w.heap.size w w' ∧ NewC w.heap.size 111 #[.int .i64 0, .nilFunc] n us w') (PastT 0 [111]) [(MapF), Is _, Is _, Is _, (TupF c), (TupF c), (AggF c), Is _, (fun _ _ _ => True), (fun _ _ _ => True), Is _] [[], [], [1], [2], [0, 3], [4], [5], [5], [], [8, 6], [7]] [8, 9] [8, 6] rfl Yr Yp ?_ (kcc keep_mapF (Y1 (Y1 (Y1 (kcc keep_tupF (kcc keep_tupF (kcc keep_aggF (Y1 (Y0 (Y0 (Y1 Yn))))))))))) ?_ ?_
   ·intro _
    exact ⟨Yl.drew, .inl rfl⟩
   rotate_left 5
   ·skip
    refine Yz (fun u wq n hn hn2 hC hk K hK => ?_) ?_
    ·obtain ⟨hP, hN⟩ := hC
     clear hk
     go_wp2_with fail
     refine (commands_any _).mono ?_
     rintro e w2 ⟨m, fs, rfl, hc, hb⟩
     exact hK _ _ _ rfl ⟨Yc hb hP, NewC.keep (b := 0) hN (Past.below hb) Yo⟩ (PastT.below hb) ⟨m, fs, rfl, hc⟩
    iterate 2 refine zq0 ?_
    refine Yz (fun u wq n hn hn2 hC hk K hK => ?_) ?_
    ·obtain ⟨hP, hN⟩ := hC
     simp only [calmKnown, lg0, lg1, and_true, Is] at hk
     have h2 := hk; clear hk
     simp only [h2] at hK ⊢
     have H2 := Yh h2; clear h2
     have bW := Yk hP HWB.out; have z9 : wq.cell? ⟨gW, 0, none⟩ = some (strV w0) := (bW.cell 0).trans HW0.out; have l9 := bW.lt
     unfold strV at z9
     go_simp
     exact hK _ _ _ rfl ⟨hP, hN⟩ (PastT.refl _ _ _) rfl
    refine Yz (fun u wq n hn hn2 hC hk K hK => ?_) ?_
    ·obtain ⟨hP, hN⟩ := hC
     simp only [calmKnown, lg0, lg1, and_true, Is] at hk
     obtain ⟨⟨m, fs, h0, hc⟩, h3⟩ := hk
     simp only [h0, h3] at hK ⊢
     have H0 := Yh h0; clear h0; have H3 := Yh h3; clear h3
     have hlk := run_mapLook (P := Tryz.prog) Tryz.underlying113 Tryz.underlying9 hc.1 w0 _ (cmdOf_some fs HCM.out)
     obtain ⟨k9, cp9, hf9⟩ := (hc.2 c).shape
     have hf8 := hc.2 c
     rw [hf9] at hf8 hlk
     unfold cmdV strV at hlk
     clear hc
     go_simp
     exact hK _ _ _ rfl ⟨hP, hN⟩ (PastT.refl _ _ _) ⟨k9, cp9, rfl, hf8⟩
    refine Yz (fun u wq n hn hn2 hC hk K hK => ?_) ?_
    ·obtain ⟨hP, hN⟩ := hC
     simp only [calmKnown, lg0, lg1, and_true, Is] at hk
     obtain ⟨k9, cp9, h4, hf8⟩ := hk
     simp only [h4] at hK ⊢
     have H4 := Yh h4; clear h4
     go_simp
     exact hK _ _ _ rfl ⟨hP, hN⟩ (PastT.refl _ _ _) ⟨k9, cp9, rfl, hf8⟩
    refine Yz (fun u wq n hn hn2 hC hk K hK => ?_) ?_
    ·obtain ⟨hP, hN⟩ := hC
     simp only [calmKnown, lg0, lg1, and_true, Is] at hk
     obtain ⟨k9, cp9, h5, hf8⟩ := hk
     simp only [h5] at hK ⊢
     have H5 := Yh h5; clear h5
     have hn9 : n ≤ 1 := hn2 1 9 rfl Yr
     go_simp
     exact hK _ _ _ rfl ⟨hP, hN.val hn9⟩ (PastT.refl _ _ _) ⟨k9, cp9, rfl, hf8⟩
    refine Yz (fun u wq n hn hn2 hC hk K hK => ?_) ?_
    ·obtain ⟨hP, hN⟩ := hC
     simp only [calmKnown, lg0, lg1, and_true, Is] at hk
     obtain ⟨k9, cp9, h5, hf8⟩ := hk
     simp only [h5] at hK ⊢
     have H5 := Yh h5; clear h5
     go_simp
     exact hK _ _ _ rfl ⟨hP, hN⟩ (PastT.refl _ _ _) rfl
    refine Yz (fun u wq n hn hn2 hC hk K hK => ?_) ?_
    ·obtain ⟨hP, hN⟩ := hC
     clear hk
     obtain rfl := hn 0 rfl
     go_simp
     exact hK _ _ _ rfl ⟨hP.alloc hP.size _, NewC.made (x := u 6) hP.size⟩ (PastT.below (below_new _ _)) trivial
    refine Yz (fun u wq n hn hn2 hC hk K hK => ?_) ?_
    ·obtain ⟨hP, hN⟩ := hC
     simp only [calmKnown, lg0, lg1, and_true, Is] at hk
     obtain ⟨-, ⟨k9, cp9, h6, hf8⟩⟩ := hk
     simp only [h6] at hK ⊢
     have H6 := Yh h6; clear h6
     obtain rfl := hn 1 rfl
     obtain ⟨gn, h8, gb, gl, hB⟩ := NewC.one (show NewC _ _ _ 1 [u 8, u 6] wq from hN)
     simp only [h8] at hK ⊢
     have H8 := Yh h8; clear h8
     have hc9 := hB.cell; have hf9 := hB.frozen
     have hst9 := run_storeF (P := Tryz.prog) (i := 1) (v := .func (.func k9) #[] cp9) (hB.set_ 0 (.int .i64 c.count)) rfl rfl
     have hB2 := setAll_blk [.int .i64 c.count, .func (.func k9) #[] cp9] 0 wq _ hB
     simp only [setArr, lst, ls0, ls1, Nat.zero_add, Nat.reduceAdd] at hB2
     go_simp
     exact hK _ undef (setAll wq gn 0 [.int .i64 c.count, .func (.func k9) #[] cp9]) rfl ⟨setAll_below gb [.int .i64 c.count, .func (.func k9) #[] cp9] 0 wq hP, (show NewC _ _ _ 2 [u 8, u 6] _ from by rw [H8.out, H6.out]; exact NewC.stored gb hB2)⟩ (.of_past (X := [gn]) (setAll_pastX Ys [.int .i64 c.count, .func (.func k9) #[] cp9] 0 wq (Past.refl _ _)) (fun k hk => by simp at hk; subst hk; exact ⟨Nat.zero_le _, _, _, _, hB, by simp⟩)) trivial
    refine zq0 ?_
    exact Yw
   ·intro u wz hC hF
    obtain ⟨hP, hN⟩ := hC
    obtain ⟨g9, cs9, h8, hg9, h6, hB9⟩ := NewC.last (show NewC _ _ _ 2 [u 8, u 6] wz from hN)
    clear hN
    simp only [calmFacts, Is, and_true, true_and] at hF
    obtain ⟨-, -, -, -, -, -, ⟨k9, cp9, h6', hf9⟩, h7', h10'⟩ := hF
    rw [h6] at h6'
    obtain rfl : cs9 = _ := by injection h6'
    simp only [h8, h7', h10']
    clear h8 h6 h6' h7' h10'
    have HB9 := Yh hB9; have HP := Yh hP
    have c9 := hB9.cell; have l9 := hB9.lt
    have ZP := hP.size
    have HF9 := Yh hf9
    clear hf9 hB9 hP
    go_wp2
    go_ret
    exact ⟨rfl, HH.out.below HP.out, PastT.below HP.out⟩
def InvW (b : Bn) (r : Bn × Int) : Prop := r.1.out.length ≤ b.out.length + 200 ∧ r.1.srcs.length ≤ 64
theorem inv_say {b : Bn} (b0 : Bn) (word : List UInt8) (ns : List Int) (e : Int) (ho : b0.out = b.out) (hs : b0.srcs.length ≤ 64) (hw : word.length ≤ 100) (hn : ∀ n ∈ ns, smallI n) (hl : ns.length ≤ 3) : InvW b (b0.say word ns, e) := by
 refine ⟨?_, hs⟩
 show (b0.out ++ sayL word ns).length ≤ _
 have := sayL_len (word := word) hn
 rw [ho, lla]; omega
theorem inv_id {b : Bn} {e : Int} (hs : b.srcs.length ≤ 64) : InvW b (b, e) := ⟨by simp, hs⟩
theorem inv_tell {b : Bn} {e : Int} (hs : b.srcs.length ≤ 64) (he : errI e) : InvW b (b.tell e) := inv_say b _ _ _ rfl hs Yd (fun n hn => by simp at hn; rw [hn]; exact he.small) Ys
theorem inv_sources (b : Bn) (n f : Int) (hs : b.srcs.length ≤ 64) (hn : vT n = true) (hf : vT f = true) : InvW b (b.sources n f) := by
 unfold Bn.sources
 split
 ·exact inv_say _ _ _ _ rfl (by simp; omega) Yd (fun m hm => by simp at hm; rcases hm with rfl | rfl; exact smallI_vT hn; exact smallI_vT hf) Ys
 ·exact inv_id hs
theorem inv_drift (b : Bn) (p : Int) (hs : b.srcs.length ≤ 64) (hp : vT p = true) : InvW b (b.drift p) := by
 unfold Bn.drift
 split
 ·exact inv_id hs
 ·split
  ·exact inv_say _ _ _ _ rfl hs Yd (fun m hm => by simp at hm; rw [hm]; exact smallI_vT hp) Ys
  ·exact inv_id hs
theorem inv_sample (b : Bn) (i t1 t2 t3 t4 er : Int) (hs : b.srcs.length ≤ 64) (hi : vT i = true) : InvW b (b.sample i t1 t2 t3 t4 er) := by
 unfold Bn.sample
 split
 ·have hb := atT_b t1 t2 t3 t4 er b.p
  unfold Bn.heard
  split
  ·unfold Bn.took
   split
   ·refine inv_say _ _ _ _ rfl ?_ ?_ (fun m hm => by simp at hm; rcases hm with rfl | rfl | rfl; exact smallI_vT hi; exact hb.2.1; exact hb.2.2) Ys
    ·show (b.srcs.set _ _).length ≤ 64
     rw [List.length_set]; exact hs
    ·split <;> decide
   ·exact inv_tell hs (learnK_b _ _ _ _ _)
  ·exact inv_tell hs hb.1
 ·exact inv_id hs
theorem inv_now (b : Bn) (u : Int) (hs : b.srcs.length ≤ 64) : InvW b (b.now u) := by
 have hb := mgO_b (knowns b.srcs) u b.li
 unfold Bn.now Bn.nowT
 split
 ·rename_i h0
  have hv := vS_small (hb.2 h0)
  exact inv_say _ _ _ _ rfl hs Yd (fun m hm => by simp at hm; rcases hm with rfl | rfl; exact hv.1; exact hv.2) Ys
 ·exact inv_tell hs hb.1
theorem inv_read (b : Bn) (aim u : Int) (hs : b.srcs.length ≤ 64) : InvW b (b.read aim u) := by
 have hb := mgO_b (knowns b.srcs) u b.li
 unfold Bn.read Bn.readT
 split
 ·split
  ·rename_i h0 h1
   have hsh := shown_b h1
   have hl := itoa_length_le _ hsh.1 hsh.2
   unfold Bn.shows
   refine inv_say _ _ _ _ rfl hs ?_ (fun m hm => by simp at hm) Ys
   split <;> simp [wClock, wHeld, wFree] <;> omega
  ·exact inv_tell hs (rdE_b _ _ _ _)
 ·exact inv_tell hs hb.1
theorem inv_utc (b : Bn) (t : Int) (hs : b.srcs.length ≤ 64) (ht : vT t = true) : InvW b (b.utc t) := by
 have hb := vT_true.1 ht
 have hfl : (fmtS t).length ≤ 60 := by
  have h1 := fmt_len t Yo Yo
  simp only [fmtS, lla, Lib.repeatL_length]; simp; omega
 unfold Bn.utc
 exact inv_say _ _ _ _ rfl hs (by simp [wUtc]; omega) (fun m hm => by simp at hm) Ys
def SaveInv (sv : Sv) : Prop := ∀ (b : Bn) (n0 n1 n2 : Int), b.srcs.length ≤ 64 → vT n0 = true → vT n1 = true → vT n2 = true → InvW b (sv b n0 n1 n2)
theorem inv_run (sv : Sv) (b : Bn) (c : Cmd) (ns : List Int) (hs : b.srcs.length ≤ 64) (hsv : c = .save → SaveInv sv) (hl : ns.length = c.count) (hv : ∀ n ∈ ns, vT n = true) : InvW b (b.run sv c ns) := by
 have hg : ∀ j, j < c.count → vT (ns.getD j 0) = true := fun j hj => by
  rw [Y8, Y9 Yo]
  exact hv _ (List.getElem_mem _)
 cases c with
 | sources => exact inv_sources b _ _ hs (hg 0 Yd) (hg 1 Yd)
 | drift => exact inv_drift b _ hs (hg 0 Yd)
 | utc => exact inv_utc b _ hs (hg 0 Yd)
 | sample =>
  rw [show b.run sv .sample ns = if b.begun then b.sample (ns.getD 0 0) (ns.getD 1 0) (ns.getD 2 0) (ns.getD 3 0) (ns.getD 4 0) (ns.getD 5 0) else (b, 7) from rfl]
  split
  ·exact inv_sample b _ _ _ _ _ _ hs (hg 0 Yd)
  ·exact inv_id hs
 | now =>
  rw [show b.run sv .now ns = if b.begun then b.now (ns.getD 0 0) else (b, 7) from rfl]
  split
  ·exact inv_now b _ hs
  ·exact inv_id hs
 | read =>
  rw [show b.run sv .read ns = if b.begun then b.read (ns.getD 0 0) (ns.getD 1 0) else (b, 7) from rfl]
  split
  ·exact inv_read b _ _ hs
  ·exact inv_id hs
 | save =>
  rw [show b.run sv .save ns = if b.begun then sv b (ns.getD 0 0) (ns.getD 1 0) (ns.getD 2 0) else (b, 7) from rfl]
  split
  ·exact hsv rfl b _ _ _ hs (hg 0 Yd) (hg 1 Yd) (hg 2 Yd)
  ·exact inv_id hs
theorem inv_exec (sv : Sv) (b : Bn) (ws : List (List UInt8)) (hs : b.srcs.length ≤ 64) (hsv : cmdOf (ws.getD 0 []) = some .save → SaveInv sv) : InvW b (b.exec sv ws) := by
 unfold Bn.exec
 cases hc : cmdOf (ws.getD 0 []) with
 | none => exact inv_id hs
 | some c =>
  simp only
  split
  ·rename_i hl
   unfold Bn.nums
   cases hi : intsW ws.tail with
   | none => exact inv_id hs
   | some ns =>
    obtain ⟨h1, h2⟩ := intsW_vT _ _ hi
    exact inv_run sv b c ns hs (fun e => hsv (by rw [hc, e])) (by rw [h1, List.length_tail, hl]; omega) h2
  ·exact inv_id hs
theorem wordsGo_ne : ∀ (l cur : List UInt8), ∀ x ∈ wordsGo cur l, x ≠ []
 | [], cur, x, h => by
  unfold wordsGo at h
  split at h
  ·simp at h
  ·rename_i hc; simp at h; rw [h]; exact hc
 | b :: l, cur, x, h => by
  unfold wordsGo at h
  split at h
  ·split at h
   ·exact wordsGo_ne l [] x h
   ·rename_i hc
    rcases List.mem_cons.1 h with rfl | h
    ·exact hc
    ·exact wordsGo_ne l [] x h
  ·exact wordsGo_ne l _ x h
theorem wordsGo_len : ∀ (l cur : List UInt8), (wordsGo cur l).length ≤ l.length + 1
 | [], cur => by unfold wordsGo; split <;> simp
 | b :: l, cur => by
  unfold wordsGo
  have h1 := wordsGo_len l []
  have h2 := wordsGo_len l (cur ++ [b])
  split
  ·split
   ·simp; omega
   ·simp; omega
  ·simp; omega
theorem cutAt_len (c : UInt8) : ∀ (l : List UInt8), ∀ x ∈ cutAt c l, x.length ≤ l.length
 | [], x, h => by simp [cutAt] at h; simp [h]
 | b :: l, x, h => by
  have ih := cutAt_len c l
  unfold cutAt at h
  split at h
  ·rcases List.mem_cons.1 h with rfl | h
   ·simp
   ·have := ih x h; simp; omega
  ·split at h
   ·simp at h; subst h; simp
   ·rename_i y ys hy
    rcases List.mem_cons.1 h with rfl | h
    ·have := ih y (by rw [hy]; simp); simp; omega
    ·have := ih x (by rw [hy]; simp [h]); simp; omega
theorem PowB.of {w : World} (h : Pow10 w) : PowB w.heap.size w := by
 refine ⟨h, Nat.le_refl _, ?_⟩
 unfold Pow10 TabIs at h
 simp only [World.var?, pow10_global, Option.bind_some] at h
 rcases Nat.lt_or_ge 7 w.heap.size with h1 | h1
 ·exact h1
 ·simp [Array.getElem?_eq_none h1] at h
def GoodL (sv : Sv) (l : List UInt8) : Prop := (∀ b ∈ l, b.toNat < 128) ∧ (noteW (wordsGo [] l) = false → ∀ x ∈ (wordsGo [] l).tail, x.length ≤ 18 ∧ ∃ n, atoi x = some n) ∧ (cmdOf ((wordsGo [] l).getD 0 []) = some .save → SaveOk sv ∧ SaveInv sv)
theorem lines_note {sv : Sv} {b : Bn} {q : Nat} {l : List UInt8} {ls : List (List UInt8)} (h : noteW (wordsGo [] l) = true) : Bn.lines sv b q (l :: ls) = Bn.lines sv b (q + 1) ls := by
 rw [Bn.lines, if_pos h]
theorem lines_go {sv : Sv} {b : Bn} {q : Nat} {l : List UInt8} {ls : List (List UInt8)} (h : noteW (wordsGo [] l) = false) (he : (b.exec sv (wordsGo [] l)).2 = 0) : Bn.lines sv b q (l :: ls) = Bn.lines sv (b.exec sv (wordsGo [] l)).1 (q + 1) ls := by
 rw [Bn.lines, if_neg (by rw [h]; simp), if_pos he]
theorem lines_bad {sv : Sv} {b : Bn} {q : Nat} {l : List UInt8} {ls : List (List UInt8)} (h : noteW (wordsGo [] l) = false) (he : (b.exec sv (wordsGo [] l)).2 ≠ 0) : Bn.lines sv b q (l :: ls) = ([], (q : Int) + 1, (b.exec sv (wordsGo [] l)).2) := by
 rw [Bn.lines, if_neg (by rw [h]; simp), if_neg he]
theorem digit_val (d : Nat) (h : d < 10) : digitVal (UInt8.ofNat (48 + d)) = some d := by
 have e : (UInt8.ofNat (48 + d)).toNat = 48 + d := by simp; omega
 unfold digitVal
 rw [e, if_pos Yo]; simp
theorem decFrom_app (d : Nat) (h : d < 10) : ∀ (l : List UInt8) (acc : Nat), decFrom acc (l ++ [UInt8.ofNat (48 + d)]) = (decFrom acc l).map (fun m => m * 10 + d)
 | [], acc => by simp only [List.nil_append, decFrom, digit_val d h, Option.map_some]
 | b :: l, acc => by
  rw [List.cons_append, decFrom, decFrom]
  cases digitVal b with
  | none => rfl
  | some e => exact decFrom_app d h l _
theorem decFrom_dec (u : Nat) : decFrom 0 (decDigits u) = some u := by
 induction u using Nat.strongRecOn with
 | _ u ih =>
  rw [decDigits]
  by_cases h : u < 10
  ·rw [dif_pos h, decFrom, digit_val u h]; simp [decFrom]
  ·rw [dif_neg h, decFrom_app _ Yo, ih (u / 10) Yo]
   simp; omega
theorem dec_chars (u : Nat) : ∀ c ∈ decDigits u, 48 ≤ c.toNat ∧ c.toNat ≤ 57 := by
 induction u using Nat.strongRecOn with
 | _ u ih =>
  intro c hc
  rw [decDigits] at hc
  by_cases h : u < 10
  ·rw [dif_pos h] at hc
   simp at hc
   subst hc
   simp; omega
  ·rw [dif_neg h] at hc
   rcases List.mem_append.1 hc with hc | hc
   ·exact ih (u / 10) Yo c hc
   ·simp at hc
    subst hc
    simp; omega
theorem dec_ne (u : Nat) : decDigits u ≠ [] := by
 rw [decDigits]; split <;> simp
theorem atoi_itoa (n : Int) : atoi (itoa n) = some n := by
 unfold itoa
 by_cases h : n < 0
 ·rw [if_pos h]
  simp only [atoi]
  rw [if_pos Yd]
  unfold decNat
  rw [if_neg (by simpa using dec_ne _), decFrom_dec]
  simp; omega
 ·rw [if_neg h]
  have hd := decFrom_dec n.toNat
  have hc := dec_chars n.toNat
  have hn := dec_ne n.toNat
  cases hl : decDigits n.toNat with
  | nil => exact absurd hl hn
  | cons b r =>
   rw [hl] at hd hc
   have hb := hc b Ys
   have n1 : (b == 45) = false := by rw [beq_eq_false_iff_ne]; rintro rfl; simp at hb
   have n2 : (b == 43) = false := by rw [beq_eq_false_iff_ne]; rintro rfl; simp at hb
   simp only [atoi, n1, n2, Bool.false_eq_true, if_false]
   unfold decNat
   rw [if_neg Ys, hd]
   simp; omega
theorem itoa_chars (n : Int) : ∀ c ∈ itoa n, c.toNat < 128 ∧ c ≠ 10 ∧ c ≠ 32 := by
 intro c hc
 unfold itoa at hc
 have key : ∀ u, c ∈ decDigits u → c.toNat < 128 ∧ c ≠ 10 ∧ c ≠ 32 := fun u hu => by
  have := dec_chars u c hu
  refine ⟨Yo, ?_, ?_⟩ <;> (rintro rfl; simp at this)
 split at hc
 ·rcases List.mem_cons.1 hc with rfl | hc
  ·decide
  ·exact key _ hc
 ·exact key _ hc
theorem itoa_ne (n : Int) : itoa n ≠ [] := by
 unfold itoa; split
 ·simp
 ·exact dec_ne _
def small17 (n : Int) : Prop := -100000000000000000 < n ∧ n < 100000000000000000
theorem itoa_18 {n : Int} (h : small17 n) : (itoa n).length ≤ 18 := (itoa_len n 17 (by have := h.1; omega) (by have := h.2; omega) Yo).1
theorem intW_itoa {n : Int} (h : small17 n) : intW (itoa n) = some n := by
 unfold intW
 rw [atoi_itoa]
 simp only [true_and]
 rw [if_pos (vT_true.2 ⟨by have := h.1; omega, by have := h.2; omega⟩)]
theorem intsW_itoa : ∀ {ns : List Int}, (∀ n ∈ ns, small17 n) → intsW (ns.map itoa) = some ns
 | [], _ => rfl
 | n :: ns, h => by
  rw [lm1, intsW, intW_itoa (h n Ys)]
  simp only
  rw [intsW_itoa (fun m hm => h m (by simp [hm]))]
def lnW (word : List UInt8) (ns : List Int) : List UInt8 := word ++ ns.flatMap numL
theorem wordsGo_nums : ∀ (ns : List Int) (cur : List UInt8), cur ≠ [] → wordsGo cur (ns.flatMap numL) = cur :: ns.map itoa
 | [], cur, h => wordsGo_end cur h
 | n :: ns, cur, h => by
  rw [List.flatMap_cons, numL, List.cons_append, wordsGo_blank cur _ h, wordsGo_word _ _ _ (fun hm => (itoa_chars n _ hm).2.2 rfl), List.nil_append, wordsGo_nums ns (itoa n) (itoa_ne n), lm1]
theorem words_ln (word : List UInt8) (ns : List Int) (h : word ≠ []) (hw : (32 : UInt8) ∉ word) : wordsGo [] (lnW word ns) = word :: ns.map itoa := by
 unfold lnW
 rw [wordsGo_word _ _ _ hw, List.nil_append, wordsGo_nums ns word h]
theorem exec_ln (sv : Sv) (b : Bn) (c : Cmd) (ns : List Int) (hl : ns.length = c.count) (hs : ∀ n ∈ ns, small17 n) : b.exec sv (c.word :: ns.map itoa) = b.run sv c ns := by
 have hc : cmdOf c.word = some c := by cases c <;> rfl
 unfold Bn.exec
 rw [ld0, hc]
 simp only
 rw [if_pos (by simp [hl]; omega), List.tail_cons, intsW_itoa hs]
 rfl
theorem word_chars (c : Cmd) : c.word ≠ [] ∧ ∀ x ∈ c.word, x.toNat < 128 ∧ x ≠ 10 ∧ x ≠ 32 ∧ x ≠ 35 := by
 cases c <;> decide
theorem ln_chars (c : Cmd) (ns : List Int) : ∀ x ∈ lnW c.word ns, x.toNat < 128 ∧ x ≠ 10 := by
 intro x hx
 unfold lnW at hx
 rcases List.mem_append.1 hx with hx | hx
 ·exact ⟨((word_chars c).2 x hx).1, ((word_chars c).2 x hx).2.1⟩
 ·obtain ⟨n, _, hn⟩ := List.mem_flatMap.1 hx
  unfold numL at hn
  rcases List.mem_cons.1 hn with rfl | hn
  ·decide
  ·exact ⟨(itoa_chars n x hn).1, (itoa_chars n x hn).2.1⟩
theorem words_cmd (c : Cmd) (ns : List Int) : wordsGo [] (lnW c.word ns) = c.word :: ns.map itoa := words_ln _ _ (word_chars c).1 (fun h => ((word_chars c).2 _ h).2.2.1 rfl)
theorem note_cmd (c : Cmd) (ns : List Int) : noteW (wordsGo [] (lnW c.word ns)) = false := by
 rw [words_cmd]; cases c <;> rfl
theorem goodL_cmd (sv : Sv) (c : Cmd) (ns : List Int) (hc : c ≠ .save) (hs : ∀ n ∈ ns, small17 n) : GoodL sv (lnW c.word ns) := by
 refine ⟨fun x hx => (ln_chars c ns x hx).1, ?_, ?_⟩
 ·rw [words_cmd, List.tail_cons]
  intro _ x hx
  obtain ⟨n, hn, rfl⟩ := List.mem_map.1 hx
  exact ⟨itoa_18 (hs n hn), n, atoi_itoa n⟩
 ·rw [words_cmd, ld0, show cmdOf c.word = some c by cases c <;> rfl]
  intro e; injection e with e; exact absurd e hc
theorem lines_cmd (sv : Sv) (b : Bn) (q : Nat) (c : Cmd) (ns : List Int) (ls : List (List UInt8)) (hl : ns.length = c.count) (hs : ∀ n ∈ ns, small17 n) (he : (b.run sv c ns).2 = 0) : Bn.lines sv b q (lnW c.word ns :: ls) = Bn.lines sv (b.run sv c ns).1 (q + 1) ls := by
 have e := exec_ln sv b c ns hl hs
 rw [lines_go (note_cmd c ns) (by rw [words_cmd, e]; exact he), words_cmd, e]
theorem script_lns (sv : Sv) (ls : List (List UInt8)) (h0 : ls ≠ []) (hc : ∀ l ∈ ls, (10 : UInt8) ∉ l) : cutAt 10 (trimSuffix (lnsT ls) [10]) = ls := by
 obtain ⟨xs, x, rfl⟩ : ∃ xs x, ls = xs ++ [x] := ⟨ls.dropLast, ls.getLast h0, (List.dropLast_concat_getLast h0).symm⟩
 rw [trim_lns, cut_lns xs x (fun l hl => hc l (by simp [hl])) (hc x Ys)]
def wakeT (k : K6) (n0 n1 n2 : Int) : Int × Int × Int :=
 if kE k.at_ k.lo k.hi k.pp k.le k.re = 0 then (if 0 ≤ n0 then (if vS n1 n2 = true then (if 0 ≤ n1 then (if vS (k.lo + n1) (k.hi + n2) = true then (k.lo + n1, k.hi + n2, 0) else (0, 0, 4)) else (0, 0, 4)) else (0, 0, 3)) else (0, 0, 4)) else (0, 0, kE k.at_ k.lo k.hi k.pp k.le k.re)
def firstK : List Kw → Option K6
 | [] => none
 | (true, k) :: _ => some k
 | (false, _) :: l => firstK l
def wakeO : Option K6 → Int → Int → Int → Int × Int × Int
 | none, _, _, _ => (0, 0, 10)
 | some k, n0, n1, n2 => wakeT k n0 n1 n2
def Bn.wokeT (b : Bn) (r : Int × Int × Int) : Bn × Int := if r.2.2 = 0 then (b.say wWake [r.1, r.2.1], 0) else b.tell r.2.2
def svB : Sv := fun b n0 n1 n2 => b.wokeT (wakeO (firstK b.srcs) n0 n1 n2)
theorem wakeT_b (k : K6) (n0 n1 n2 : Int) : errI (wakeT k n0 n1 n2).2.2 ∧ smallI (wakeT k n0 n1 n2).1 ∧ smallI (wakeT k n0 n1 n2).2.1 := by
 unfold wakeT
 split
 ·split
  ·split
   ·split
    ·split
     ·rename_i h; exact ⟨errC 0 Yo, (vS_small h).1, (vS_small h).2⟩
     ·exact ⟨errC 4 Yo, smallZ, smallZ⟩
    ·exact ⟨errC 4 Yo, smallZ, smallZ⟩
   ·exact ⟨errC 3 Yo, smallZ, smallZ⟩
  ·exact ⟨errC 4 Yo, smallZ, smallZ⟩
 ·exact ⟨kE_b _ _ _ _ _ _, smallZ, smallZ⟩
theorem wakeO_b (k : Option K6) (n0 n1 n2 : Int) : errI (wakeO k n0 n1 n2).2.2 ∧ smallI (wakeO k n0 n1 n2).1 ∧ smallI (wakeO k n0 n1 n2).2.1 := by
 cases k with
 | none => exact ⟨errC 10 Yo, smallZ, smallZ⟩
 | some k => exact wakeT_b k n0 n1 n2
theorem svB_inv : SaveInv svB := fun b n0 n1 n2 hs _ _ _ => by
 have hb := wakeO_b (firstK b.srcs) n0 n1 n2
 show InvW b (b.wokeT _)
 unfold Bn.wokeT
 split
 ·exact inv_say _ _ _ _ rfl hs Yd (fun m hm => by simp at hm; rcases hm with rfl | rfl; exact hb.2.1; exact hb.2.2) Ys
 ·exact inv_tell hs hb.1
def NumW (x : List UInt8) : Prop := (∃ n, small17 n ∧ x = itoa n) ∨ x = [48, 48, 55]
theorem NumW.old {x : List UInt8} (h : NumW x) : x.length ≤ 18 ∧ ∃ n, atoi x = some n := by
 rcases h with ⟨n, hn, rfl⟩ | rfl
 ·exact ⟨itoa_18 hn, n, atoi_itoa n⟩
 ·exact ⟨by decide, 7, rfl⟩
def ScL (l : List UInt8) : Prop := (∀ b ∈ l, b.toNat < 128) ∧ (10 : UInt8) ∉ l ∧ l.length ≤ 200 ∧ (noteW (wordsGo [] l) = false → ∀ x ∈ (wordsGo [] l).tail, NumW x)
theorem scL_cmd (c : Cmd) (ns : List Int) (hs : ∀ n ∈ ns, small17 n) (hl : ns.length ≤ 6) : ScL (lnW c.word ns) := by
 refine ⟨fun x hx => (ln_chars c ns x hx).1, fun h => (ln_chars c ns _ h).2 rfl, ?_, ?_⟩
 ·have hf : ∀ zs : List Int, (∀ n ∈ zs, small17 n) → (zs.flatMap numL).length ≤ 19 * zs.length := fun zs => by
   induction zs with
   | nil => intro _; simp
   | cons z zs ih =>
    intro hz
    have h1 := itoa_18 (hz z Ys)
    have h2 := ih (fun n hn => hz n (by simp [hn]))
    rw [List.flatMap_cons, lla, numL, List.length_cons, List.length_cons]; omega
  have h1 := hf ns hs
  have h2 : c.word.length ≤ 7 := by cases c <;> decide
  unfold lnW; rw [lla]; omega
 ·rw [words_cmd, List.tail_cons]
  intro _ x hx
  obtain ⟨n, hn, rfl⟩ := List.mem_map.1 hx
  exact .inl ⟨n, hs n hn, rfl⟩
theorem ScL.good {sv : Sv} {l : List UInt8} (h : ScL l) (h1 : SaveOk sv) (h2 : SaveInv sv) : GoodL sv l := ⟨h.1, fun hn x hx => (h.2.2.2 hn x hx).old, fun _ => ⟨h1, h2⟩⟩
theorem lns_len : ∀ {ls : List (List UInt8)}, (∀ l ∈ ls, ScL l) → (lnsT ls).length ≤ 201 * ls.length
 | [], _ => by simp [lnsT]
 | l :: ls, h => by
  have h1 := (h l Ys).2.2.1
  have h2 := lns_len (ls := ls) (fun x hx => h x (by simp [hx]))
  rw [lnsT, lla, List.length_cons, List.length_cons]; omega
theorem script_of (sv : Sv) {ls : List (List UInt8)} (h : ∀ l ∈ ls, ScL l) (h0 : ls ≠ []) (hl : ls.length ≤ 20) : cutAt 10 (trimSuffix (lnsT ls) [10]) = ls ∧ scriptV sv (lnsT ls) = Bn.lines sv .zero 0 ls := by
 have hc := script_lns sv ls h0 (fun l hl => (h l hl).2.1)
 have hn := lns_len h
 refine ⟨hc, ?_⟩
 unfold scriptV
 rw [hc, if_neg Yo, if_neg Yo]
end Go.Proofs.YtiinmhfolfgobaaGreatDoor
