/- Texts joined: WkE, WkF -/
import Derived.BigQuiet
import Derived.Deep.QuietTactic
import Derived.Test.YtiinmhfolfgobaaGreatDoorJ34
import Derived.Test.YtiinmhfolfgobaaGreatDoorJ32
namespace Go.Proofs.YtiinmhfolfgobaaGreatDoor
open Go.RowKit Go.Lib
set_option linter.unusedSimpArgs false
set_option linter.unusedVariables false

/-- A cell of a bench is stored into. -/
theorem BnAt.store {B g i : Nat} {w : World} {b b' : Bn} {u : Value} (h : BnAt B w g b) (hs : b'.srcs = b.srcs) (ho : b'.out = b.out) (hc : ∀ VL p v, (bnC b VL p v).setIfInBounds i u = bnC b' VL p v) : BnAt B (w.setCell ⟨g, i, none⟩ u) g b' := by
  obtain ⟨hB, VL, p, v, e1, e2, e3, e4⟩ := h
  have hq : Past [g] w (w.setCell ⟨g, i, none⟩ u) := Past.set (by simp) _
  have hT : PastT B [76] w (w.setCell ⟨g, i, none⟩ u) := .of_past hq (fun k hk => by simp at hk; subst hk; exact ⟨hB, _, _, _, e1, by simp⟩)
  exact ⟨hB, VL, p, v, e1.put (hc _ _ _), by rw [hs]; exact e2.pastT hT (by decide), e3, by rw [ho]; exact e4.pastT hT (by decide)⟩
theorem BnAt.setT {B g i : Nat} {w : World} {b : Bn} {u : Value} (h : BnAt B w g b) : PastT B [5, 76] w (w.setCell ⟨g, i, none⟩ u) := by
  obtain ⟨hB, VL, p, v, e1, e2, e3, e4⟩ := h
  exact .of_past (X := [g]) (Past.set (by simp) _) (fun k hk => by simp at hk; subst hk; exact ⟨hB, _, _, _, e1, by simp⟩)
/-- What a line of a command leaves. -/
def LnR (B g : Nat) (w : World) (r : Bn × Int) (e : Ending) (w' : World) : Prop := e = .returned (.int .i64 r.2) ∧ BnAt B w' g r.1 ∧ PastT B [5, 76, 170] w w'
theorem PastT.three {B : Nat} {w w' : World} (h : PastT B [5, 76] w w') : PastT B [5, 76, 170] w w' := h.mono (fun t ht => by simp at ht ⊢; rcases ht with rfl | rfl <;> simp)
def SliceB (X : List Nat) (lo : Nat) (t : TypeId) (n : Nat) (cs : Array Value) : List Value → Value → World → Prop := fun _ v w => ∃ g, v = .slice (some ⟨g, 0, none⟩) n n ∧ g ∉ X ∧ lo ≤ g ∧ Blk w g t cs
theorem keep_sliceB {X : List Nat} {lo : Nat} {t : TypeId} {n : Nat} {cs : Array Value} : ∀ d v w w', Past X w w' → SliceB X lo t n cs d v w → SliceB X lo t n cs d v w' := fun _ _ _ _ h ⟨g, e, hn, hl, hb⟩ => ⟨g, e, hn, hl, h.blk hb hn⟩
theorem Blk.ne {w : World} {a c : Nat} {t t' : TypeId} {x y : Array Value} (h : Blk w a t x) (k : Blk w c t' y) (ht : t ≠ t') : a ≠ c := by
  rintro rfl
  unfold Blk at h k
  rw [h] at k
  injection k with k; injection k with _ e _
  exact ht e
/-- The bench, while 'sources' stores into it. -/
def srcSt (b : Bn) (VL p v : Value) (f : Int) : Nat → List Value → Array Value
  | 0, _ => bnC b VL p v
  | 1, _ => bnC { b with begun := true } VL p v
  | 2, us => bnC { b with begun := true } (us.getD 0 undef) p v
  | 3, us => bnC { b with begun := true, li := f } (us.getD 0 undef) p v
  | 4, us => bnC { b with begun := true, li := f, p := 0 } (us.getD 0 undef) p v
  | _, us => bnC { b with begun := true, li := f, p := 0, ck := .zero } (us.getD 0 undef) p v
theorem infoSrc : (Tryz.prog.info? 170).map (fun i => (i.zero, i.size, i.bytes)) = some (some (.agg #[.bool false, .int .i64 0, .int .i64 0, .int .i64 0, .int .i64 0, .int .i64 0, .int .i64 0]), 7, 56) := by kernel_rfl
theorem NumsR.newE {w : World} {gn : Nat} (zs : List Int) (h : gn = w.heap.size) : NumsR (w.alloc (.cells (zs.map (Value.int .i64)).toArray 3)) (some ⟨gn, 0, none⟩) zs.length zs := h ▸ NumsR.new w zs
def DrRel (w : World) (l : List Kw) (n : Nat) (G : Nat) (i : Value) (wr : World) : Prop := ∃ q, q ≤ n ∧ G = n - q ∧ i = .int .i64 q ∧ (∀ j, j < q → (l.getD j (false, .zero)).1 = false) ∧ Below w.heap.size w wr

set_option maxHeartbeats 8000000 in
set_option maxRecDepth 100000 in
theorem now_any (B g : Nat) (b : Bn) (A : Option Addr) (cap : Nat) (u : Int) (w : World) (h : BnAt B w g b) (hn : NumsR w A 1 [u]) (hpow : PowB B w) (hl : b.out.length ≤ 900000) (hs : b.srcs.length ≤ 64) :
    Calls Tryz.prog 96 #[.pointer (some ⟨g, 0, none⟩), .slice A 1 cap] w (LnR B g w (b.now u)) := by
  have hmb := mgO_b (knowns b.srcs) u b.li
  have RM := Lib.hid (fun W hW => merged_any B g b u W hW hs)
  obtain ⟨gA, rfl, hgA, hcA⟩ := hn.cell 0 (by omega)
  have cA := hcA 0 (by omega)
  rw [show [u].getD 0 0 = u from rfl] at cA
  unfold Bn.now
  obtain ⟨m, hm⟩ : ∃ m, mgO (knowns b.srcs) u b.li = m := ⟨_, rfl⟩
  rw [hm] at hmb ⊢
  replace RM := Lib.hid (fun W hW => hm ▸ RM.out W hW)
  clear hm
  obtain ⟨x, y, er⟩ := m
  obtain ⟨hme, hmv⟩ := hmb
  unfold V3 at RM
  dsimp only at RM hme hmv
  have HH := Lib.hid h; have HPW := Lib.hid hpow; have HME := Lib.hid hme; have HMV := Lib.hid hmv; clear h hpow hcA hn hme hmv
  by_cases her : er = 0
  · subst her
    have hxy := vS_small (HMV.out rfl)
    have hr : b.nowT (x, y, 0) = (b.say wSpan [x, y], 0) := rfl
    rw [hr]
    clear hr
    go_enter Tryz.func96, Tryz.ntmps96
    go_wp2_with fail
    refine (RM.out _ HH.out).mono ?_
    rintro e w1 ⟨rfl, hb1⟩
    have H1 := Lib.hid (HH.out.below hb1); have P1 := Lib.hid (HPW.out.below hb1); have HB1 := Lib.hid hb1
    clear hb1
    go_wp2_with fail
    refine (told_0 g _).mono ?_
    rintro e w2 ⟨rfl, rfl⟩
    go_wp2_with fail
    refine (say_any B g b ⟨#[115, 112, 97, 110]⟩ _ 2 2 [x, y] _ (H1.out.below (by (repeat' (first | (with_reducible exact Below.refl _ _) | (with_reducible refine Below.setCell ?_ ?_ _) | (with_reducible refine Below.alloc ?_ ?_ _) | (with_reducible refine Below.drew ?_) | (with_reducible refine below_drewN ?_ _))) <;> (first | omega | (simp <;> omega)))) (NumsR.newE [x, y] (by first | rfl | (simp; done))) (fun n hn => by simp at hn; rcases hn with rfl | rfl; exact hxy.1; exact hxy.2) (P1.out.below (by (repeat' (first | (with_reducible exact Below.refl _ _) | (with_reducible refine Below.setCell ?_ ?_ _) | (with_reducible refine Below.alloc ?_ ?_ _) | (with_reducible refine Below.drew ?_) | (with_reducible refine below_drewN ?_ _))) <;> (first | omega | (simp <;> omega)))) (by show _ + 4 + 22 * 2 + 1 ≤ _; omega)).mono ?_
    rintro e w3 ⟨rfl, h3, hT3⟩
    go_wp2
    go_ret
    exact ⟨rfl, h3, ((PastT.below (show Below w.heap.size w _ from kept_call (show Below w1.heap.size w1 _ from (by (repeat' (first | (with_reducible exact Below.refl _ _) | (with_reducible refine Below.setCell ?_ ?_ _) | (with_reducible refine Below.alloc ?_ ?_ _) | (with_reducible refine Below.drew ?_) | (with_reducible refine below_drewN ?_ _))) <;> (first | omega | (simp <;> omega)))) HB1.out)).trans hT3).three⟩
  · have g1 : (er == 0) = false := by simpa using her
    have g2 : decide (er = 0) = false := by simpa using her
    have hr : b.nowT (x, y, er) = (b.say wError [er], 0) := if_neg her
    rw [hr]
    clear hr
    go_enter Tryz.func96, Tryz.ntmps96
    go_wp2_with fail
    refine (RM.out _ HH.out).mono ?_
    rintro e w1 ⟨rfl, hb1⟩
    have H1 := Lib.hid (HH.out.below hb1); have P1 := Lib.hid (HPW.out.below hb1); have HB1 := Lib.hid hb1
    clear hb1
    go_wp2_with fail
    refine (told_e B g b er _ (H1.out.below (by (repeat' (first | (with_reducible exact Below.refl _ _) | (with_reducible refine Below.setCell ?_ ?_ _) | (with_reducible refine Below.alloc ?_ ?_ _) | (with_reducible refine Below.drew ?_) | (with_reducible refine below_drewN ?_ _))) <;> (first | omega | (simp <;> omega)))) her HME.out.small (P1.out.below (by (repeat' (first | (with_reducible exact Below.refl _ _) | (with_reducible refine Below.setCell ?_ ?_ _) | (with_reducible refine Below.alloc ?_ ?_ _) | (with_reducible refine Below.drew ?_) | (with_reducible refine below_drewN ?_ _))) <;> (first | omega | (simp <;> omega)))) hl).mono ?_
    rintro e w3 ⟨rfl, h3, hT3⟩
    go_wp2
    go_ret
    exact ⟨rfl, h3, ((PastT.below (show Below w.heap.size w _ from kept_call (show Below w1.heap.size w1 _ from (by (repeat' (first | (with_reducible exact Below.refl _ _) | (with_reducible refine Below.setCell ?_ ?_ _) | (with_reducible refine Below.alloc ?_ ?_ _) | (with_reducible refine Below.drew ?_) | (with_reducible refine below_drewN ?_ _))) <;> (first | omega | (simp <;> omega)))) HB1.out)).trans hT3).three⟩

set_option maxHeartbeats 8000000 in
set_option maxRecDepth 100000 in
theorem drift_any (B g : Nat) (b : Bn) (A : Option Addr) (cap : Nat) (pp : Int) (w : World) (h : BnAt B w g b) (hn : NumsR w A 1 [pp]) (hsm : vT pp = true) (hpow : PowB B w) (hl : b.out.length ≤ 900000) (hs : b.srcs.length ≤ 64) :
    Calls Tryz.prog 93 #[.pointer (some ⟨g, 0, none⟩), .slice A 1 cap] w (LnR B g w (b.drift pp)) := by
  obtain ⟨gA, rfl, hgA, hcA⟩ := hn.cell 0 (by omega)
  have cA := hcA 0 (by omega)
  rw [show [pp].getD 0 0 = pp from rfl] at cA
  have HN := Lib.hid hn
  have HH := Lib.hid h; have HPW := Lib.hid hpow
  obtain ⟨hB, VL, pq, v, e1, ⟨AV, rfl, e2⟩, e3, e4⟩ := h
  have HS := Lib.hid e2
  have cP := e1.cell
  have hgl := e1.lt
  unfold bnC at cP
  obtain ⟨l, hll⟩ : ∃ l, b.srcs = l := ⟨_, rfl⟩
  rw [hll] at cP hs HS
  have HLL := Lib.hid hll
  clear hpow hcA hn e1 e2 e3 e4 hll
  go_enter Tryz.func93, Tryz.ntmps93
  go_wp2
  clear cP cA
  go_loopg [12] l.length (fun G i wr => DrRel w l l.length G i wr)
  case atStart => exact ⟨0, by omega, by omega, rfl, (fun j hj => by omega), Below.refl _ _⟩
  case round =>
    obtain ⟨q, hq, rfl, rfl, hno, KR⟩ := hrel
    have ZR := KR.size
    have HKR := Lib.hid KR; have HNO := Lib.hid hno; clear hno
    by_cases hlt : q < l.length
    · have gp : decide ((q : Int) < (l.length : Int)) = true := decide_eq_true (by omega)
      have gpn : decide (q < l.length) = true := decide_eq_true hlt
      have wp : IntKind.i64.wrap ((q : Int) + 1) = ((q + 1 : Nat) : Int) := by rw [IntWalk.i64_in _ (by omega)]; omega
      obtain ⟨gs, cur, rfl, hgs, hSb, hSc⟩ := HS.out (by omega)
      have bS := Blk.keep KR hSb
      have lS := bS.lt
      have hcs := hSc.2 q hlt
      have d0 := (bS.cell (q * 7)).trans (hcs 0 (by omega))
      have d1 := (bS.cell (q * 7 + 1)).trans (hcs 1 (by omega))
      have d2 := (bS.cell (q * 7 + 2)).trans (hcs 2 (by omega))
      have d3 := (bS.cell (q * 7 + 3)).trans (hcs 3 (by omega))
      have d4 := (bS.cell (q * 7 + 4)).trans (hcs 4 (by omega))
      have d5 := (bS.cell (q * 7 + 5)).trans (hcs 5 (by omega))
      have d6 := (bS.cell (q * 7 + 6)).trans (hcs 6 (by omega))
      obtain ⟨kv, hkv⟩ : ∃ kv, l.getD q (false, .zero) = kv := ⟨_, rfl⟩
      rw [hkv] at d0 d1 d2 d3 d4 d5 d6
      have HKV := Lib.hid hkv
      clear hkv hcs hSc hSb
      obtain ⟨bb, na, nlo, nhi, np, nle, nre⟩ := kv
      simp only [kwC, K6.cs, List.getElem?_cons_zero, List.getElem?_cons_succ] at d0 d1 d2 d3 d4 d5 d6
      clear bS KR
      cases bb with
      | false =>
        go_wp2
        go_roundg (l.length - (q + 1))
        case measure => omega
        case rel =>
          refine ⟨q + 1, by omega, by omega, by go_num, fun j hj => ?_, (kept_call (show Below wr.heap.size wr _ from (by (repeat' (first | (with_reducible exact Below.refl _ _) | (with_reducible refine Below.setCell ?_ ?_ _) | (with_reducible refine Below.alloc ?_ ?_ _) | (with_reducible refine Below.drew ?_) | (with_reducible refine below_drewN ?_ _))) <;> (first | omega | (simp <;> omega)))) HKR.out)⟩
          by_cases e : j = q
          · rw [e, HKV.out]
          · exact HNO.out j (by omega)
      | true =>
        have hr : b.drift pp = (b, 7) := by
          unfold Bn.drift
          rw [if_pos]
          rw [HLL.out, List.any_eq_true]
          exact ⟨l.getD q (false, .zero), by rw [List.getD_eq_getElem?_getD, List.getElem?_eq_getElem hlt]; exact List.getElem_mem _, by rw [HKV.out]⟩
        have HR9 := Lib.hid hr
        clear hr
        go_wp2
        go_ret
        rw [HR9.out]
        exact ⟨rfl, HH.out.below (kept_call (show Below wr.heap.size wr _ from (by (repeat' (first | (with_reducible exact Below.refl _ _) | (with_reducible refine Below.setCell ?_ ?_ _) | (with_reducible refine Below.alloc ?_ ?_ _) | (with_reducible refine Below.drew ?_) | (with_reducible refine below_drewN ?_ _))) <;> (first | omega | (simp <;> omega)))) HKR.out), PastT.below (kept_call (show Below wr.heap.size wr _ from (by (repeat' (first | (with_reducible exact Below.refl _ _) | (with_reducible refine Below.setCell ?_ ?_ _) | (with_reducible refine Below.alloc ?_ ?_ _) | (with_reducible refine Below.drew ?_) | (with_reducible refine below_drewN ?_ _))) <;> (first | omega | (simp <;> omega)))) HKR.out)⟩
    · obtain rfl : q = l.length := by omega
      have gp : decide ((l.length : Int) < (l.length : Int)) = false := decide_eq_false (by omega)
      have gpn : decide (l.length < l.length) = false := decide_eq_false (by omega)
      have hany : (b.srcs.any (·.1)) = false := by
        rw [HLL.out, List.any_eq_false]
        intro k hk
        obtain ⟨j, hj, rfl⟩ := List.getElem_of_mem hk
        have := HNO.out j hj
        rw [List.getD_eq_getElem?_getD, List.getElem?_eq_getElem hj] at this
        simpa using this
      have HR := Lib.hid (HH.out.below KR); have PR := Lib.hid (HPW.out.below KR); have NR := Lib.hid (HN.out.below KR)
      obtain ⟨gA', ea, hgA', hcA⟩ := NR.out.cell 0 (by omega)
      obtain rfl : gA = gA' := by injection ea with ea; injection ea with ea
      have cA := hcA 0 (by omega)
      rw [show [pp].getD 0 0 = pp from rfl] at cA
      have hvp := vT_true.1 hsm
      clear hcA ea HNO KR
      by_cases h0 : pp < 0
      · have c0 : decide (pp < 0) = true := decide_eq_true h0
        have hr : b.drift pp = (b, 4) := by unfold Bn.drift; rw [hany, if_neg (by simp), if_neg (by omega)]
        have HR9 := Lib.hid hr
        clear hr hany
        go_wp2
        go_ret
        rw [HR9.out]
        exact ⟨rfl, HR.out, PastT.below HKR.out⟩
      · have c0 : decide (pp < 0) = false := decide_eq_false h0
        by_cases h1 : pp > 1000000
        · have c1 : decide (pp > 1000000) = true := decide_eq_true h1
          have c1' : decide (1000000 < pp) = true := c1
          have hr : b.drift pp = (b, 4) := by unfold Bn.drift; rw [hany, if_neg (by simp), if_neg (by omega)]
          have HR9 := Lib.hid hr
          clear hr hany
          go_wp2
          go_ret
          rw [HR9.out]
          exact ⟨rfl, HR.out, PastT.below HKR.out⟩
        · have c1 : decide (pp > 1000000) = false := decide_eq_false h1
          have c1' : decide (1000000 < pp) = false := c1
          have hr : b.drift pp = (Bn.say { b with p := pp } wDrift [pp], 0) := by unfold Bn.drift; rw [hany, if_neg (by simp), if_pos (by omega)]
          have HR9 := Lib.hid hr
          have hg0 := HR.out.lt
          obtain ⟨hB9, VL9, p9, v9, e91, -⟩ := HR.out
          have fP := e91.frozen
          have cP9 : ∃ u9, wr.cell? ⟨g, 3, none⟩ = some u9 := ⟨_, e91.cell 3⟩
          obtain ⟨u9, cP9⟩ := cP9
          clear hr hany e91
          go_wp2_with fail
          have hst : BnAt B (wr.setCell ⟨g, 3, none⟩ (.int .i64 pp)) g { b with p := pp } := HR.out.store (b' := { b with p := pp }) rfl rfl (fun _ _ _ => rfl)
          have hsT := HR.out.setT (i := 3) (u := .int .i64 pp)
          refine (say_any B g { b with p := pp } ⟨#[100, 114, 105, 102, 116]⟩ _ 1 _ [pp] _ hst (NR.out.pastT hsT (by decide)) (fun n hn => by simp at hn; rw [hn]; exact smallI_vT hsm) (PR.out.pastT hsT) (by show _ + 5 + 22 * 1 + 1 ≤ _; show b.out.length + 5 + 22 * 1 + 1 ≤ _; omega)).mono ?_
          rintro e w3 ⟨rfl, h3, hT3⟩
          go_wp2
          go_ret
          rw [HR9.out]
          exact ⟨rfl, h3, (((PastT.below HKR.out).trans hsT).trans hT3).three⟩

set_option maxHeartbeats 16000000 in
set_option maxRecDepth 100000 in
theorem sources_any (B g : Nat) (b : Bn) (A : Option Addr) (cap : Nat) (n f : Int) (w : World) (h : BnAt B w g b) (hn : NumsR w A 2 [n, f]) (hsn : vT n = true) (hsf : vT f = true) (hpow : PowB B w) (hl : b.out.length ≤ 900000) :
    Calls Tryz.prog 92 #[.pointer (some ⟨g, 0, none⟩), .slice A 2 cap] w (LnR B g w (b.sources n f)) := by
  have hvn := vT_true.1 hsn; have hvf := vT_true.1 hsf
  have HN := Lib.hid hn
  obtain ⟨gA, curN, rfl, hNb0, hNc⟩ := hn.2 (by omega)
  have hgA := hNb0.lt
  have hc0 : curN[0]? = some (.int .i64 n) := hNc 0 (by omega)
  have hc1 : curN[1]? = some (.int .i64 f) := hNc 1 (by omega)
  have cA0 := (hNb0.cell 0).trans hc0
  have cA1 := (hNb0.cell 1).trans hc1
  have HNB := Lib.hid hNb0; have HC0 := Lib.hid hc0; have HC1 := Lib.hid hc1
  clear hNc hNb0 hc0 hc1
  have w2f : IntKind.i64.wrap (2 * f) = 2 * f := IntWalk.i64_in _ (by omega)
  have HH := Lib.hid h; have HPW := Lib.hid hpow
  have HVN := Lib.hid hsn; have HVF := Lib.hid hsf
  clear hpow hn hsn hsf h
  by_cases h0 : n < 1
  · have c0 : decide (n < 1) = true := decide_eq_true h0
    have hr : b.sources n f = (b, 4) := by unfold Bn.sources; rw [if_neg (by omega)]
    rw [hr]
    clear hr
    go_enter Tryz.func92, Tryz.ntmps92
    go_wp2_with fail
    go_quiet (fail)
    go_wp2
    go_ret
    exact ⟨rfl, HH.out.below (below_drewN (Below.refl _ _) _), PastT.below (below_drewN (Below.refl _ _) _)⟩
  · have c0 : decide (n < 1) = false := decide_eq_false h0
    by_cases h1 : n > 8
    · have c1 : decide (n > 8) = true := decide_eq_true h1
      have c1' : decide (8 < n) = true := c1
      have hr : b.sources n f = (b, 4) := by unfold Bn.sources; rw [if_neg (by omega)]
      rw [hr]
      clear hr
      go_enter Tryz.func92, Tryz.ntmps92
      go_wp2_with fail
      go_quiet (fail)
      go_wp2
      go_ret
      exact ⟨rfl, HH.out.below (below_drewN (Below.refl _ _) _), PastT.below (below_drewN (Below.refl _ _) _)⟩
    · have c1 : decide (n > 8) = false := decide_eq_false h1
      have c1' : decide (8 < n) = false := c1
      by_cases h2 : f < 0
      · have c2 : decide (f < 0) = true := decide_eq_true h2
        have hr : b.sources n f = (b, 4) := by unfold Bn.sources; rw [if_neg (by omega)]
        rw [hr]
        clear hr
        go_enter Tryz.func92, Tryz.ntmps92
        go_wp2_with fail
        go_quiet (fail)
        go_wp2
        go_ret
        exact ⟨rfl, HH.out.below (below_drewN (Below.refl _ _) _), PastT.below (below_drewN (Below.refl _ _) _)⟩
      · have c2 : decide (f < 0) = false := decide_eq_false h2
        by_cases h3 : f > n
        · have c3 : decide (f > n) = true := decide_eq_true h3
          have c3' : decide (n < f) = true := c3
          have hr : b.sources n f = (b, 4) := by unfold Bn.sources; rw [if_neg (by omega)]
          rw [hr]
          clear hr
          go_enter Tryz.func92, Tryz.ntmps92
          go_wp2_with fail
          go_quiet (fail)
          go_wp2
          go_ret
          exact ⟨rfl, HH.out.below (below_drewN (Below.refl _ _) _), PastT.below (below_drewN (Below.refl _ _) _)⟩
        · have c3 : decide (f > n) = false := decide_eq_false h3
          have c3' : decide (n < f) = false := c3
          by_cases h4 : 2 * f ≥ n
          · have c4 : decide (2 * f ≥ n) = true := decide_eq_true h4
            have c4' : decide (n ≤ 2 * f) = true := c4
            have hr : b.sources n f = (b, 4) := by unfold Bn.sources; rw [if_neg (by omega)]
            rw [hr]
            clear hr
            go_enter Tryz.func92, Tryz.ntmps92
            go_wp2_with fail
            go_quiet (fail)
            go_wp2
            go_ret
            exact ⟨rfl, HH.out.below (below_drewN (Below.refl _ _) _), PastT.below (below_drewN (Below.refl _ _) _)⟩
          · have c4 : decide (2 * f ≥ n) = false := decide_eq_false h4
            have c4' : decide (n ≤ 2 * f) = false := c4
            obtain ⟨m, rfl⟩ : ∃ m : Nat, n = (m : Int) := ⟨n.toNat, by omega⟩
            have hm1 : 1 ≤ m := by omega
            have hm8 : m ≤ 8 := by omega
            have hr : b.sources m f = (Bn.say ⟨true, List.replicate m (false, .zero), f, 0, .zero, b.out⟩ wSources [(m : Int), f], 0) := by unfold Bn.sources; rw [if_pos (by omega)]; rfl
            rw [hr]
            clear hr
            go_enter Tryz.func92, Tryz.ntmps92
            obtain ⟨hB, VL, pq, v, e1, e2, e3, e4⟩ := HH.out
            have HE1 := Lib.hid e1; have HE4 := Lib.hid e4
            have hgl := e1.lt
            have hAg : gA ≠ g := Blk.ne HNB.out e1 (by decide)
            obtain ⟨iS, hiS, hzS, hsS, hbS⟩ := info_parts infoSrc
            clear e1 e2 e4
            obtain ⟨be, sr, li, pp, ck, ou⟩ := b
            obtain ⟨ai, ra, se, he, at_, sh⟩ := ck
            go_wp2_with fail
            go_quiet (fail)
            go_upto_region 3 with fail
            clear cA0 cA1
            refine' wp_region_calm (by kernel_rfl) (fun n us w' => Past [g] w w' ∧ Blk w' gA 3 curN ∧ Blk w' g 76 (srcSt (⟨be, sr, li, pp, ⟨ai, ra, se, he, at_, sh⟩, ou⟩ : Bn) VL pq v f n us)) (Past [g]) [(Is _), (Is _), (Is _), (Is _), (Is _), (Is _), (Is _), (Is _), (SliceB [g] w.heap.size 170 m (madeCells #[.bool false, .int .i64 0, .int .i64 0, .int .i64 0, .int .i64 0, .int .i64 0, .int .i64 0] (m * 7))), (Is _), (Is _), (Is _), (Is _), (Is _), (Is _), (fun _ _ _ => True), (Is _), (Is _), (fun _ _ _ => True), (Is _), (Is _), (fun _ _ _ => True), (Is _), (Is _), (fun _ _ _ => True), (Is _), (Is _), (fun _ _ _ => True)] [[], [], [], [], [], [], [5], [6], [7], [], [9], [10], [], [0], [13], [14], [1], [16], [17, 8], [2], [19], [20, 11], [3], [22], [23], [4], [25], [26, 12]] [15, 18, 21, 24, 27] [8] rfl (calmB_of (by kernel_rfl)) (fun u => by (simp only [calmPut, Act.put, List.setIfInBounds_toArray, List.set_cons_zero, List.set_cons_succ, Nat.zero_add, Nat.reduceAdd]; rfl)) ?_ (calmKeep_cons keep_is' (calmKeep_cons keep_is' (calmKeep_cons keep_is' (calmKeep_cons keep_is' (calmKeep_cons keep_is' (calmKeep_cons keep_is' (calmKeep_cons keep_is' (calmKeep_cons keep_is' (calmKeep_cons keep_sliceB (calmKeep_cons keep_is' (calmKeep_cons keep_is' (calmKeep_cons keep_is' (calmKeep_cons keep_is' (calmKeep_cons keep_is' (calmKeep_cons keep_is' (calmKeep_cons keep_triv (calmKeep_cons keep_is' (calmKeep_cons keep_is' (calmKeep_cons keep_triv (calmKeep_cons keep_is' (calmKeep_cons keep_is' (calmKeep_cons keep_triv (calmKeep_cons keep_is' (calmKeep_cons keep_is' (calmKeep_cons keep_triv (calmKeep_cons keep_is' (calmKeep_cons keep_is' (calmKeep_cons keep_triv (calmKeep_nil))))))))))))))))))))))))))))) ?_ ?_
            · intro _
              exact ⟨(show Past [g] w w from Past.refl _ _), HNB.out, HE1.out⟩
            rotate_left 22
            · skip
              refine calmSteps_cons (fun u wq n hn hn2 hC hk K hK => ?_) ?_
              · obtain ⟨hP, hN, hG⟩ := hC
                clear hk
                go_simp
                exact hK _ _ _ rfl ⟨hP, hN, hG⟩ (Past.refl _ _) rfl
              refine calmSteps_cons (fun u wq n hn hn2 hC hk K hK => ?_) ?_
              · obtain ⟨hP, hN, hG⟩ := hC
                clear hk
                go_simp
                exact hK _ _ _ rfl ⟨hP, hN, hG⟩ (Past.refl _ _) rfl
              refine calmSteps_cons (fun u wq n hn hn2 hC hk K hK => ?_) ?_
              · obtain ⟨hP, hN, hG⟩ := hC
                clear hk
                go_simp
                exact hK _ _ _ rfl ⟨hP, hN, hG⟩ (Past.refl _ _) rfl
              refine calmSteps_cons (fun u wq n hn hn2 hC hk K hK => ?_) ?_
              · obtain ⟨hP, hN, hG⟩ := hC
                clear hk
                go_simp
                exact hK _ _ _ rfl ⟨hP, hN, hG⟩ (Past.refl _ _) rfl
              refine calmSteps_cons (fun u wq n hn hn2 hC hk K hK => ?_) ?_
              · obtain ⟨hP, hN, hG⟩ := hC
                clear hk
                go_simp
                exact hK _ _ _ rfl ⟨hP, hN, hG⟩ (Past.refl _ _) rfl
              refine calmSteps_cons (fun u wq n hn hn2 hC hk K hK => ?_) ?_
              · obtain ⟨hP, hN, hG⟩ := hC
                clear hk
                go_simp
                exact hK _ _ _ rfl ⟨hP, hN, hG⟩ (Past.refl _ _) rfl
              refine calmSteps_cons (fun u wq n hn hn2 hC hk K hK => ?_) ?_
              · obtain ⟨hP, hN, hG⟩ := hC
                simp only [calmKnown, List.getElem?_cons_zero, List.getElem?_cons_succ, and_true, Is, Pure, Option.some.injEq, List.getD_cons_zero, List.getD_cons_succ, List.map_cons, List.map_nil] at hk
                have h5 := hk; clear hk
                simp only [h5] at hK ⊢
                have H5 := Lib.hid h5; clear h5
                go_simp
                exact hK _ _ _ rfl ⟨hP, hN, hG⟩ (Past.refl _ _) rfl
              refine calmSteps_cons (fun u wq n hn hn2 hC hk K hK => ?_) ?_
              · obtain ⟨hP, hN, hG⟩ := hC
                simp only [calmKnown, List.getElem?_cons_zero, List.getElem?_cons_succ, and_true, Is, Pure, Option.some.injEq, List.getD_cons_zero, List.getD_cons_succ, List.map_cons, List.map_nil] at hk
                have h6 := hk; clear hk
                simp only [h6] at hK ⊢
                have H6 := Lib.hid h6; clear h6
                have z9 := (hN.cell 0).trans HC0.out; have l9 := hN.lt
                go_simp
                exact hK _ _ _ rfl ⟨hP, hN, hG⟩ (Past.refl _ _) rfl
              refine calmSteps_cons (fun u wq n hn hn2 hC hk K hK => ?_) ?_
              · obtain ⟨hP, hN, hG⟩ := hC
                simp only [calmKnown, List.getElem?_cons_zero, List.getElem?_cons_succ, and_true, Is, Pure, Option.some.injEq, List.getD_cons_zero, List.getD_cons_succ, List.map_cons, List.map_nil] at hk
                have h7 := hk; clear hk
                simp only [h7] at hK ⊢
                have H7 := Lib.hid h7; clear h7
                have hmk := run_makeSlice (P := Tryz.prog) (w := wq) 68 170 iS _ Tryz.underlying68 hiS hzS .i64 .i64 (m : Int) (m : Int) (by omega) (Int.le_refl _) (by rw [hsS]; simp only [Int.toNat_natCast]; omega) (by rw [hbS]; omega) (by omega)
                simp only [Int.toNat_natCast, hsS] at hmk
                go_simp
                have lG := hG.lt
                have hn9 : n ≤ 1 := hn2 1 18 rfl (calmReach_of (by decide) (by kernel_rfl))
                obtain rfl | rfl : n = 0 ∨ n = 1 := by omega
                all_goals exact hK _ _ _ rfl ⟨hP.allocs _, hN.alloc _, hG.alloc _⟩ (Past.alloc _ _ _) ⟨_, rfl, (by simp; omega), hP.1, Blk.new _ _ _⟩
              refine calmSteps_cons (fun u wq n hn hn2 hC hk K hK => ?_) ?_
              · obtain ⟨hP, hN, hG⟩ := hC
                clear hk
                go_simp
                exact hK _ _ _ rfl ⟨hP, hN, hG⟩ (Past.refl _ _) rfl
              refine calmSteps_cons (fun u wq n hn hn2 hC hk K hK => ?_) ?_
              · obtain ⟨hP, hN, hG⟩ := hC
                simp only [calmKnown, List.getElem?_cons_zero, List.getElem?_cons_succ, and_true, Is, Pure, Option.some.injEq, List.getD_cons_zero, List.getD_cons_succ, List.map_cons, List.map_nil] at hk
                have h9 := hk; clear hk
                simp only [h9] at hK ⊢
                have H9 := Lib.hid h9; clear h9
                go_simp
                exact hK _ _ _ rfl ⟨hP, hN, hG⟩ (Past.refl _ _) rfl
              refine calmSteps_cons (fun u wq n hn hn2 hC hk K hK => ?_) ?_
              · obtain ⟨hP, hN, hG⟩ := hC
                simp only [calmKnown, List.getElem?_cons_zero, List.getElem?_cons_succ, and_true, Is, Pure, Option.some.injEq, List.getD_cons_zero, List.getD_cons_succ, List.map_cons, List.map_nil] at hk
                have h10 := hk; clear hk
                simp only [h10] at hK ⊢
                have H10 := Lib.hid h10; clear h10
                have z9 := (hN.cell 1).trans HC1.out; have l9 := hN.lt
                go_simp
                exact hK _ _ _ rfl ⟨hP, hN, hG⟩ (Past.refl _ _) rfl
              refine calmSteps_cons (fun u wq n hn hn2 hC hk K hK => ?_) ?_
              · obtain ⟨hP, hN, hG⟩ := hC
                clear hk
                go_simp
                exact hK _ _ _ rfl ⟨hP, hN, hG⟩ (Past.refl _ _) rfl
              refine calmSteps_cons (fun u wq n hn hn2 hC hk K hK => ?_) ?_
              · obtain ⟨hP, hN, hG⟩ := hC
                simp only [calmKnown, List.getElem?_cons_zero, List.getElem?_cons_succ, and_true, Is, Pure, Option.some.injEq, List.getD_cons_zero, List.getD_cons_succ, List.map_cons, List.map_nil] at hk
                have h0 := hk; clear hk
                simp only [h0] at hK ⊢
                have H0 := Lib.hid h0; clear h0
                go_simp
                exact hK _ _ _ rfl ⟨hP, hN, hG⟩ (Past.refl _ _) rfl
              refine calmSteps_cons (fun u wq n hn hn2 hC hk K hK => ?_) ?_
              · obtain ⟨hP, hN, hG⟩ := hC
                simp only [calmKnown, List.getElem?_cons_zero, List.getElem?_cons_succ, and_true, Is, Pure, Option.some.injEq, List.getD_cons_zero, List.getD_cons_succ, List.map_cons, List.map_nil] at hk
                have h13 := hk; clear hk
                simp only [h13] at hK ⊢
                have H13 := Lib.hid h13; clear h13
                go_simp
                exact hK _ _ _ rfl ⟨hP, hN, hG⟩ (Past.refl _ _) rfl
              refine calmSteps_cons (fun u wq n hn hn2 hC hk K hK => ?_) ?_
              · obtain ⟨hP, hN, hG⟩ := hC
                simp only [calmKnown, List.getElem?_cons_zero, List.getElem?_cons_succ, and_true, Is, Pure, Option.some.injEq, List.getD_cons_zero, List.getD_cons_succ, List.map_cons, List.map_nil] at hk
                have h14 := hk; clear hk
                simp only [h14] at hK ⊢
                have H14 := Lib.hid h14; clear h14
                obtain rfl := hn 0 rfl
                have hG0 : Blk wq g 76 #[.bool be, VL, .int .i64 li, .int .i64 pp, .int .i64 ai, .int .i64 ra, .bool se, .bool he, .int .i64 at_, .int .i64 sh, pq, v] := hG
                have fG := hG0.frozen; have zG := hG0.cell; have lG := hG0.lt
                go_simp
                exact hK _ undef _ rfl ⟨hP.setIn (by simp) _, hN.far (by simpa using hAg) _, (hG0.put rfl)⟩ (Past.set (by simp) _) trivial
              refine calmSteps_cons (fun u wq n hn hn2 hC hk K hK => ?_) ?_
              · obtain ⟨hP, hN, hG⟩ := hC
                simp only [calmKnown, List.getElem?_cons_zero, List.getElem?_cons_succ, and_true, Is, Pure, Option.some.injEq, List.getD_cons_zero, List.getD_cons_succ, List.map_cons, List.map_nil] at hk
                have h1 := hk; clear hk
                simp only [h1] at hK ⊢
                have H1 := Lib.hid h1; clear h1
                go_simp
                exact hK _ _ _ rfl ⟨hP, hN, hG⟩ (Past.refl _ _) rfl
              refine calmSteps_cons (fun u wq n hn hn2 hC hk K hK => ?_) ?_
              · obtain ⟨hP, hN, hG⟩ := hC
                simp only [calmKnown, List.getElem?_cons_zero, List.getElem?_cons_succ, and_true, Is, Pure, Option.some.injEq, List.getD_cons_zero, List.getD_cons_succ, List.map_cons, List.map_nil] at hk
                have h16 := hk; clear hk
                simp only [h16] at hK ⊢
                have H16 := Lib.hid h16; clear h16
                go_simp
                exact hK _ _ _ rfl ⟨hP, hN, hG⟩ (Past.refl _ _) rfl
              refine calmSteps_cons (fun u wq n hn hn2 hC hk K hK => ?_) ?_
              · obtain ⟨hP, hN, hG⟩ := hC
                simp only [calmKnown, List.getElem?_cons_zero, List.getElem?_cons_succ, and_true, Is, Pure, Option.some.injEq, List.getD_cons_zero, List.getD_cons_succ, List.map_cons, List.map_nil] at hk
                obtain ⟨h17, ⟨gN, h8, hn8, hl8, hb8⟩⟩ := hk
                simp only [h17, h8] at hK ⊢
                have H17 := Lib.hid h17; clear h17; have H8 := Lib.hid h8; clear h8
                obtain rfl := hn 1 rfl
                have hG0 : Blk wq g 76 #[.bool true, VL, .int .i64 li, .int .i64 pp, .int .i64 ai, .int .i64 ra, .bool se, .bool he, .int .i64 at_, .int .i64 sh, pq, v] := hG
                have fG := hG0.frozen; have zG := hG0.cell; have lG := hG0.lt
                go_simp
                exact hK _ undef _ rfl ⟨hP.setIn (by simp) _, hN.far (by simpa using hAg) _, (by show Blk _ g 76 #[.bool true, (u 8), .int .i64 li, .int .i64 pp, .int .i64 ai, .int .i64 ra, .bool se, .bool he, .int .i64 at_, .int .i64 sh, pq, v]; rw [H8.out]; exact hG0.put rfl)⟩ (Past.set (by simp) _) trivial
              refine calmSteps_cons (fun u wq n hn hn2 hC hk K hK => ?_) ?_
              · obtain ⟨hP, hN, hG⟩ := hC
                simp only [calmKnown, List.getElem?_cons_zero, List.getElem?_cons_succ, and_true, Is, Pure, Option.some.injEq, List.getD_cons_zero, List.getD_cons_succ, List.map_cons, List.map_nil] at hk
                have h2 := hk; clear hk
                simp only [h2] at hK ⊢
                have H2 := Lib.hid h2; clear h2
                go_simp
                exact hK _ _ _ rfl ⟨hP, hN, hG⟩ (Past.refl _ _) rfl
              refine calmSteps_cons (fun u wq n hn hn2 hC hk K hK => ?_) ?_
              · obtain ⟨hP, hN, hG⟩ := hC
                simp only [calmKnown, List.getElem?_cons_zero, List.getElem?_cons_succ, and_true, Is, Pure, Option.some.injEq, List.getD_cons_zero, List.getD_cons_succ, List.map_cons, List.map_nil] at hk
                have h19 := hk; clear hk
                simp only [h19] at hK ⊢
                have H19 := Lib.hid h19; clear h19
                go_simp
                exact hK _ _ _ rfl ⟨hP, hN, hG⟩ (Past.refl _ _) rfl
              refine calmSteps_cons (fun u wq n hn hn2 hC hk K hK => ?_) ?_
              · obtain ⟨hP, hN, hG⟩ := hC
                simp only [calmKnown, List.getElem?_cons_zero, List.getElem?_cons_succ, and_true, Is, Pure, Option.some.injEq, List.getD_cons_zero, List.getD_cons_succ, List.map_cons, List.map_nil] at hk
                obtain ⟨h20, h11⟩ := hk
                simp only [h20, h11] at hK ⊢
                have H20 := Lib.hid h20; clear h20; have H11 := Lib.hid h11; clear h11
                obtain rfl := hn 2 rfl
                have hG0 : Blk wq g 76 #[.bool true, (u 8), .int .i64 li, .int .i64 pp, .int .i64 ai, .int .i64 ra, .bool se, .bool he, .int .i64 at_, .int .i64 sh, pq, v] := hG
                have fG := hG0.frozen; have zG := hG0.cell; have lG := hG0.lt
                go_simp
                exact hK _ undef _ rfl ⟨hP.setIn (by simp) _, hN.far (by simpa using hAg) _, (hG0.put rfl)⟩ (Past.set (by simp) _) trivial
              refine calmSteps_cons (fun u wq n hn hn2 hC hk K hK => ?_) ?_
              · obtain ⟨hP, hN, hG⟩ := hC
                simp only [calmKnown, List.getElem?_cons_zero, List.getElem?_cons_succ, and_true, Is, Pure, Option.some.injEq, List.getD_cons_zero, List.getD_cons_succ, List.map_cons, List.map_nil] at hk
                have h3 := hk; clear hk
                simp only [h3] at hK ⊢
                have H3 := Lib.hid h3; clear h3
                go_simp
                exact hK _ _ _ rfl ⟨hP, hN, hG⟩ (Past.refl _ _) rfl
              refine calmSteps_cons (fun u wq n hn hn2 hC hk K hK => ?_) ?_
              · obtain ⟨hP, hN, hG⟩ := hC
                simp only [calmKnown, List.getElem?_cons_zero, List.getElem?_cons_succ, and_true, Is, Pure, Option.some.injEq, List.getD_cons_zero, List.getD_cons_succ, List.map_cons, List.map_nil] at hk
                have h22 := hk; clear hk
                simp only [h22] at hK ⊢
                have H22 := Lib.hid h22; clear h22
                go_simp
                exact hK _ _ _ rfl ⟨hP, hN, hG⟩ (Past.refl _ _) rfl
              refine calmSteps_cons (fun u wq n hn hn2 hC hk K hK => ?_) ?_
              · obtain ⟨hP, hN, hG⟩ := hC
                simp only [calmKnown, List.getElem?_cons_zero, List.getElem?_cons_succ, and_true, Is, Pure, Option.some.injEq, List.getD_cons_zero, List.getD_cons_succ, List.map_cons, List.map_nil] at hk
                have h23 := hk; clear hk
                simp only [h23] at hK ⊢
                have H23 := Lib.hid h23; clear h23
                obtain rfl := hn 3 rfl
                have hG0 : Blk wq g 76 #[.bool true, (u 8), .int .i64 f, .int .i64 pp, .int .i64 ai, .int .i64 ra, .bool se, .bool he, .int .i64 at_, .int .i64 sh, pq, v] := hG
                have fG := hG0.frozen; have zG := hG0.cell; have lG := hG0.lt
                go_simp
                exact hK _ undef _ rfl ⟨hP.setIn (by simp) _, hN.far (by simpa using hAg) _, (hG0.put rfl)⟩ (Past.set (by simp) _) trivial
              refine calmSteps_cons (fun u wq n hn hn2 hC hk K hK => ?_) ?_
              · obtain ⟨hP, hN, hG⟩ := hC
                simp only [calmKnown, List.getElem?_cons_zero, List.getElem?_cons_succ, and_true, Is, Pure, Option.some.injEq, List.getD_cons_zero, List.getD_cons_succ, List.map_cons, List.map_nil] at hk
                have h4 := hk; clear hk
                simp only [h4] at hK ⊢
                have H4 := Lib.hid h4; clear h4
                go_simp
                exact hK _ _ _ rfl ⟨hP, hN, hG⟩ (Past.refl _ _) rfl
              refine calmSteps_cons (fun u wq n hn hn2 hC hk K hK => ?_) ?_
              · obtain ⟨hP, hN, hG⟩ := hC
                simp only [calmKnown, List.getElem?_cons_zero, List.getElem?_cons_succ, and_true, Is, Pure, Option.some.injEq, List.getD_cons_zero, List.getD_cons_succ, List.map_cons, List.map_nil] at hk
                have h25 := hk; clear hk
                simp only [h25] at hK ⊢
                have H25 := Lib.hid h25; clear h25
                go_simp
                exact hK _ _ _ rfl ⟨hP, hN, hG⟩ (Past.refl _ _) rfl
              refine calmSteps_cons (fun u wq n hn hn2 hC hk K hK => ?_) ?_
              · obtain ⟨hP, hN, hG⟩ := hC
                simp only [calmKnown, List.getElem?_cons_zero, List.getElem?_cons_succ, and_true, Is, Pure, Option.some.injEq, List.getD_cons_zero, List.getD_cons_succ, List.map_cons, List.map_nil] at hk
                obtain ⟨h26, h12⟩ := hk
                simp only [h26, h12] at hK ⊢
                have H26 := Lib.hid h26; clear h26; have H12 := Lib.hid h12; clear h12
                obtain rfl := hn 4 rfl
                have hG0 : Blk wq g 76 #[.bool true, (u 8), .int .i64 f, .int .i64 0, .int .i64 ai, .int .i64 ra, .bool se, .bool he, .int .i64 at_, .int .i64 sh, pq, v] := hG
                have fG := hG0.frozen; have zG := hG0.cell; have lG := hG0.lt
                have hB2 := setAll_blk [.int .i64 0, .int .i64 0, .bool false, .bool false, .int .i64 0, .int .i64 0] 4 wq _ hG0
                simp only [setArr, List.setIfInBounds_toArray, List.set_cons_zero, List.set_cons_succ, Nat.zero_add, Nat.reduceAdd] at hB2
                go_simp
                exact hK _ undef (setAll wq g 4 [.int .i64 0, .int .i64 0, .bool false, .bool false, .int .i64 0, .int .i64 0]) rfl ⟨setAll_pastX (by simp) [.int .i64 0, .int .i64 0, .bool false, .bool false, .int .i64 0, .int .i64 0] 4 wq hP, setAll_far hAg [.int .i64 0, .int .i64 0, .bool false, .bool false, .int .i64 0, .int .i64 0] 4 wq hN, hB2⟩ (setAll_pastX (by simp) [.int .i64 0, .int .i64 0, .bool false, .bool false, .int .i64 0, .int .i64 0] 4 wq (Past.refl _ _)) trivial
              exact calmSteps_nil
            · intro u wz hC hF
              obtain ⟨hP, hN, hG⟩ := hC
              simp only [calmFacts, Is, SliceB, and_true, true_and] at hF
              obtain ⟨-, -, -, -, -, -, -, -, ⟨gN, h8, hn8, hl8, hb8⟩, -, -, -, -, -, -, -, -, -, -, -, -, -, -⟩ := hF
              have hG1 : Blk wz g 76 (bnC ⟨true, List.replicate m (false, .zero), f, 0, .zero, ou⟩ (.slice (some ⟨gN, 0, none⟩) m m) pq v) := h8 ▸ hG
              have hTd : PastT B [76] w wz := .of_past hP (fun k hk => by simp at hk; subst hk; exact ⟨hB, _, _, _, HE1.out, by simp⟩)
              have hlr : (List.replicate m ((false, K6.zero) : Kw)).length = m := List.length_replicate
              have hnew : BnAt B wz g ⟨true, List.replicate m (false, .zero), f, 0, .zero, ou⟩ := ⟨hB, _, _, _, hG1, ⟨some ⟨gN, 0, none⟩, by rw [hlr], fun _ => ⟨gN, _, rfl, Nat.le_trans HPW.out.2.1 hl8, hb8, src_made m⟩⟩, e3, HE4.out.pastT hTd (by decide)⟩
              have HNW := Lib.hid hnew; have HTD := Lib.hid hTd
              clear hP hN hG hG1 hTd hnew h8 hb8 e3
              go_wp2_with fail
              refine (say_any B g _ ⟨#[115, 111, 117, 114, 99, 101, 115]⟩ _ 2 _ [(m : Int), f] _ HNW.out (HN.out.pastT HTD.out (by decide)) (fun n hn => by simp at hn; rcases hn with rfl | rfl; exact smallI_vT HVN.out; exact smallI_vT HVF.out) (HPW.out.pastT HTD.out) (by show ou.length + 7 + 22 * 2 + 1 ≤ _; have h9 : ou.length ≤ 900000 := hl; omega)).mono ?_
              rintro e w3 ⟨rfl, h3, hT3⟩
              go_wp2
              go_ret
              exact ⟨rfl, h3, ((HTD.out.mono (fun t ht => by simp at ht; subst ht; simp)).trans hT3).three⟩
end Go.Proofs.YtiinmhfolfgobaaGreatDoor
namespace Go.Proofs.YtiinmhfolfgobaaGreatDoor
open Go.RowKit Go.Lib
set_option linter.unusedSimpArgs false
set_option linter.unusedVariables false

theorem bread_rb (c : Clk) (t lo hi : Int) (w : World) : Calls Tryz.prog 136 #[.agg #[.int .i64 c.aim, .int .i64 c.rate, .bool c.set, .bool c.held, .int .i64 c.at_, .int .i64 c.shown], .int .i64 t, .agg #[.int .i64 lo, .int .i64 hi]] w (RB w (.tuple #[.agg (readK c t lo hi).cs.toArray, .int .i64 (rdK c t lo hi)])) := by
  rw [← readK_V]; exact read_any c.aim c.rate c.set c.held c.at_ c.shown t lo hi w
/-- The clock of a bench is stored. -/
theorem BnAt.clock {B g : Nat} {w : World} {b : Bn} (c : Clk) (h : BnAt B w g b) : BnAt B (setAll w g 4 c.cs) g { b with ck := c } ∧ PastT B [5, 76] w (setAll w g 4 c.cs) := by
  obtain ⟨hB, VL, p, v, e1, e2, e3, e4⟩ := h
  have hq : Past [g] w (setAll w g 4 c.cs) := setAll_pastX (by simp) c.cs 4 w (Past.refl _ _)
  have hT : ∀ Ts : List TypeId, 76 ∈ Ts → PastT B Ts w (setAll w g 4 c.cs) := fun Ts hm => .of_past hq (fun k hk => by simp at hk; subst hk; exact ⟨hB, _, _, _, e1, hm⟩)
  have e9 := setAll_blk c.cs 4 w _ e1
  rw [show setArr (bnC b VL p v) 4 c.cs = bnC { b with ck := c } VL p v by simp [setArr, bnC, Clk.cs]] at e9
  exact ⟨⟨hB, VL, p, v, e9, e2.pastT (hT [76] (by simp)) (by decide), e3, e4.pastT (hT [76] (by simp)) (by decide)⟩, hT _ (by simp)⟩

set_option maxHeartbeats 16000000 in
set_option maxRecDepth 100000 in
theorem bread_any (B g : Nat) (b : Bn) (A : Option Addr) (cap : Nat) (aim u : Int) (w : World) (h : BnAt B w g b) (hn : NumsR w A 2 [aim, u]) (hpow : PowB B w) (hl : b.out.length ≤ 900000) (hs : b.srcs.length ≤ 64) :
    Calls Tryz.prog 97 #[.pointer (some ⟨g, 0, none⟩), .slice A 2 cap] w (LnR B g w (b.read aim u)) := by
  have hmb := mgO_b (knowns b.srcs) u b.li
  have RM := Lib.hid (fun W hW => merged_any B g b u W hW hs)
  obtain ⟨gm, curN, rfl, hNb0, hNc⟩ := hn.2 (by omega)
  have hgm := hNb0.lt
  have hc0 : curN[0]? = some (.int .i64 aim) := hNc 0 (by omega)
  have hc1 : curN[1]? = some (.int .i64 u) := hNc 1 (by omega)
  have cA0 := (hNb0.cell 0).trans hc0
  have cA1 := (hNb0.cell 1).trans hc1
  have hrd : b.read aim u = b.readT aim u (mgO (knowns b.srcs) u b.li) := rfl
  rw [hrd]
  clear hrd
  obtain ⟨m, hm⟩ : ∃ m, mgO (knowns b.srcs) u b.li = m := ⟨_, rfl⟩
  rw [hm] at hmb ⊢
  replace RM := Lib.hid (fun W hW => hm ▸ RM.out W hW)
  clear hm
  obtain ⟨x, y, er⟩ := m
  obtain ⟨hme, hmv⟩ := hmb
  unfold V3 at RM
  dsimp only at RM hme hmv
  have HNB := Lib.hid hNb0; have HC0 := Lib.hid hc0; have HC1 := Lib.hid hc1
  have HH := Lib.hid h; have HPW := Lib.hid hpow; have HME := Lib.hid hme; have HMV := Lib.hid hmv; clear h hpow hn hme hmv hNc hNb0 hc0 hc1
  obtain ⟨hB, VL, pq, v, e1, e2, e3, e4⟩ := HH.out
  have HE1 := Lib.hid e1
  have hgl := e1.lt
  have hmg : gm ≠ g := Blk.ne HNB.out e1 (by decide)
  clear e1 e2 e3 e4
  by_cases her : er = 0
  · subst her
    have hxy := vS_small (HMV.out rfl)
    have RR := Lib.hid (fun W => bread_rb (b.aimed aim) u x y W)
    have hee := rdE_b (b.aimed aim) u x y
    obtain ⟨c9, hc9⟩ : ∃ c9, readK (b.aimed aim) u x y = c9 := ⟨_, rfl⟩
    obtain ⟨e9, he9⟩ : ∃ e9, rdK (b.aimed aim) u x y = e9 := ⟨_, rfl⟩
    have hsh : e9 = 0 → smallI c9.shown := fun h0 => by rw [← hc9]; exact shown_b (by rw [he9]; exact h0)
    have hr0 : e9 = 0 → b.readT aim u (x, y, 0) = (b.shows c9, 0) := fun h0 => by unfold Bn.readT; rw [if_pos rfl, if_pos (by show rdK (b.aimed aim) u x y = 0; rw [he9]; exact h0)]; show (b.shows (readK (b.aimed aim) u x y), _) = _; rw [hc9]
    have hr1 : e9 ≠ 0 → b.readT aim u (x, y, 0) = b.tell e9 := fun h0 => by unfold Bn.readT; rw [if_pos rfl, if_neg (by show ¬ rdK (b.aimed aim) u x y = 0; rw [he9]; exact h0)]; show b.tell (rdK (b.aimed aim) u x y) = _; rw [he9]
    rw [hc9, he9] at RR
    rw [he9] at hee
    have HSH := Lib.hid hsh; have HR0 := Lib.hid hr0; have HR1 := Lib.hid hr1; have HEE := Lib.hid hee
    clear hc9 he9 hsh hr0 hr1 hee
    have HBB : Hid (∃ b9, b9 = b) := Lib.hid ⟨b, rfl⟩
    obtain ⟨n0, n1, n2, n3, n4, n5⟩ := c9
    simp only [Clk.cs, Bn.aimed] at RR
    go_enter Tryz.func97, Tryz.ntmps97
    go_wp2_with fail
    refine (RM.out _ HH.out).mono ?_
    rintro e w1 ⟨rfl, hb1⟩
    have hq1 : Past [] w w1 := Past.below hb1
    have bP := Blk.keep hb1 HE1.out; have bN := Blk.keep hb1 HNB.out
    have Z1 : w.heap.size ≤ w1.heap.size := hb1.size
    unfold bnC at bP
    have z0 := (bN.cell 0).trans HC0.out; have z1 := (bN.cell 1).trans HC1.out
    clear hb1 cA0 cA1
    obtain ⟨cP, fP, lP, eP, kP⟩ := Blk.facts bP
    obtain ⟨cN, fN, lN, eN, kN⟩ := Blk.facts bN
    go_upto_region 5 with fail
    obtain ⟨w5, hX9⟩ : ∃ x9 : World, x9 = ((w1.alloc (.cells #[.int .i64 x, .int .i64 y] 40)).alloc (.cells #[.int .i64 aim, .int .i64 1000000, .bool b.ck.set, .bool b.ck.held, .int .i64 b.ck.at_, .int .i64 b.ck.shown] 70)) := ⟨_, rfl⟩
    have hqX : Past [] w w5 := by rw [hX9]; exact (by (repeat' (first | (with_reducible exact hq1) | (with_reducible exact Past.refl _ _) | (with_reducible refine Past.drew ?_) | (with_reducible refine Past.drewN ?_ _) | (with_reducible refine Past.allocs ?_ _) | (with_reducible refine' Past.setIn ?_ ?_ _; rotate_left 1; (focus (simp; done))) | (with_reducible refine' Past.far ?_ ?_ _; rotate_left 1; (first | omega | (simp <;> omega))))))
    have bP' : Blk w5 (g) 76 #[.bool b.begun, VL, .int .i64 b.li, .int .i64 b.p, .int .i64 b.ck.aim, .int .i64 b.ck.rate, .bool b.ck.set, .bool b.ck.held, .int .i64 b.ck.at_, .int .i64 b.ck.shown, pq, v] := by rw [hX9]; exact (by (repeat' (first | (with_reducible exact bP) | (with_reducible refine' Blk.alloc ?_ _) | (with_reducible refine' Blk.drew ?_) | (with_reducible refine' Blk.drewN ?_ _) | (with_reducible refine' Blk.put ?_ ?_) | (with_reducible refine' Blk.far ?_ ?_ _) | exact bP | exact rfl)) <;> (first | omega | (simp <;> omega)))
    have bN' : Blk w5 (gm) 3 curN := by rw [hX9]; exact (by (repeat' (first | (with_reducible exact bN) | (with_reducible refine' Blk.alloc ?_ _) | (with_reducible refine' Blk.drew ?_) | (with_reducible refine' Blk.drewN ?_ _) | (with_reducible refine' Blk.put ?_ ?_) | (with_reducible refine' Blk.far ?_ ?_ _) | exact bN | exact rfl)) <;> (first | omega | (simp <;> omega)))
    have bA' : Blk w5 (w1.heap.size) 40 #[.int .i64 x, .int .i64 y] := by rw [hX9]; exact (Blk.new _ _ _).alloc _
    have bT' : Blk w5 ((w1.heap.size + 1)) 70 #[.int .i64 aim, .int .i64 1000000, .bool b.ck.set, .bool b.ck.held, .int .i64 b.ck.at_, .int .i64 b.ck.shown] := by rw [hX9]; exact Blk.new1 _ _ _ _
    have Zw5 : w1.heap.size + 2 ≤ w5.heap.size := by rw [hX9]; first | omega | (simp; done) | (simp [setAll_size]; done) | (simp <;> omega)
    rw [← hX9]
    clear hX9 hq1
    clear bP cP fP lP eP kP; have bP := bP'; clear bP'
    clear bN cN fN lN eN kN; have bN := bN'; clear bN'
    have bA := bA'; clear bA'
    have bT := bT'; clear bT'
    have hqXw5 := hqX; clear hqX
    obtain ⟨cP, fP, lP, eP, kP⟩ := Blk.facts bP
    obtain ⟨cN, fN, lN, eN, kN⟩ := Blk.facts bN
    obtain ⟨cA, fA, lA, eA, kA⟩ := Blk.facts bA
    obtain ⟨cT, fT, lT, eT, kT⟩ := Blk.facts bT
    have oA := lA
    have oT := lT
    have z0 := (bN.cell 0).trans HC0.out; have z1 := (bN.cell 1).trans HC1.out
    refine' wp_region_calmD (by kernel_rfl) (fun D u9 w' => Past ((w1.heap.size + 1) :: []) w5 w' ∧ Blk w' (g) 76 #[.bool b.begun, VL, .int .i64 b.li, .int .i64 b.p, .int .i64 b.ck.aim, .int .i64 b.ck.rate, .bool b.ck.set, .bool b.ck.held, .int .i64 b.ck.at_, .int .i64 b.ck.shown, pq, v] ∧ Blk w' (gm) 3 curN ∧ Blk w' (w1.heap.size) 40 #[.int .i64 x, .int .i64 y] ∧ (D 9 = false → Blk w' ((w1.heap.size + 1)) 70 #[.int .i64 aim, .int .i64 1000000, .bool b.ck.set, .bool b.ck.held, .int .i64 b.ck.at_, .int .i64 b.ck.shown]) ∧ (D 9 = true → Blk w' ((w1.heap.size + 1)) 70 #[.int .i64 n0, .int .i64 n1, .bool n2, .bool n3, .int .i64 n4, .int .i64 n5]) ∧ w5.heap.size ≤ w'.heap.size) (fun _ _ => True) [(Is _), (Is _), (Is _), (Is _), (Is _), (Is _), (Is _), (Is _), (Is _), (fun _ _ _ => True), (Is _)] [[], [], [1], [2], [], [0, 3, 4], [5], [6], [6], [7], [8]] rfl (by kernel_rfl) (fun u => by (simp only [calmPut, Act.put, List.setIfInBounds_toArray, List.set_cons_zero, List.set_cons_succ, Nat.zero_add, Nat.reduceAdd]; rfl)) ?_ (calmKeep_cons keep_is' (calmKeep_cons keep_is' (calmKeep_cons keep_is' (calmKeep_cons keep_is' (calmKeep_cons keep_is' (calmKeep_cons keep_is' (calmKeep_cons keep_is' (calmKeep_cons keep_is' (calmKeep_cons keep_is' (calmKeep_cons keep_triv (calmKeep_cons keep_is' (calmKeep_nil)))))))))))) ?_ ?_
    · exact ⟨(by (repeat' (first | (with_reducible exact (Past.refl _ _)) | (with_reducible exact Past.refl _ _) | (with_reducible refine Past.drew ?_) | (with_reducible refine Past.drewN ?_ _) | (with_reducible refine Past.allocs ?_ _) | (with_reducible refine' Past.setIn ?_ ?_ _; rotate_left 1; (focus (simp; done))) | (with_reducible refine' Past.far ?_ ?_ _; rotate_left 1; (first | omega | (simp <;> omega)))))), (by (repeat' (first | (with_reducible exact bP) | (with_reducible refine' Blk.alloc ?_ _) | (with_reducible refine' Blk.drew ?_) | (with_reducible refine' Blk.drewN ?_ _) | (with_reducible refine' Blk.put ?_ ?_) | (with_reducible refine' Blk.far ?_ ?_ _) | exact bP | exact rfl)) <;> (first | omega | (simp <;> omega))), (by (repeat' (first | (with_reducible exact bN) | (with_reducible refine' Blk.alloc ?_ _) | (with_reducible refine' Blk.drew ?_) | (with_reducible refine' Blk.drewN ?_ _) | (with_reducible refine' Blk.put ?_ ?_) | (with_reducible refine' Blk.far ?_ ?_ _) | exact bN | exact rfl)) <;> (first | omega | (simp <;> omega))), (by (repeat' (first | (with_reducible exact bA) | (with_reducible refine' Blk.alloc ?_ _) | (with_reducible refine' Blk.drew ?_) | (with_reducible refine' Blk.drewN ?_ _) | (with_reducible refine' Blk.put ?_ ?_) | (with_reducible refine' Blk.far ?_ ?_ _) | exact bA | exact rfl)) <;> (first | omega | (simp <;> omega))), (fun _ => (by (repeat' (first | (with_reducible exact bT) | (with_reducible refine' Blk.alloc ?_ _) | (with_reducible refine' Blk.drew ?_) | (with_reducible refine' Blk.drewN ?_ _) | (with_reducible refine' Blk.put ?_ ?_) | (with_reducible refine' Blk.far ?_ ?_ _) | exact bT | exact rfl)) <;> (first | omega | (simp <;> omega)))), (fun h => by cases h), (by first | exact Nat.le_refl _ | omega | (simp <;> omega))⟩
    rotate_left 10
    · skip
      refine dSteps_cons (fun uu wq D hd hn hn2 hC hk K hK => ?_) ?_
      · obtain ⟨hP, mP, mN, mA, mT, yT, hZ⟩ := hC
        replace hn := Lib.hid hn; replace hn2 := Lib.hid hn2
        clear hk
        have z0 := (mN.cell 0).trans HC0.out; have z1 := (mN.cell 1).trans HC1.out
        have cP := mP.cell; have lP := mP.lt
        have cN := mN.cell; have lN := mN.lt
        have cA := mA.cell; have lA := mA.lt
        have hB := mT (hn.out 9 (by kernel_rfl)); have cT := hB.cell; have lT := hB.lt
        go_simp
        exact hK _ _ _ rfl ⟨hP, mP, mN, mA, mT, yT, hZ⟩ trivial rfl
      refine dSteps_cons (fun uu wq D hd hn hn2 hC hk K hK => ?_) ?_
      · obtain ⟨hP, mP, mN, mA, mT, yT, hZ⟩ := hC
        clear hn hn2
        clear hk
        go_simp
        exact hK _ _ _ rfl ⟨hP, mP, mN, mA, mT, yT, hZ⟩ trivial rfl
      refine dSteps_cons (fun uu wq D hd hn hn2 hC hk K hK => ?_) ?_
      · obtain ⟨hP, mP, mN, mA, mT, yT, hZ⟩ := hC
        clear hn hn2
        simp only [calmKnown, List.getElem?_cons_zero, List.getElem?_cons_succ, and_true, Is, Pure, Option.some.injEq, List.getD_cons_zero, List.getD_cons_succ, List.map_cons, List.map_nil] at hk
        have h1 := hk; clear hk
        simp only [h1] at hK ⊢
        have H1 := Lib.hid h1; clear h1
        go_simp
        exact hK _ _ _ rfl ⟨hP, mP, mN, mA, mT, yT, hZ⟩ trivial rfl
      refine dSteps_cons (fun uu wq D hd hn hn2 hC hk K hK => ?_) ?_
      · obtain ⟨hP, mP, mN, mA, mT, yT, hZ⟩ := hC
        replace hn := Lib.hid hn; replace hn2 := Lib.hid hn2
        simp only [calmKnown, List.getElem?_cons_zero, List.getElem?_cons_succ, and_true, Is, Pure, Option.some.injEq, List.getD_cons_zero, List.getD_cons_succ, List.map_cons, List.map_nil] at hk
        have h2 := hk; clear hk
        simp only [h2] at hK ⊢
        have H2 := Lib.hid h2; clear h2
        have z0 := (mN.cell 0).trans HC0.out; have z1 := (mN.cell 1).trans HC1.out
        have cP := mP.cell; have lP := mP.lt
        have cN := mN.cell; have lN := mN.lt
        have cA := mA.cell; have lA := mA.lt
        have hB := mT (hn.out 9 (by kernel_rfl)); have cT := hB.cell; have lT := hB.lt
        go_simp
        exact hK _ _ _ rfl ⟨hP, mP, mN, mA, mT, yT, hZ⟩ trivial rfl
      refine dSteps_cons (fun uu wq D hd hn hn2 hC hk K hK => ?_) ?_
      · obtain ⟨hP, mP, mN, mA, mT, yT, hZ⟩ := hC
        replace hn := Lib.hid hn; replace hn2 := Lib.hid hn2
        clear hk
        have z0 := (mN.cell 0).trans HC0.out; have z1 := (mN.cell 1).trans HC1.out
        have cP := mP.cell; have lP := mP.lt
        have cN := mN.cell; have lN := mN.lt
        have cA := mA.cell; have lA := mA.lt
        have hB := mT (hn.out 9 (by kernel_rfl)); have cT := hB.cell; have lT := hB.lt
        go_simp
        exact hK _ _ _ rfl ⟨hP, mP, mN, mA, mT, yT, hZ⟩ trivial rfl
      refine dSteps_cons (fun uu wq D hd hn hn2 hC hk K hK => ?_) ?_
      · obtain ⟨hP, mP, mN, mA, mT, yT, hZ⟩ := hC
        clear hn hn2
        simp only [calmKnown, List.getElem?_cons_zero, List.getElem?_cons_succ, and_true, Is, Pure, Option.some.injEq, List.getD_cons_zero, List.getD_cons_succ, List.map_cons, List.map_nil] at hk
        obtain ⟨h0, h3, h4⟩ := hk
        simp only [h0, h3, h4] at hK ⊢
        have H0 := Lib.hid h0; clear h0; have H3 := Lib.hid h3; clear h3; have H4 := Lib.hid h4; clear h4
        go_wp2_with fail
        first | (with_reducible refine (RR.out _).mono ?_)
        rintro e w2 ⟨rfl, hbl⟩
        exact hK _ _ _ rfl ⟨hP.call hbl, Blk.keep hbl mP, Blk.keep hbl mN, Blk.keep hbl mA, (fun h => Blk.keep hbl (mT h)), (fun h => Blk.keep hbl (yT h)), Nat.le_trans hZ hbl.size⟩ trivial rfl
      refine dSteps_cons (fun uu wq D hd hn hn2 hC hk K hK => ?_) ?_
      · obtain ⟨hP, mP, mN, mA, mT, yT, hZ⟩ := hC
        clear hn hn2
        simp only [calmKnown, List.getElem?_cons_zero, List.getElem?_cons_succ, and_true, Is, Pure, Option.some.injEq, List.getD_cons_zero, List.getD_cons_succ, List.map_cons, List.map_nil] at hk
        have h5 := hk; clear hk
        simp only [h5] at hK ⊢
        have H5 := Lib.hid h5; clear h5
        go_simp
        exact hK _ _ _ rfl ⟨hP, mP, mN, mA, mT, yT, hZ⟩ trivial rfl
      refine dSteps_cons (fun uu wq D hd hn hn2 hC hk K hK => ?_) ?_
      · obtain ⟨hP, mP, mN, mA, mT, yT, hZ⟩ := hC
        clear hn hn2
        simp only [calmKnown, List.getElem?_cons_zero, List.getElem?_cons_succ, and_true, Is, Pure, Option.some.injEq, List.getD_cons_zero, List.getD_cons_succ, List.map_cons, List.map_nil] at hk
        have h6 := hk; clear hk
        simp only [h6] at hK ⊢
        have H6 := Lib.hid h6; clear h6
        go_simp
        exact hK _ _ _ rfl ⟨hP, mP, mN, mA, mT, yT, hZ⟩ trivial rfl
      refine dSteps_cons (fun uu wq D hd hn hn2 hC hk K hK => ?_) ?_
      · obtain ⟨hP, mP, mN, mA, mT, yT, hZ⟩ := hC
        clear hn hn2
        simp only [calmKnown, List.getElem?_cons_zero, List.getElem?_cons_succ, and_true, Is, Pure, Option.some.injEq, List.getD_cons_zero, List.getD_cons_succ, List.map_cons, List.map_nil] at hk
        have h6 := hk; clear hk
        simp only [h6] at hK ⊢
        have H6 := Lib.hid h6; clear h6
        go_simp
        exact hK _ _ _ rfl ⟨hP, mP, mN, mA, mT, yT, hZ⟩ trivial rfl
      refine dSteps_cons (fun uu wq D hd hn hn2 hC hk K hK => ?_) ?_
      · obtain ⟨hP, mP, mN, mA, mT, yT, hZ⟩ := hC
        clear hn hn2
        simp only [calmKnown, List.getElem?_cons_zero, List.getElem?_cons_succ, and_true, Is, Pure, Option.some.injEq, List.getD_cons_zero, List.getD_cons_succ, List.map_cons, List.map_nil] at hk
        have h7 := hk; clear hk
        simp only [h7] at hK ⊢
        have H7 := Lib.hid h7; clear h7
        have hB := mT hd
        have hc9 := hB.cell; have hf9 := hB.frozen; have hl9 := hB.lt
        have hB2 := setAll_blk [.int .i64 n0, .int .i64 n1, .bool n2, .bool n3, .int .i64 n4, .int .i64 n5] 0 wq _ hB
        simp only [setArr, List.setIfInBounds_toArray, List.set_cons_zero, List.set_cons_succ, Nat.zero_add, Nat.reduceAdd] at hB2
        go_simp
        exact hK _ undef (setAll wq ((w1.heap.size + 1)) 0 [.int .i64 n0, .int .i64 n1, .bool n2, .bool n3, .int .i64 n4, .int .i64 n5]) rfl ⟨(setAll_pastX (by simp) [.int .i64 n0, .int .i64 n1, .bool n2, .bool n3, .int .i64 n4, .int .i64 n5] 0 wq hP), setAll_far (show g ≠ (w1.heap.size + 1) by first | omega | (simp <;> omega)) [.int .i64 n0, .int .i64 n1, .bool n2, .bool n3, .int .i64 n4, .int .i64 n5] 0 wq mP, setAll_far (show gm ≠ (w1.heap.size + 1) by first | omega | (simp <;> omega)) [.int .i64 n0, .int .i64 n1, .bool n2, .bool n3, .int .i64 n4, .int .i64 n5] 0 wq mN, setAll_far (show w1.heap.size ≠ (w1.heap.size + 1) by first | omega | (simp <;> omega)) [.int .i64 n0, .int .i64 n1, .bool n2, .bool n3, .int .i64 n4, .int .i64 n5] 0 wq mA, (fun h => by cases h), (fun _ => hB2), (by rw [setAll_size]; exact hZ)⟩ trivial trivial
      refine dSteps_cons (fun uu wq D hd hn hn2 hC hk K hK => ?_) ?_
      · obtain ⟨hP, mP, mN, mA, mT, yT, hZ⟩ := hC
        clear hn hn2
        simp only [calmKnown, List.getElem?_cons_zero, List.getElem?_cons_succ, and_true, Is, Pure, Option.some.injEq, List.getD_cons_zero, List.getD_cons_succ, List.map_cons, List.map_nil] at hk
        have h8 := hk; clear hk
        simp only [h8] at hK ⊢
        have H8 := Lib.hid h8; clear h8
        go_simp
        exact hK _ _ _ rfl ⟨hP, mP, mN, mA, mT, yT, hZ⟩ trivial rfl
      exact dSteps_nil
    · intro uu v1 D hD hC hF
      obtain ⟨hP, mP, mN, mA, mT, yT, hZ⟩ := hC
      simp only [calmFacts, Is, and_true, true_and] at hF
      obtain ⟨f0, f1, f2, f3, f4, f5, f6, f7, f8, f10⟩ := hF
      simp only [f0, f1, f2, f3, f4, f5, f6, f7, f8, f10]
      have bbT := yT (hD 9 (by decide))
      have hq := hP; clear hP
      have Kv1 : Past [] w v1 := Past.transF hqXw5 hq (by first | omega | (simp; omega))
      have Zv1 := hZ; clear hZ
      clear hq hqXw5
      clear bP cP fP lP eP kP; have bP := mP
      clear bN cN fN lN eN kN; have bN := mN
      clear bA cA fA lA eA kA; have bA := mA
      clear bT cT fT lT eT kT; have bT := bbT
      clear mP mN mA mT yT bbT hD
      obtain ⟨cP, fP, lP, eP, kP⟩ := Blk.facts bP
      obtain ⟨cN, fN, lN, eN, kN⟩ := Blk.facts bN
      obtain ⟨cA, fA, lA, eA, kA⟩ := Blk.facts bA
      obtain ⟨cT, fT, lT, eT, kT⟩ := Blk.facts bT
      have hKB := Past.toBelow Kv1
      have H5 := Lib.hid (HH.out.below hKB); have P5 := Lib.hid (HPW.out.below hKB); have K5 := Lib.hid hKB
      clear hKB RR RM
      by_cases h9 : e9 = 0
      · subst h9
        have hs5 := HSH.out rfl
        (try dsimp only at hs5)
        obtain ⟨li, hli⟩ : ∃ li, itoa n5 = li := ⟨_, rfl⟩
        have hll : li.length ≤ 21 := by rw [← hli]; exact itoa_length_le n5 hs5.1 hs5.2
        have RI := Lib.hid (fun W hW => hli ▸ itoa_any n5 hs5.1 hs5.2 W hW)
        cases n3 with
        | true =>
          have hsh : b.shows ⟨n0, n1, n2, true, n4, n5⟩ = Bn.say { b with ck := ⟨n0, n1, n2, true, n4, n5⟩ } (wClock ++ li ++ wHeld) [] := by rw [← hli]; rfl
          have hr := HR0.out rfl
          rw [hsh] at hr
          have HR9 := Lib.hid hr
          clear hr hsh hli
          go_wp2_with fail
          refine (told_0 g _).mono ?_
          rintro e w6 ⟨rfl, hw6⟩
          rw [hw6]
          clear hw6
          have hck := BnAt.clock ⟨n0, n1, n2, true, n4, n5⟩ H5.out
          have HCK := Lib.hid hck
          clear hck
          go_upto_region 9 with fail
          obtain ⟨w8, hw8⟩ : ∃ x : World, x = ((((((v1.setCell ⟨g, 4, none⟩ (.int .i64 n0)).setCell ⟨g, 5, none⟩ (.int .i64 n1)).setCell ⟨g, 6, none⟩ (.bool n2)).setCell ⟨g, 7, none⟩ (.bool true)).setCell ⟨g, 8, none⟩ (.int .i64 n4)).setCell ⟨g, 9, none⟩ (.int .i64 n5)) := ⟨_, rfl⟩
          have h8 : BnAt B w8 g { b with ck := ⟨n0, n1, n2, true, n4, n5⟩ } ∧ PastT B [5, 76] v1 w8 := by rw [hw8]; exact HCK.out
          have hq8 : Past [g] v1 w8 := by rw [hw8]; exact (by (repeat' (first | (with_reducible exact Past.refl _ _) | (with_reducible refine' Past.setIn ?_ ?_ _; rotate_left 1; (focus (simp; done))))))
          rw [← hw8]
          have bT8 := hq8.blk bT (by simp <;> omega)
          have cT8 := bT8.cell; have lT8 := bT8.lt
          have P8 := Lib.hid (P5.out.pastT h8.2); have H8 := Lib.hid h8
          clear hw8 hq8 h8 bT8 bT cT fT lT eT kT
          go_wp2_with fail
          refine (RI.out _ P8.out.1).mono ?_
          rintro e w9 ⟨rfl, hb9⟩
          have H9 := Lib.hid (H8.out.1.below hb9); have P9 := Lib.hid (P8.out.below hb9); have HB9 := Lib.hid hb9
          clear hb9 cT8 lT8
          go_wp2_with fail
          refine (say_any B g _ ⟨(wClock ++ li ++ wHeld).toArray⟩ none 0 0 [] _ H9.out (NumsR.nil _ _) (fun n hn => by simp at hn) P9.out (by show b.out.length + (wClock ++ li ++ wHeld).toArray.size + 22 * 0 + 1 ≤ _; simp [wClock, wHeld]; omega)).mono ?_
          rintro e w10 ⟨rfl, h10, hT10⟩
          go_wp2
          go_ret
          rw [HR9.out]
          exact ⟨rfl, h10, (((PastT.below K5.out).trans H8.out.2).trans ((PastT.below HB9.out).trans hT10)).three⟩
      
        | false =>
          have hsh : b.shows ⟨n0, n1, n2, false, n4, n5⟩ = Bn.say { b with ck := ⟨n0, n1, n2, false, n4, n5⟩ } (wClock ++ li ++ wFree) [] := by rw [← hli]; rfl
          have hr := HR0.out rfl
          rw [hsh] at hr
          have HR9 := Lib.hid hr
          clear hr hsh hli
          go_wp2_with fail
          refine (told_0 g _).mono ?_
          rintro e w6 ⟨rfl, hw6⟩
          rw [hw6]
          clear hw6
          have hck := BnAt.clock ⟨n0, n1, n2, false, n4, n5⟩ H5.out
          have HCK := Lib.hid hck
          clear hck
          go_upto_region 9 with fail
          obtain ⟨w8, hw8⟩ : ∃ x : World, x = ((((((v1.setCell ⟨g, 4, none⟩ (.int .i64 n0)).setCell ⟨g, 5, none⟩ (.int .i64 n1)).setCell ⟨g, 6, none⟩ (.bool n2)).setCell ⟨g, 7, none⟩ (.bool false)).setCell ⟨g, 8, none⟩ (.int .i64 n4)).setCell ⟨g, 9, none⟩ (.int .i64 n5)) := ⟨_, rfl⟩
          have h8 : BnAt B w8 g { b with ck := ⟨n0, n1, n2, false, n4, n5⟩ } ∧ PastT B [5, 76] v1 w8 := by rw [hw8]; exact HCK.out
          have hq8 : Past [g] v1 w8 := by rw [hw8]; exact (by (repeat' (first | (with_reducible exact Past.refl _ _) | (with_reducible refine' Past.setIn ?_ ?_ _; rotate_left 1; (focus (simp; done))))))
          rw [← hw8]
          have bT8 := hq8.blk bT (by simp <;> omega)
          have cT8 := bT8.cell; have lT8 := bT8.lt
          have P8 := Lib.hid (P5.out.pastT h8.2); have H8 := Lib.hid h8
          clear hw8 hq8 h8 bT8 bT cT fT lT eT kT
          go_wp2_with fail
          refine (RI.out _ P8.out.1).mono ?_
          rintro e w9 ⟨rfl, hb9⟩
          have H9 := Lib.hid (H8.out.1.below hb9); have P9 := Lib.hid (P8.out.below hb9); have HB9 := Lib.hid hb9
          clear hb9 cT8 lT8
          go_wp2_with fail
          refine (say_any B g _ ⟨(wClock ++ li ++ wFree).toArray⟩ none 0 0 [] _ H9.out (NumsR.nil _ _) (fun n hn => by simp at hn) P9.out (by show b.out.length + (wClock ++ li ++ wFree).toArray.size + 22 * 0 + 1 ≤ _; simp [wClock, wFree]; omega)).mono ?_
          rintro e w10 ⟨rfl, h10, hT10⟩
          go_wp2
          go_ret
          rw [HR9.out]
          exact ⟨rfl, h10, (((PastT.below K5.out).trans H8.out.2).trans ((PastT.below HB9.out).trans hT10)).three⟩
      · have g1 : (e9 == 0) = false := by simpa using h9
        have g2 : decide (e9 = 0) = false := by simpa using h9
        go_wp2_with fail
        refine (told_e B g b e9 _ H5.out h9 HEE.out.small P5.out hl).mono ?_
        rintro e w6 ⟨rfl, h6, hT6⟩
        go_wp2
        go_ret
        rw [HR1.out h9]
        exact ⟨rfl, h6, ((PastT.below K5.out).trans hT6).three⟩
  · have g1 : (er == 0) = false := by simpa using her
    have g2 : decide (er = 0) = false := by simpa using her
    have hr : b.readT aim u (x, y, er) = (b.say wError [er], 0) := if_neg her
    rw [hr]
    clear hr
    go_enter Tryz.func97, Tryz.ntmps97
    go_wp2_with fail
    refine (RM.out _ HH.out).mono ?_
    rintro e w1 ⟨rfl, hb1⟩
    have H1 := Lib.hid (HH.out.below hb1); have P1 := Lib.hid (HPW.out.below hb1); have HB1 := Lib.hid hb1
    have bP := Blk.keep hb1 HE1.out; have bN := Blk.keep hb1 HNB.out
    unfold bnC at bP
    have z0 := (bN.cell 0).trans HC0.out; have z1 := (bN.cell 1).trans HC1.out
    have cP := bP.cell; have lP := bP.lt; have lN := bN.lt
    clear hb1 cA0 cA1
    go_wp2_with fail
    refine (told_e B g b er _ (H1.out.below (by (repeat' (first | (with_reducible exact Below.refl _ _) | (with_reducible refine Below.setCell ?_ ?_ _) | (with_reducible refine Below.alloc ?_ ?_ _) | (with_reducible refine Below.drew ?_) | (with_reducible refine below_drewN ?_ _))) <;> (first | omega | (simp <;> omega)))) her HME.out.small (P1.out.below (by (repeat' (first | (with_reducible exact Below.refl _ _) | (with_reducible refine Below.setCell ?_ ?_ _) | (with_reducible refine Below.alloc ?_ ?_ _) | (with_reducible refine Below.drew ?_) | (with_reducible refine below_drewN ?_ _))) <;> (first | omega | (simp <;> omega)))) hl).mono ?_
    rintro e w3 ⟨rfl, h3, hT3⟩
    go_wp2
    go_ret
    exact ⟨rfl, h3, ((PastT.below (show Below w.heap.size w _ from kept_call (show Below w1.heap.size w1 _ from (by (repeat' (first | (with_reducible exact Below.refl _ _) | (with_reducible refine Below.setCell ?_ ?_ _) | (with_reducible refine Below.alloc ?_ ?_ _) | (with_reducible refine Below.drew ?_) | (with_reducible refine below_drewN ?_ _))) <;> (first | omega | (simp <;> omega)))) HB1.out)).trans hT3).three⟩
end Go.Proofs.YtiinmhfolfgobaaGreatDoor
