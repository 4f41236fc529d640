/- Lemmas. -/
import Derived.BigQuiet
import Derived.Deep.QuietTactic
import Derived.Deep.DeepCutAuto
import Derived.Test.YtiinmhfolfgobaaGreatDoorJ30
import Derived.Test.YtiinmhfolfgobaaGreatDoorJ29
import Derived.Test.YtiinmhfolfgobaaGreatDoorJ20
import Derived.Test.YtiinmhfolfgobaaGreatDoorJ24
set_option linter.unusedVariables false
set_option linter.unusedSimpArgs false
namespace Go.Proofs.YtiinmhfolfgobaaGreatDoor
open Go.RowKit Go.Lib
set_option maxHeartbeats 64000000
set_option maxRecDepth 100000
theorem BnAt.store {B g i : Nat} {w : World} {b b' : Bn} {u : Value} (h : BnAt B w g b) (hs : b'.srcs = b.srcs) (ho : b'.out = b.out) (hc : ∀ VL p v, (bnC b VL p v).setIfInBounds i u = bnC b' VL p v) : BnAt B (w.setCell ⟨g, i, none⟩ u) g b' := by
 obtain ⟨hB, VL, p, v, e1, e2, e3, e4⟩ := h
 have hq : Past [g] w (w.setCell ⟨g, i, none⟩ u) := Past.set Ys _
 have hT : PastT B [76] w (w.setCell ⟨g, i, none⟩ u) := .of_past hq (fun k hk => by simp at hk; subst hk; exact ⟨hB, _, _, _, e1, by simp⟩)
 exact ⟨hB, VL, p, v, e1.put (hc _ _ _), by rw [hs]; exact e2.pastT hT Yd, e3, by rw [ho]; exact e4.pastT hT Yd⟩
theorem BnAt.setT {B g i : Nat} {w : World} {b : Bn} {u : Value} (h : BnAt B w g b) : PastT B [5, 76] w (w.setCell ⟨g, i, none⟩ u) := by
 obtain ⟨hB, VL, p, v, e1, e2, e3, e4⟩ := h
 exact .of_past (X := [g]) (Past.set Ys _) (fun k hk => by simp at hk; subst hk; exact ⟨hB, _, _, _, e1, by simp⟩)
def LnR (B g : Nat) (w : World) (r : Bn × Int) (e : Ending) (w' : World) : Prop := e = .returned (.int .i64 r.2) ∧ BnAt B w' g r.1 ∧ PastT B [5, 76, 170] w w'
theorem PastT.three {B : Nat} {w w' : World} (h : PastT B [5, 76] w w') : PastT B [5, 76, 170] w w' := h.mono (fun t ht => by simp at ht ⊢; rcases ht with rfl | rfl <;> simp)
def SliceB (X : List Nat) (lo : Nat) (t : TypeId) (n : Nat) (cs : Array Value) : List Value → Value → World → Prop := fun _ v w => ∃ g, v = .slice (some ⟨g, 0, none⟩) n n ∧ g ∉ X ∧ lo ≤ g ∧ Blk w g t cs
theorem keep_sliceB {X : List Nat} {lo : Nat} {t : TypeId} {n : Nat} {cs : Array Value} : ∀ d v w w', Past X w w' → SliceB X lo t n cs d v w → SliceB X lo t n cs d v w' := fun _ _ _ _ h ⟨g, e, hn, hl, hb⟩ => ⟨g, e, hn, hl, h.blk hb hn⟩
theorem Blk.ne {w : World} {a c : Nat} {t t' : TypeId} {x y : Array Value} (h : Blk w a t x) (k : Blk w c t' y) (ht : t ≠ t') : a ≠ c := by
 rintro rfl
 unfold Blk at h k
 rw [h] at k
 injection k with k; injection k with _ e _
 exact ht e
def srcSt (b : Bn) (VL p v : Value) (f : Int) : Nat → List Value → Array Value
 | 0, _ => bnC b VL p v
 | 1, _ => bnC { b with begun := true } VL p v
 | 2, us => bnC { b with begun := true } (us.getD 0 undef) p v
 | 3, us => bnC { b with begun := true, li := f } (us.getD 0 undef) p v
 | 4, us => bnC { b with begun := true, li := f, p := 0 } (us.getD 0 undef) p v
 | _, us => bnC { b with begun := true, li := f, p := 0, ck := .zero } (us.getD 0 undef) p v
theorem infoSrc : (Tryz.prog.info? 170).map (fun i => (i.zero, i.size, i.bytes)) = some (some (.agg #[.bool false, .int .i64 0, .int .i64 0, .int .i64 0, .int .i64 0, .int .i64 0, .int .i64 0]), 7, 56) := by kernel_rfl
theorem NumsR.newE {w : World} {gn : Nat} (zs : List Int) (h : gn = w.heap.size) : NumsR (w.alloc (.cells (zs.map (Value.int .i64)).toArray 3)) (some ⟨gn, 0, none⟩) zs.length zs := h ▸ NumsR.new w zs
def DrRel (w : World) (l : List Kw) (n : Nat) (G : Nat) (i : Value) (wr : World) : Prop := ∃ q, q ≤ n ∧ G = n - q ∧ i = .int .i64 q ∧ (∀ j, j < q → (l.getD j (false, .zero)).1 = false) ∧ Below w.heap.size w wr
theorem now_any (B g : Nat) (b : Bn) (A : Option Addr) (cap : Nat) (u : Int) (w : World) (h : BnAt B w g b) (hn : NumsR w A 1 [u]) (hpow : PowB B w) (hl : b.out.length ≤ 900000) (hs : b.srcs.length ≤ 64) :
  Calls Tryz.prog 96 #[.pointer (some ⟨g, 0, none⟩), .slice A 1 cap] w (LnR B g w (b.now u)) := by
 have hmb := mgO_b (knowns b.srcs) u b.li
 have RM := Yh (fun W hW => merged_any B g b u W hW hs)
 obtain ⟨gA, rfl, hgA, hcA⟩ := hn.cell 0 Yo
 have cA := hcA 0 Yo
 rw [show [u].getD 0 0 = u from rfl] at cA
 unfold Bn.now
 obtain ⟨m, hm⟩ : ∃ m, mgO (knowns b.srcs) u b.li = m := ⟨_, rfl⟩
 rw [hm] at hmb ⊢
 replace RM := Yh (fun W hW => hm ▸ RM.out W hW)
 clear hm
 obtain ⟨x, y, er⟩ := m
 obtain ⟨hme, hmv⟩ := hmb
 unfold V3 at RM
 dsimp only at RM hme hmv
 have HH := Yh h; have HPW := Yh hpow; have HME := Yh hme; have HMV := Yh hmv; clear h hpow hcA hn hme hmv
 by_cases her : er = 0
 ·subst her
  have hxy := vS_small (HMV.out rfl)
  have hr : b.nowT (x, y, 0) = (b.say wSpan [x, y], 0) := rfl
  rw [hr]
  clear hr
  go_enter Tryz.func96, Tryz.ntmps96
  go_wp2_with fail
  refine (RM.out _ HH.out).mono ?_
  rintro e w1 ⟨rfl, hb1⟩
  have H1 := Yh (HH.out.below hb1); have P1 := Yh (HPW.out.below hb1); have HB1 := Yh hb1
  clear hb1
  go_wp2_with fail
  refine (told_0 g _).mono ?_
  rintro e w2 ⟨rfl, rfl⟩
  go_wp2_with fail
  refine (say_any B g b ⟨#[115, 112, 97, 110]⟩ _ 2 2 [x, y] _ (H1.out.below bl0) (NumsR.newE [x, y] (by first | rfl | (simp; done))) (fun n hn => by simp at hn; rcases hn with rfl | rfl; exact hxy.1; exact hxy.2) (P1.out.below bl0) (by show _ + 4 + 22 * 2 + 1 ≤ _; omega)).mono ?_
  rintro e w3 ⟨rfl, h3, hT3⟩
  go_wp2
  go_ret
  exact ⟨rfl, h3, ((PastT.below (show Below w.heap.size w _ from Yc (show Below w1.heap.size w1 _ from bl0) HB1.out)).trans hT3).three⟩
 ·have g1 : (er == 0) = false := by simpa using her
  have g2 : decide (er = 0) = false := by simpa using her
  have hr : b.nowT (x, y, er) = (b.say wError [er], 0) := if_neg her
  rw [hr]
  clear hr
  go_enter Tryz.func96, Tryz.ntmps96
  go_wp2_with fail
  refine (RM.out _ HH.out).mono ?_
  rintro e w1 ⟨rfl, hb1⟩
  have H1 := Yh (HH.out.below hb1); have P1 := Yh (HPW.out.below hb1); have HB1 := Yh hb1
  clear hb1
  go_wp2_with fail
  refine (told_e B g b er _ (H1.out.below bl0) her HME.out.small (P1.out.below bl0) hl).mono ?_
  rintro e w3 ⟨rfl, h3, hT3⟩
  go_wp2
  go_ret
  exact ⟨rfl, h3, ((PastT.below (show Below w.heap.size w _ from Yc (show Below w1.heap.size w1 _ from bl0) HB1.out)).trans hT3).three⟩
theorem drift_any (B g : Nat) (b : Bn) (A : Option Addr) (cap : Nat) (pp : Int) (w : World) (h : BnAt B w g b) (hn : NumsR w A 1 [pp]) (hsm : vT pp = true) (hpow : PowB B w) (hl : b.out.length ≤ 900000) (hs : b.srcs.length ≤ 64) :
  Calls Tryz.prog 93 #[.pointer (some ⟨g, 0, none⟩), .slice A 1 cap] w (LnR B g w (b.drift pp)) := by
 obtain ⟨gA, rfl, hgA, hcA⟩ := hn.cell 0 Yo
 have cA := hcA 0 Yo
 rw [show [pp].getD 0 0 = pp from rfl] at cA
 have HN := Yh hn
 have HH := Yh h; have HPW := Yh hpow
 obtain ⟨hB, VL, pq, v, e1, ⟨AV, rfl, e2⟩, e3, e4⟩ := h
 have HS := Yh e2
 have cP := e1.cell
 have hgl := e1.lt
 unfold bnC at cP
 obtain ⟨l, hll⟩ : ∃ l, b.srcs = l := ⟨_, rfl⟩
 rw [hll] at cP hs HS
 have HLL := Yh hll
 clear hpow hcA hn e1 e2 e3 e4 hll
 go_enter Tryz.func93, Tryz.ntmps93
 go_wp2
 clear cP cA
 go_loopg [12] l.length (fun G i wr => DrRel w l l.length G i wr)
 case atStart => exact ⟨0, Yo, Yo, rfl, (fun j hj => by omega), Below.refl _ _⟩
 case round =>
  obtain ⟨q, hq, rfl, rfl, hno, KR⟩ := hrel
  have ZR := KR.size
  have HKR := Yh KR; have HNO := Yh hno; clear hno
  by_cases hlt : q < l.length
  ·have gp : decide ((q : Int) < (l.length : Int)) = true := Y2
   have gpn : decide (q < l.length) = true := decide_eq_true hlt
   have wp : IntKind.i64.wrap ((q : Int) + 1) = ((q + 1 : Nat) : Int) := Y4
   obtain ⟨gs, cur, rfl, hgs, hSb, hSc⟩ := HS.out Yo
   have bS := Yk KR hSb
   have lS := bS.lt
   have hcs := hSc.2 q hlt
   have d0 := (bS.cell (q * 7)).trans (hcs 0 Yo)
   have d1 := (bS.cell (q * 7 + 1)).trans (hcs 1 Yo)
   have d2 := (bS.cell (q * 7 + 2)).trans (hcs 2 Yo)
   have d3 := (bS.cell (q * 7 + 3)).trans (hcs 3 Yo)
   have d4 := (bS.cell (q * 7 + 4)).trans (hcs 4 Yo)
   have d5 := (bS.cell (q * 7 + 5)).trans (hcs 5 Yo)
   have d6 := (bS.cell (q * 7 + 6)).trans (hcs 6 Yo)
   obtain ⟨kv, hkv⟩ : ∃ kv, l.getD q (false, .zero) = kv := ⟨_, rfl⟩
   rw [hkv] at d0 d1 d2 d3 d4 d5 d6
   have HKV := Yh hkv
   clear hkv hcs hSc hSb
   obtain ⟨bb, na, nlo, nhi, np, nle, nre⟩ := kv
   simp only [kwC, K6.cs, lg0, lg1] at d0 d1 d2 d3 d4 d5 d6
   clear bS KR
   cases bb with
   | false =>
    go_wp2
    go_roundg (l.length - (q + 1))
    case measure => omega
    case rel =>
     refine ⟨q + 1, Yo, Yo, by go_num, fun j hj => ?_, (Yc (show Below wr.heap.size wr _ from bl0) HKR.out)⟩
     by_cases e : j = q
     ·rw [e, HKV.out]
     ·exact HNO.out j Yo
   | true =>
    have hr : b.drift pp = (b, 7) := by
     unfold Bn.drift
     rw [if_pos]
     rw [HLL.out, List.any_eq_true]
     exact ⟨l.getD q (false, .zero), by rw [Y8, Y9 hlt]; exact List.getElem_mem _, by rw [HKV.out]⟩
    have HR9 := Yh hr
    clear hr
    go_wp2
    go_ret
    rw [HR9.out]
    exact ⟨rfl, HH.out.below (Yc (show Below wr.heap.size wr _ from bl0) HKR.out), PastT.below (Yc (show Below wr.heap.size wr _ from bl0) HKR.out)⟩
  ·obtain rfl : q = l.length := by omega
   have gp : decide ((l.length : Int) < (l.length : Int)) = false := Y3
   have gpn : decide (l.length < l.length) = false := Y3
   have hany : (b.srcs.any (·.1)) = false := by
    rw [HLL.out, List.any_eq_false]
    intro k hk
    obtain ⟨j, hj, rfl⟩ := List.getElem_of_mem hk
    have := HNO.out j hj
    rw [Y8, Y9 hj] at this
    simpa using this
   have HR := Yh (HH.out.below KR); have PR := Yh (HPW.out.below KR); have NR := Yh (HN.out.below KR)
   obtain ⟨gA', ea, hgA', hcA⟩ := NR.out.cell 0 Yo
   obtain rfl : gA = gA' := by injection ea with ea; injection ea with ea
   have cA := hcA 0 Yo
   rw [show [pp].getD 0 0 = pp from rfl] at cA
   have hvp := vT_true.1 hsm
   clear hcA ea HNO KR
   by_cases h0 : pp < 0
   ·have c0 : decide (pp < 0) = true := decide_eq_true h0
    have hr : b.drift pp = (b, 4) := by unfold Bn.drift; rw [hany, if_neg Ys, if_neg Yo]
    have HR9 := Yh hr
    clear hr hany
    go_wp2
    go_ret
    rw [HR9.out]
    exact ⟨rfl, HR.out, PastT.below HKR.out⟩
   ·have c0 : decide (pp < 0) = false := decide_eq_false h0
    by_cases h1 : pp > 1000000
    ·have c1 : decide (pp > 1000000) = true := decide_eq_true h1
     have c1' : decide (1000000 < pp) = true := c1
     have hr : b.drift pp = (b, 4) := by unfold Bn.drift; rw [hany, if_neg Ys, if_neg Yo]
     have HR9 := Yh hr
     clear hr hany
     go_wp2
     go_ret
     rw [HR9.out]
     exact ⟨rfl, HR.out, PastT.below HKR.out⟩
    ·have c1 : decide (pp > 1000000) = false := decide_eq_false h1
     have c1' : decide (1000000 < pp) = false := c1
     have hr : b.drift pp = (Bn.say { b with p := pp } wDrift [pp], 0) := by unfold Bn.drift; rw [hany, if_neg Ys, if_pos Yo]
     have HR9 := Yh hr
     have hg0 := HR.out.lt
     obtain ⟨hB9, VL9, p9, v9, e91, -⟩ := HR.out
     have fP := e91.frozen
     have cP9 : ∃ u9, wr.cell? ⟨g, 3, none⟩ = some u9 := ⟨_, e91.cell 3⟩
     obtain ⟨u9, cP9⟩ := cP9
     clear hr hany e91
     go_wp2_with fail
     have hst : BnAt B (wr.setCell ⟨g, 3, none⟩ (.int .i64 pp)) g { b with p := pp } := HR.out.store (b' := { b with p := pp }) rfl rfl (fun _ _ _ => rfl)
     have hsT := HR.out.setT (i := 3) (u := .int .i64 pp)
     refine (say_any B g { b with p := pp } ⟨#[100, 114, 105, 102, 116]⟩ _ 1 _ [pp] _ hst (NR.out.pastT hsT Yd) (fun n hn => by simp at hn; rw [hn]; exact smallI_vT hsm) (PR.out.pastT hsT) (by show _ + 5 + 22 * 1 + 1 ≤ _; show b.out.length + 5 + 22 * 1 + 1 ≤ _; omega)).mono ?_
     rintro e w3 ⟨rfl, h3, hT3⟩
     go_wp2
     go_ret
     rw [HR9.out]
     exact ⟨rfl, h3, (((PastT.below HKR.out).trans hsT).trans hT3).three⟩
theorem sources_any (B g : Nat) (b : Bn) (A : Option Addr) (cap : Nat) (n f : Int) (w : World) (h : BnAt B w g b) (hn : NumsR w A 2 [n, f]) (hsn : vT n = true) (hsf : vT f = true) (hpow : PowB B w) (hl : b.out.length ≤ 900000) :
  Calls Tryz.prog 92 #[.pointer (some ⟨g, 0, none⟩), .slice A 2 cap] w (LnR B g w (b.sources n f)) := by
 have hvn := vT_true.1 hsn; have hvf := vT_true.1 hsf
 have HN := Yh hn
 obtain ⟨gA, curN, rfl, hNb0, hNc⟩ := hn.2 Yo
 have hgA := hNb0.lt
 have hc0 : curN[0]? = some (.int .i64 n) := hNc 0 Yo
 have hc1 : curN[1]? = some (.int .i64 f) := hNc 1 Yo
 have cA0 := (hNb0.cell 0).trans hc0
 have cA1 := (hNb0.cell 1).trans hc1
 have HNB := Yh hNb0; have HC0 := Yh hc0; have HC1 := Yh hc1
 clear hNc hNb0 hc0 hc1
 have w2f : IntKind.i64.wrap (2 * f) = 2 * f := IntWalk.i64_in _ Yo
 have HH := Yh h; have HPW := Yh hpow
 have HVN := Yh hsn; have HVF := Yh hsf
 clear hpow hn hsn hsf h
 by_cases h0 : n < 1
 ·have c0 : decide (n < 1) = true := decide_eq_true h0
  have hr : b.sources n f = (b, 4) := by unfold Bn.sources; rw [if_neg Yo]
  rw [hr]
  clear hr
  go_enter Tryz.func92, Tryz.ntmps92
  go_wp2_with fail
  go_quiet (fail)
  go_wp2
  go_ret
  exact ⟨rfl, HH.out.below (below_drewN Yl _), PastT.below (below_drewN Yl _)⟩
 ·have c0 : decide (n < 1) = false := decide_eq_false h0
  by_cases h1 : n > 8
  ·have c1 : decide (n > 8) = true := decide_eq_true h1
   have c1' : decide (8 < n) = true := c1
   have hr : b.sources n f = (b, 4) := by unfold Bn.sources; rw [if_neg Yo]
   rw [hr]
   clear hr
   go_enter Tryz.func92, Tryz.ntmps92
   go_wp2_with fail
   go_quiet (fail)
   go_wp2
   go_ret
   exact ⟨rfl, HH.out.below (below_drewN Yl _), PastT.below (below_drewN Yl _)⟩
  ·have c1 : decide (n > 8) = false := decide_eq_false h1
   have c1' : decide (8 < n) = false := c1
   by_cases h2 : f < 0
   ·have c2 : decide (f < 0) = true := decide_eq_true h2
    have hr : b.sources n f = (b, 4) := by unfold Bn.sources; rw [if_neg Yo]
    rw [hr]
    clear hr
    go_enter Tryz.func92, Tryz.ntmps92
    go_wp2_with fail
    go_quiet (fail)
    go_wp2
    go_ret
    exact ⟨rfl, HH.out.below (below_drewN Yl _), PastT.below (below_drewN Yl _)⟩
   ·have c2 : decide (f < 0) = false := decide_eq_false h2
    by_cases h3 : f > n
    ·have c3 : decide (f > n) = true := decide_eq_true h3
     have c3' : decide (n < f) = true := c3
     have hr : b.sources n f = (b, 4) := by unfold Bn.sources; rw [if_neg Yo]
     rw [hr]
     clear hr
     go_enter Tryz.func92, Tryz.ntmps92
     go_wp2_with fail
     go_quiet (fail)
     go_wp2
     go_ret
     exact ⟨rfl, HH.out.below (below_drewN Yl _), PastT.below (below_drewN Yl _)⟩
    ·have c3 : decide (f > n) = false := decide_eq_false h3
     have c3' : decide (n < f) = false := c3
     by_cases h4 : 2 * f ≥ n
     ·have c4 : decide (2 * f ≥ n) = true := decide_eq_true h4
      have c4' : decide (n ≤ 2 * f) = true := c4
      have hr : b.sources n f = (b, 4) := by unfold Bn.sources; rw [if_neg Yo]
      rw [hr]
      clear hr
      go_enter Tryz.func92, Tryz.ntmps92
      go_wp2_with fail
      go_quiet (fail)
      go_wp2
      go_ret
      exact ⟨rfl, HH.out.below (below_drewN Yl _), PastT.below (below_drewN Yl _)⟩
     ·have c4 : decide (2 * f ≥ n) = false := decide_eq_false h4
      have c4' : decide (n ≤ 2 * f) = false := c4
      obtain ⟨m, rfl⟩ : ∃ m : Nat, n = (m : Int) := ⟨n.toNat, Yo⟩
      have hm1 : 1 ≤ m := by omega
      have hm8 : m ≤ 8 := by omega
      have hr : b.sources m f = (Bn.say ⟨true, List.replicate m (false, .zero), f, 0, .zero, b.out⟩ wSources [(m : Int), f], 0) := by unfold Bn.sources; rw [if_pos Yo]; rfl
      rw [hr]
      clear hr
      go_enter Tryz.func92, Tryz.ntmps92
      obtain ⟨hB, VL, pq, v, e1, e2, e3, e4⟩ := HH.out
      have HE1 := Yh e1; have HE4 := Yh e4
      have hgl := e1.lt
      have hAg : gA ≠ g := Blk.ne HNB.out e1 Yd
      obtain ⟨iS, hiS, hzS, hsS, hbS⟩ := info_parts infoSrc
      clear e1 e2 e4
      obtain ⟨be, sr, li, pp, ck, ou⟩ := b
      obtain ⟨ai, ra, se, he, at_, sh⟩ := ck
      go_wp2_with fail
      go_quiet (fail)
      go_upto_region 3 with fail
      clear cA0 cA1
      refine' wp_region_calm Yr (fun n us w' => Past [g] w w' ∧ Blk w' gA 3 curN ∧ Blk w' g 76 (srcSt (⟨be, sr, li, pp, ⟨ai, ra, se, he, at_, sh⟩, ou⟩ : Bn) VL pq v f n us)) (Past [g]) [Is _, Is _, Is _, Is _, Is _, Is _, Is _, Is _, (SliceB [g] w.heap.size 170 m (madeCells #[.bool false, .int .i64 0, .int .i64 0, .int .i64 0, .int .i64 0, .int .i64 0, .int .i64 0] (m * 7))), Is _, Is _, Is _, Is _, Is _, Is _, (fun _ _ _ => True), Is _, Is _, (fun _ _ _ => True), Is _, Is _, (fun _ _ _ => True), Is _, Is _, (fun _ _ _ => True), Is _, Is _, (fun _ _ _ => True)] [[], [], [], [], [], [], [5], [6], [7], [], [9], [10], [], [0], [13], [14], [1], [16], [17, 8], [2], [19], [20, 11], [3], [22], [23], [4], [25], [26, 12]] [15, 18, 21, 24, 27] [8] rfl (calmB_of Yr) Yp ?_ (Y1 (Y1 (Y1 (Y1 (Y1 (Y1 (Y1 (Y1 (kcc keep_sliceB (Y1 (Y1 (Y1 (Y1 (Y1 (Y1 (Y0 (Y1 (Y1 (Y0 (Y1 (Y1 (Y0 (Y1 (Y1 (Y0 (Y1 (Y1 (Y0 Yn)))))))))))))))))))))))))))) ?_ ?_
      ·intro _
       exact ⟨(show Past [g] w w from Past.refl _ _), HNB.out, HE1.out⟩
      rotate_left 22
      ·skip
       iterate 7 refine zq0 ?_
       refine zq1 (fun _ _ _ _ _ ⟨_, hN, _⟩ => Ya ((hN.cell 0).trans HC0.out) hN.lt) ?_
       refine Yz (fun u wq n hn hn2 hC hk K hK => ?_) ?_
       ·obtain ⟨hP, hN, hG⟩ := hC
        simp only [calmKnown, lg0, lg1, and_true, Is] at hk
        have h7 := hk; clear hk
        simp only [h7] at hK ⊢
        have H7 := Yh h7; clear h7
        have hmk := run_makeSlice (P := Tryz.prog) (w := wq) 68 170 iS _ Tryz.underlying68 hiS hzS .i64 .i64 (m : Int) (m : Int) Yo (Int.le_refl _) (by rw [hsS]; simp only [Int.toNat_natCast]; omega) (by rw [hbS]; omega) Yo
        simp only [Int.toNat_natCast, hsS] at hmk
        go_simp
        have lG := hG.lt
        have hn9 : n ≤ 1 := hn2 1 18 rfl (calmReach_of Yd Yr)
        obtain rfl | rfl : n = 0 ∨ n = 1 := by omega
        all_goals exact hK _ _ _ rfl ⟨hP.allocs _, hN.alloc _, hG.alloc _⟩ (Past.alloc _ _ _) ⟨_, rfl, (by simp; omega), hP.1, Blk.new _ _ _⟩
       iterate 2 refine zq0 ?_
       refine zq1 (fun _ _ _ _ _ ⟨_, hN, _⟩ => Ya ((hN.cell 1).trans HC1.out) hN.lt) ?_
       iterate 3 refine zq0 ?_
       refine Yz (fun u wq n hn hn2 hC hk K hK => ?_) ?_
       ·obtain ⟨hP, hN, hG⟩ := hC
        simp only [calmKnown, lg0, lg1, and_true, Is] at hk
        have h14 := hk; clear hk
        simp only [h14] at hK ⊢
        have H14 := Yh h14; clear h14
        obtain rfl := hn 0 rfl
        have hG0 : Blk wq g 76 #[.bool be, VL, .int .i64 li, .int .i64 pp, .int .i64 ai, .int .i64 ra, .bool se, .bool he, .int .i64 at_, .int .i64 sh, pq, v] := hG
        have fG := hG0.frozen; have zG := hG0.cell; have lG := hG0.lt
        go_simp
        exact hK _ undef _ rfl ⟨hP.setIn Ys _, hN.far (by simpa using hAg) _, (hG0.put rfl)⟩ (Past.set Ys _) trivial
       iterate 2 refine zq0 ?_
       refine Yz (fun u wq n hn hn2 hC hk K hK => ?_) ?_
       ·obtain ⟨hP, hN, hG⟩ := hC
        simp only [calmKnown, lg0, lg1, and_true, Is] at hk
        obtain ⟨h17, ⟨gN, h8, hn8, hl8, hb8⟩⟩ := hk
        simp only [h17, h8] at hK ⊢
        have H17 := Yh h17; clear h17; have H8 := Yh h8; clear h8
        obtain rfl := hn 1 rfl
        have hG0 : Blk wq g 76 #[.bool true, VL, .int .i64 li, .int .i64 pp, .int .i64 ai, .int .i64 ra, .bool se, .bool he, .int .i64 at_, .int .i64 sh, pq, v] := hG
        have fG := hG0.frozen; have zG := hG0.cell; have lG := hG0.lt
        go_simp
        exact hK _ undef _ rfl ⟨hP.setIn Ys _, hN.far (by simpa using hAg) _, (by show Blk _ g 76 #[.bool true, (u 8), .int .i64 li, .int .i64 pp, .int .i64 ai, .int .i64 ra, .bool se, .bool he, .int .i64 at_, .int .i64 sh, pq, v]; rw [H8.out]; exact hG0.put rfl)⟩ (Past.set Ys _) trivial
       iterate 2 refine zq0 ?_
       refine Yz (fun u wq n hn hn2 hC hk K hK => ?_) ?_
       ·obtain ⟨hP, hN, hG⟩ := hC
        simp only [calmKnown, lg0, lg1, and_true, Is] at hk
        obtain ⟨h20, h11⟩ := hk
        simp only [h20, h11] at hK ⊢
        have H20 := Yh h20; clear h20; have H11 := Yh h11; clear h11
        obtain rfl := hn 2 rfl
        have hG0 : Blk wq g 76 #[.bool true, (u 8), .int .i64 li, .int .i64 pp, .int .i64 ai, .int .i64 ra, .bool se, .bool he, .int .i64 at_, .int .i64 sh, pq, v] := hG
        have fG := hG0.frozen; have zG := hG0.cell; have lG := hG0.lt
        go_simp
        exact hK _ undef _ rfl ⟨hP.setIn Ys _, hN.far (by simpa using hAg) _, (hG0.put rfl)⟩ (Past.set Ys _) trivial
       iterate 2 refine zq0 ?_
       refine Yz (fun u wq n hn hn2 hC hk K hK => ?_) ?_
       ·obtain ⟨hP, hN, hG⟩ := hC
        simp only [calmKnown, lg0, lg1, and_true, Is] at hk
        have h23 := hk; clear hk
        simp only [h23] at hK ⊢
        have H23 := Yh h23; clear h23
        obtain rfl := hn 3 rfl
        have hG0 : Blk wq g 76 #[.bool true, (u 8), .int .i64 f, .int .i64 pp, .int .i64 ai, .int .i64 ra, .bool se, .bool he, .int .i64 at_, .int .i64 sh, pq, v] := hG
        have fG := hG0.frozen; have zG := hG0.cell; have lG := hG0.lt
        go_simp
        exact hK _ undef _ rfl ⟨hP.setIn Ys _, hN.far (by simpa using hAg) _, (hG0.put rfl)⟩ (Past.set Ys _) trivial
       iterate 2 refine zq0 ?_
       refine Yz (fun u wq n hn hn2 hC hk K hK => ?_) ?_
       ·obtain ⟨hP, hN, hG⟩ := hC
        simp only [calmKnown, lg0, lg1, and_true, Is] at hk
        obtain ⟨h26, h12⟩ := hk
        simp only [h26, h12] at hK ⊢
        have H26 := Yh h26; clear h26; have H12 := Yh h12; clear h12
        obtain rfl := hn 4 rfl
        have hG0 : Blk wq g 76 #[.bool true, (u 8), .int .i64 f, .int .i64 0, .int .i64 ai, .int .i64 ra, .bool se, .bool he, .int .i64 at_, .int .i64 sh, pq, v] := hG
        have fG := hG0.frozen; have zG := hG0.cell; have lG := hG0.lt
        have hB2 := setAll_blk [.int .i64 0, .int .i64 0, .bool false, .bool false, .int .i64 0, .int .i64 0] 4 wq _ hG0
        simp only [setArr, lst, ls0, ls1, Nat.zero_add, Nat.reduceAdd] at hB2
        go_simp
        exact hK _ undef (setAll wq g 4 [.int .i64 0, .int .i64 0, .bool false, .bool false, .int .i64 0, .int .i64 0]) rfl ⟨setAll_pastX Ys [.int .i64 0, .int .i64 0, .bool false, .bool false, .int .i64 0, .int .i64 0] 4 wq hP, setAll_far hAg [.int .i64 0, .int .i64 0, .bool false, .bool false, .int .i64 0, .int .i64 0] 4 wq hN, hB2⟩ (setAll_pastX Ys [.int .i64 0, .int .i64 0, .bool false, .bool false, .int .i64 0, .int .i64 0] 4 wq (Past.refl _ _)) trivial
       exact Yw
      ·intro u wz hC hF
       obtain ⟨hP, hN, hG⟩ := hC
       simp only [calmFacts, Is, SliceB, and_true, true_and] at hF
       obtain ⟨-, -, -, -, -, -, -, -, ⟨gN, h8, hn8, hl8, hb8⟩, -, -, -, -, -, -, -, -, -, -, -, -, -, -⟩ := hF
       have hG1 : Blk wz g 76 (bnC ⟨true, List.replicate m (false, .zero), f, 0, .zero, ou⟩ (.slice (some ⟨gN, 0, none⟩) m m) pq v) := h8 ▸ hG
       have hTd : PastT B [76] w wz := .of_past hP (fun k hk => by simp at hk; subst hk; exact ⟨hB, _, _, _, HE1.out, by simp⟩)
       have hlr : (List.replicate m ((false, K6.zero) : Kw)).length = m := List.length_replicate
       have hnew : BnAt B wz g ⟨true, List.replicate m (false, .zero), f, 0, .zero, ou⟩ := ⟨hB, _, _, _, hG1, ⟨some ⟨gN, 0, none⟩, by rw [hlr], fun _ => ⟨gN, _, rfl, Nat.le_trans HPW.out.2.1 hl8, hb8, src_made m⟩⟩, e3, HE4.out.pastT hTd Yd⟩
       have HNW := Yh hnew; have HTD := Yh hTd
       clear hP hN hG hG1 hTd hnew h8 hb8 e3
       go_wp2_with fail
       refine (say_any B g _ ⟨#[115, 111, 117, 114, 99, 101, 115]⟩ _ 2 _ [(m : Int), f] _ HNW.out (HN.out.pastT HTD.out Yd) (fun n hn => by simp at hn; rcases hn with rfl | rfl; exact smallI_vT HVN.out; exact smallI_vT HVF.out) (HPW.out.pastT HTD.out) (by show ou.length + 7 + 22 * 2 + 1 ≤ _; have h9 : ou.length ≤ 900000 := hl; omega)).mono ?_
       rintro e w3 ⟨rfl, h3, hT3⟩
       go_wp2
       go_ret
       exact ⟨rfl, h3, ((HTD.out.mono (fun t ht => by simp at ht; subst ht; simp)).trans hT3).three⟩
theorem bread_rb (c : Clk) (t lo hi : Int) (w : World) : Calls Tryz.prog 136 #[.agg #[.int .i64 c.aim, .int .i64 c.rate, .bool c.set, .bool c.held, .int .i64 c.at_, .int .i64 c.shown], .int .i64 t, .agg #[.int .i64 lo, .int .i64 hi]] w (RB w (.tuple #[.agg (readK c t lo hi).cs.toArray, .int .i64 (rdK c t lo hi)])) := by
 rw [← readK_V]; exact read_any c.aim c.rate c.set c.held c.at_ c.shown t lo hi w
theorem BnAt.clock {B g : Nat} {w : World} {b : Bn} (c : Clk) (h : BnAt B w g b) : BnAt B (setAll w g 4 c.cs) g { b with ck := c } ∧ PastT B [5, 76] w (setAll w g 4 c.cs) := by
 obtain ⟨hB, VL, p, v, e1, e2, e3, e4⟩ := h
 have hq : Past [g] w (setAll w g 4 c.cs) := setAll_pastX Ys c.cs 4 w (Past.refl _ _)
 have hT : ∀ Ts : List TypeId, 76 ∈ Ts → PastT B Ts w (setAll w g 4 c.cs) := fun Ts hm => .of_past hq (fun k hk => by simp at hk; subst hk; exact ⟨hB, _, _, _, e1, hm⟩)
 have e9 := setAll_blk c.cs 4 w _ e1
 rw [show setArr (bnC b VL p v) 4 c.cs = bnC { b with ck := c } VL p v by simp [setArr, bnC, Clk.cs]] at e9
 exact ⟨⟨hB, VL, p, v, e9, e2.pastT (hT [76] Ys) Yd, e3, e4.pastT (hT [76] Ys) Yd⟩, hT _ Ys⟩
theorem bread_any (B g : Nat) (b : Bn) (A : Option Addr) (cap : Nat) (aim u : Int) (w : World) (h : BnAt B w g b) (hn : NumsR w A 2 [aim, u]) (hpow : PowB B w) (hl : b.out.length ≤ 900000) (hs : b.srcs.length ≤ 64) :
  Calls Tryz.prog 97 #[.pointer (some ⟨g, 0, none⟩), .slice A 2 cap] w (LnR B g w (b.read aim u)) := by
 have hmb := mgO_b (knowns b.srcs) u b.li
 have RM := Yh (fun W hW => merged_any B g b u W hW hs)
 obtain ⟨gm, curN, rfl, hNb0, hNc⟩ := hn.2 Yo
 have hgm := hNb0.lt
 have hc0 : curN[0]? = some (.int .i64 aim) := hNc 0 Yo
 have hc1 : curN[1]? = some (.int .i64 u) := hNc 1 Yo
 have cA0 := (hNb0.cell 0).trans hc0
 have cA1 := (hNb0.cell 1).trans hc1
 have hrd : b.read aim u = b.readT aim u (mgO (knowns b.srcs) u b.li) := rfl
 rw [hrd]
 clear hrd
 obtain ⟨m, hm⟩ : ∃ m, mgO (knowns b.srcs) u b.li = m := ⟨_, rfl⟩
 rw [hm] at hmb ⊢
 replace RM := Yh (fun W hW => hm ▸ RM.out W hW)
 clear hm
 obtain ⟨x, y, er⟩ := m
 obtain ⟨hme, hmv⟩ := hmb
 unfold V3 at RM
 dsimp only at RM hme hmv
 have HNB := Yh hNb0; have HC0 := Yh hc0; have HC1 := Yh hc1
 have HH := Yh h; have HPW := Yh hpow; have HME := Yh hme; have HMV := Yh hmv; clear h hpow hn hme hmv hNc hNb0 hc0 hc1
 obtain ⟨hB, VL, pq, v, e1, e2, e3, e4⟩ := HH.out
 have HE1 := Yh e1
 have hgl := e1.lt
 have hmg : gm ≠ g := Blk.ne HNB.out e1 Yd
 clear e1 e2 e3 e4
 by_cases her : er = 0
 ·subst her
  have hxy := vS_small (HMV.out rfl)
  have RR := Yh (fun W => bread_rb (b.aimed aim) u x y W)
  have hee := rdE_b (b.aimed aim) u x y
  obtain ⟨c9, hc9⟩ : ∃ c9, readK (b.aimed aim) u x y = c9 := ⟨_, rfl⟩
  obtain ⟨e9, he9⟩ : ∃ e9, rdK (b.aimed aim) u x y = e9 := ⟨_, rfl⟩
  have hsh : e9 = 0 → smallI c9.shown := fun h0 => by rw [← hc9]; exact shown_b (by rw [he9]; exact h0)
  have hr0 : e9 = 0 → b.readT aim u (x, y, 0) = (b.shows c9, 0) := fun h0 => by unfold Bn.readT; rw [if_pos rfl, if_pos (by show rdK (b.aimed aim) u x y = 0; rw [he9]; exact h0)]; show (b.shows (readK (b.aimed aim) u x y), _) = _; rw [hc9]
  have hr1 : e9 ≠ 0 → b.readT aim u (x, y, 0) = b.tell e9 := fun h0 => by unfold Bn.readT; rw [if_pos rfl, if_neg (by show ¬ rdK (b.aimed aim) u x y = 0; rw [he9]; exact h0)]; show b.tell (rdK (b.aimed aim) u x y) = _; rw [he9]
  rw [hc9, he9] at RR
  rw [he9] at hee
  have HSH := Yh hsh; have HR0 := Yh hr0; have HR1 := Yh hr1; have HEE := Yh hee
  clear hc9 he9 hsh hr0 hr1 hee
  have HBB : Hid (∃ b9, b9 = b) := Yh ⟨b, rfl⟩
  obtain ⟨n0, n1, n2, n3, n4, n5⟩ := c9
  simp only [Clk.cs, Bn.aimed] at RR
  go_enter Tryz.func97, Tryz.ntmps97
  go_wp2_with fail
  refine (RM.out _ HH.out).mono ?_
  rintro e w1 ⟨rfl, hb1⟩
  have hq1 : Past [] w w1 := Past.below hb1
  have bP := Yk hb1 HE1.out; have bN := Yk hb1 HNB.out
  have Z1 : w.heap.size ≤ w1.heap.size := hb1.size
  unfold bnC at bP
  have z0 := (bN.cell 0).trans HC0.out; have z1 := (bN.cell 1).trans HC1.out
  clear hb1 cA0 cA1
  obtain ⟨cP, fP, lP, eP, kP⟩ := Yf bP
  obtain ⟨cN, fN, lN, eN, kN⟩ := Yf bN
  go_upto_region 5 with fail
  obtain ⟨w5, hX9⟩ : ∃ x9 : World, x9 = ((w1.alloc (.cells #[.int .i64 x, .int .i64 y] 40)).alloc (.cells #[.int .i64 aim, .int .i64 1000000, .bool b.ck.set, .bool b.ck.held, .int .i64 b.ck.at_, .int .i64 b.ck.shown] 70)) := ⟨_, rfl⟩
  have hqX : Past [] w w5 := by rw [hX9]; exact pa1
  have bP' : Blk w5 (g) 76 #[.bool b.begun, VL, .int .i64 b.li, .int .i64 b.p, .int .i64 b.ck.aim, .int .i64 b.ck.rate, .bool b.ck.set, .bool b.ck.held, .int .i64 b.ck.at_, .int .i64 b.ck.shown, pq, v] := by rw [hX9]; exact bn1
  have bN' : Blk w5 (gm) 3 curN := by rw [hX9]; exact bn1
  have bA' : Blk w5 (w1.heap.size) 40 #[.int .i64 x, .int .i64 y] := by rw [hX9]; exact (Blk.new _ _ _).alloc _
  have bT' : Blk w5 ((w1.heap.size + 1)) 70 #[.int .i64 aim, .int .i64 1000000, .bool b.ck.set, .bool b.ck.held, .int .i64 b.ck.at_, .int .i64 b.ck.shown] := by rw [hX9]; exact Blk.new1 _ _ _ _
  have Zw5 : w1.heap.size + 2 ≤ w5.heap.size := by rw [hX9]; first | omega | (simp; done) | (simp [setAll_size]; done) | (simp <;> omega)
  rw [← hX9]
  clear hX9 hq1
  clear bP cP fP lP eP kP; have bP := bP'; clear bP'
  clear bN cN fN lN eN kN; have bN := bN'; clear bN'
  have bA := bA'; clear bA'
  have bT := bT'; clear bT'
  have hqXw5 := hqX; clear hqX
  obtain ⟨cP, fP, lP, eP, kP⟩ := Yf bP
  obtain ⟨cN, fN, lN, eN, kN⟩ := Yf bN
  obtain ⟨cA, fA, lA, eA, kA⟩ := Yf bA
  obtain ⟨cT, fT, lT, eT, kT⟩ := Yf bT
  have oA := lA
  have oT := lT
  have z0 := (bN.cell 0).trans HC0.out; have z1 := (bN.cell 1).trans HC1.out
  refine' wp_region_calmD Yr (fun D u9 w' => Past ((w1.heap.size + 1) :: []) w5 w' ∧ Blk w' (g) 76 #[.bool b.begun, VL, .int .i64 b.li, .int .i64 b.p, .int .i64 b.ck.aim, .int .i64 b.ck.rate, .bool b.ck.set, .bool b.ck.held, .int .i64 b.ck.at_, .int .i64 b.ck.shown, pq, v] ∧ Blk w' (gm) 3 curN ∧ Blk w' (w1.heap.size) 40 #[.int .i64 x, .int .i64 y] ∧ (D 9 = false → Blk w' ((w1.heap.size + 1)) 70 #[.int .i64 aim, .int .i64 1000000, .bool b.ck.set, .bool b.ck.held, .int .i64 b.ck.at_, .int .i64 b.ck.shown]) ∧ (D 9 = true → Blk w' ((w1.heap.size + 1)) 70 #[.int .i64 n0, .int .i64 n1, .bool n2, .bool n3, .int .i64 n4, .int .i64 n5]) ∧ w5.heap.size ≤ w'.heap.size) (fun _ _ => True) [Is _, Is _, Is _, Is _, Is _, Is _, Is _, Is _, Is _, (fun _ _ _ => True), Is _] [[], [], [1], [2], [], [0, 3, 4], [5], [6], [6], [7], [8]] rfl Yr Yp ?_ (Y1 (Y1 (Y1 (Y1 (Y1 (Y1 (Y1 (Y1 (Y1 (Y0 (Y1 Yn))))))))))) ?_ ?_
  ·exact ⟨pa1, bn1, bn1, bn1, (fun _ => bn1), (fun h => by cases h), (by first | exact Nat.le_refl _ | omega | (simp <;> omega))⟩
  rotate_left 10
  ·skip
   refine zq3 (fun _ _ _ _ hn _ ⟨_, mP, mN, mA, mT, _⟩ => have hB := mT (hn 9 Yr); Ya ((mN.cell 0).trans HC0.out) (Ya ((mN.cell 1).trans HC1.out) (Ya (Yq mP) (Ya (Yq mN) (Ya (Yq mA) (Ya hB (Yq hB))))))) ?_
   iterate 2 refine zq2 ?_
   refine zq3 (fun _ _ _ _ hn _ ⟨_, mP, mN, mA, mT, _⟩ => have hB := mT (hn 9 Yr); Ya ((mN.cell 0).trans HC0.out) (Ya ((mN.cell 1).trans HC1.out) (Ya (Yq mP) (Ya (Yq mN) (Ya (Yq mA) (Ya hB (Yq hB))))))) ?_
   refine zq3 (fun _ _ _ _ hn _ ⟨_, mP, mN, mA, mT, _⟩ => have hB := mT (hn 9 Yr); Ya ((mN.cell 0).trans HC0.out) (Ya ((mN.cell 1).trans HC1.out) (Ya (Yq mP) (Ya (Yq mN) (Ya (Yq mA) (Ya hB (Yq hB))))))) ?_
   refine dc1 (fun uu wq D hC hk K hK => ?_) ?_
   ·obtain ⟨hP, mP, mN, mA, mT, yT, hZ⟩ := hC
    simp only [calmKnown, lg0, lg1, and_true, Is] at hk
    obtain ⟨h0, h3, h4⟩ := hk
    simp only [h0, h3, h4] at hK ⊢
    have H0 := Yh h0; clear h0; have H3 := Yh h3; clear h3; have H4 := Yh h4; clear h4
    go_wp2_with fail
    first | (with_reducible refine (RR.out _).mono ?_)
    rintro e w2 ⟨rfl, hbl⟩
    exact hK _ _ _ rfl ⟨hP.call hbl, Yk hbl mP, Yk hbl mN, Yk hbl mA, (fun h => Yk hbl (mT h)), (fun h => Yk hbl (yT h)), Nat.le_trans hZ hbl.size⟩ trivial rfl
   iterate 3 refine zq2 ?_
   refine dSteps_cons (fun uu wq D hd hn hn2 hC hk K hK => ?_) ?_
   ·obtain ⟨hP, mP, mN, mA, mT, yT, hZ⟩ := hC
    clear hn hn2
    simp only [calmKnown, lg0, lg1, and_true, Is] at hk
    have h7 := hk; clear hk
    simp only [h7] at hK ⊢
    have H7 := Yh h7; clear h7
    have hB := mT hd
    have hc9 := hB.cell; have hf9 := hB.frozen; have hl9 := hB.lt
    have hB2 := setAll_blk [.int .i64 n0, .int .i64 n1, .bool n2, .bool n3, .int .i64 n4, .int .i64 n5] 0 wq _ hB
    simp only [setArr, lst, ls0, ls1, Nat.zero_add, Nat.reduceAdd] at hB2
    go_simp
    exact hK _ undef (setAll wq ((w1.heap.size + 1)) 0 [.int .i64 n0, .int .i64 n1, .bool n2, .bool n3, .int .i64 n4, .int .i64 n5]) rfl ⟨(setAll_pastX Ys [.int .i64 n0, .int .i64 n1, .bool n2, .bool n3, .int .i64 n4, .int .i64 n5] 0 wq hP), setAll_far (show g ≠ (w1.heap.size + 1) by first | omega | (simp <;> omega)) [.int .i64 n0, .int .i64 n1, .bool n2, .bool n3, .int .i64 n4, .int .i64 n5] 0 wq mP, setAll_far (show gm ≠ (w1.heap.size + 1) by first | omega | (simp <;> omega)) [.int .i64 n0, .int .i64 n1, .bool n2, .bool n3, .int .i64 n4, .int .i64 n5] 0 wq mN, setAll_far (show w1.heap.size ≠ (w1.heap.size + 1) by first | omega | (simp <;> omega)) [.int .i64 n0, .int .i64 n1, .bool n2, .bool n3, .int .i64 n4, .int .i64 n5] 0 wq mA, (fun h => by cases h), (fun _ => hB2), (by rw [setAll_size]; exact hZ)⟩ trivial trivial
   refine zq2 ?_
   exact dSteps_nil
  ·intro uu v1 D hD hC hF
   obtain ⟨hP, mP, mN, mA, mT, yT, hZ⟩ := hC
   simp only [calmFacts, Is, and_true, true_and] at hF
   obtain ⟨f0, f1, f2, f3, f4, f5, f6, f7, f8, f10⟩ := hF
   simp only [f0, f1, f2, f3, f4, f5, f6, f7, f8, f10]
   have bbT := yT (hD 9 Yd)
   have hq := hP; clear hP
   have Kv1 : Past [] w v1 := Past.transF hqXw5 hq (by first | omega | (simp; omega))
   have Zv1 := hZ; clear hZ
   clear hq hqXw5
   clear bP cP fP lP eP kP; have bP := mP
   clear bN cN fN lN eN kN; have bN := mN
   clear bA cA fA lA eA kA; have bA := mA
   clear bT cT fT lT eT kT; have bT := bbT
   clear mP mN mA mT yT bbT hD
   obtain ⟨cP, fP, lP, eP, kP⟩ := Yf bP
   obtain ⟨cN, fN, lN, eN, kN⟩ := Yf bN
   obtain ⟨cA, fA, lA, eA, kA⟩ := Yf bA
   obtain ⟨cT, fT, lT, eT, kT⟩ := Yf bT
   have hKB := Past.toBelow Kv1
   have H5 := Yh (HH.out.below hKB); have P5 := Yh (HPW.out.below hKB); have K5 := Yh hKB
   clear hKB RR RM
   by_cases h9 : e9 = 0
   ·subst h9
    have hs5 := HSH.out rfl
    (try dsimp only at hs5)
    obtain ⟨li, hli⟩ : ∃ li, itoa n5 = li := ⟨_, rfl⟩
    have hll : li.length ≤ 21 := by rw [← hli]; exact itoa_length_le n5 hs5.1 hs5.2
    have RI := Yh (fun W hW => hli ▸ itoa_any n5 hs5.1 hs5.2 W hW)
    cases n3 with
    | true =>
     have hsh : b.shows ⟨n0, n1, n2, true, n4, n5⟩ = Bn.say { b with ck := ⟨n0, n1, n2, true, n4, n5⟩ } (wClock ++ li ++ wHeld) [] := by rw [← hli]; rfl
     have hr := HR0.out rfl
     rw [hsh] at hr
     have HR9 := Yh hr
     clear hr hsh hli
     go_wp2_with fail
     refine (told_0 g _).mono ?_
     rintro e w6 ⟨rfl, hw6⟩
     rw [hw6]
     clear hw6
     have hck := BnAt.clock ⟨n0, n1, n2, true, n4, n5⟩ H5.out
     have HCK := Yh hck
     clear hck
     go_upto_region 9 with fail
     obtain ⟨w8, hw8⟩ : ∃ x : World, x = ((((((v1.setCell ⟨g, 4, none⟩ (.int .i64 n0)).setCell ⟨g, 5, none⟩ (.int .i64 n1)).setCell ⟨g, 6, none⟩ (.bool n2)).setCell ⟨g, 7, none⟩ (.bool true)).setCell ⟨g, 8, none⟩ (.int .i64 n4)).setCell ⟨g, 9, none⟩ (.int .i64 n5)) := ⟨_, rfl⟩
     have h8 : BnAt B w8 g { b with ck := ⟨n0, n1, n2, true, n4, n5⟩ } ∧ PastT B [5, 76] v1 w8 := by rw [hw8]; exact HCK.out
     have hq8 : Past [g] v1 w8 := by rw [hw8]; exact (by (repeat' (first | (with_reducible exact Past.refl _ _) | (with_reducible refine' Past.setIn ?_ ?_ _; rotate_left 1; (focus (simp; done))))))
     rw [← hw8]
     have bT8 := hq8.blk bT Y7
     have cT8 := bT8.cell; have lT8 := bT8.lt
     have P8 := Yh (P5.out.pastT h8.2); have H8 := Yh h8
     clear hw8 hq8 h8 bT8 bT cT fT lT eT kT
     go_wp2_with fail
     refine (RI.out _ P8.out.1).mono ?_
     rintro e w9 ⟨rfl, hb9⟩
     have H9 := Yh (H8.out.1.below hb9); have P9 := Yh (P8.out.below hb9); have HB9 := Yh hb9
     clear hb9 cT8 lT8
     go_wp2_with fail
     refine (say_any B g _ ⟨(wClock ++ li ++ wHeld).toArray⟩ none 0 0 [] _ H9.out (NumsR.nil _ _) (fun n hn => by simp at hn) P9.out (by show b.out.length + (wClock ++ li ++ wHeld).toArray.size + 22 * 0 + 1 ≤ _; simp [wClock, wHeld]; omega)).mono ?_
     rintro e w10 ⟨rfl, h10, hT10⟩
     go_wp2
     go_ret
     rw [HR9.out]
     exact ⟨rfl, h10, (((PastT.below K5.out).trans H8.out.2).trans ((PastT.below HB9.out).trans hT10)).three⟩

    | false =>
     have hsh : b.shows ⟨n0, n1, n2, false, n4, n5⟩ = Bn.say { b with ck := ⟨n0, n1, n2, false, n4, n5⟩ } (wClock ++ li ++ wFree) [] := by rw [← hli]; rfl
     have hr := HR0.out rfl
     rw [hsh] at hr
     have HR9 := Yh hr
     clear hr hsh hli
     go_wp2_with fail
     refine (told_0 g _).mono ?_
     rintro e w6 ⟨rfl, hw6⟩
     rw [hw6]
     clear hw6
     have hck := BnAt.clock ⟨n0, n1, n2, false, n4, n5⟩ H5.out
     have HCK := Yh hck
     clear hck
     go_upto_region 9 with fail
     obtain ⟨w8, hw8⟩ : ∃ x : World, x = ((((((v1.setCell ⟨g, 4, none⟩ (.int .i64 n0)).setCell ⟨g, 5, none⟩ (.int .i64 n1)).setCell ⟨g, 6, none⟩ (.bool n2)).setCell ⟨g, 7, none⟩ (.bool false)).setCell ⟨g, 8, none⟩ (.int .i64 n4)).setCell ⟨g, 9, none⟩ (.int .i64 n5)) := ⟨_, rfl⟩
     have h8 : BnAt B w8 g { b with ck := ⟨n0, n1, n2, false, n4, n5⟩ } ∧ PastT B [5, 76] v1 w8 := by rw [hw8]; exact HCK.out
     have hq8 : Past [g] v1 w8 := by rw [hw8]; exact (by (repeat' (first | (with_reducible exact Past.refl _ _) | (with_reducible refine' Past.setIn ?_ ?_ _; rotate_left 1; (focus (simp; done))))))
     rw [← hw8]
     have bT8 := hq8.blk bT Y7
     have cT8 := bT8.cell; have lT8 := bT8.lt
     have P8 := Yh (P5.out.pastT h8.2); have H8 := Yh h8
     clear hw8 hq8 h8 bT8 bT cT fT lT eT kT
     go_wp2_with fail
     refine (RI.out _ P8.out.1).mono ?_
     rintro e w9 ⟨rfl, hb9⟩
     have H9 := Yh (H8.out.1.below hb9); have P9 := Yh (P8.out.below hb9); have HB9 := Yh hb9
     clear hb9 cT8 lT8
     go_wp2_with fail
     refine (say_any B g _ ⟨(wClock ++ li ++ wFree).toArray⟩ none 0 0 [] _ H9.out (NumsR.nil _ _) (fun n hn => by simp at hn) P9.out (by show b.out.length + (wClock ++ li ++ wFree).toArray.size + 22 * 0 + 1 ≤ _; simp [wClock, wFree]; omega)).mono ?_
     rintro e w10 ⟨rfl, h10, hT10⟩
     go_wp2
     go_ret
     rw [HR9.out]
     exact ⟨rfl, h10, (((PastT.below K5.out).trans H8.out.2).trans ((PastT.below HB9.out).trans hT10)).three⟩
   ·have g1 : (e9 == 0) = false := by simpa using h9
    have g2 : decide (e9 = 0) = false := by simpa using h9
    go_wp2_with fail
    refine (told_e B g b e9 _ H5.out h9 HEE.out.small P5.out hl).mono ?_
    rintro e w6 ⟨rfl, h6, hT6⟩
    go_wp2
    go_ret
    rw [HR1.out h9]
    exact ⟨rfl, h6, ((PastT.below K5.out).trans hT6).three⟩
 ·have g1 : (er == 0) = false := by simpa using her
  have g2 : decide (er = 0) = false := by simpa using her
  have hr : b.readT aim u (x, y, er) = (b.say wError [er], 0) := if_neg her
  rw [hr]
  clear hr
  go_enter Tryz.func97, Tryz.ntmps97
  go_wp2_with fail
  refine (RM.out _ HH.out).mono ?_
  rintro e w1 ⟨rfl, hb1⟩
  have H1 := Yh (HH.out.below hb1); have P1 := Yh (HPW.out.below hb1); have HB1 := Yh hb1
  have bP := Yk hb1 HE1.out; have bN := Yk hb1 HNB.out
  unfold bnC at bP
  have z0 := (bN.cell 0).trans HC0.out; have z1 := (bN.cell 1).trans HC1.out
  have cP := bP.cell; have lP := bP.lt; have lN := bN.lt
  clear hb1 cA0 cA1
  go_wp2_with fail
  refine (told_e B g b er _ (H1.out.below bl0) her HME.out.small (P1.out.below bl0) hl).mono ?_
  rintro e w3 ⟨rfl, h3, hT3⟩
  go_wp2
  go_ret
  exact ⟨rfl, h3, ((PastT.below (show Below w.heap.size w _ from Yc (show Below w1.heap.size w1 _ from bl0) HB1.out)).trans hT3).three⟩
theorem setArr_cons (cs : Array Value) (i : Nat) (v : Value) (l : List Value) : setArr cs i (v :: l) = setArr (setArr cs i [v]) (i + 1) l := by simp only [setArr]
theorem getE_set {cur : Array Value} {q j : Nat} {u x : Value} (hs : q * 7 + 6 < cur.size) (h : cur[q * 7 + (j + 1)]? = some x) : (setArr cur (q * 7) [u])[q * 7 + (j + 1)]? = some x := by
 rw [setArr_get _ _ _ _ (by simp; omega), if_neg Ys]; exact h
theorem NumsR.of {w : World} {gn : Nat} {zs : List Int} (h : Blk w gn 3 (zs.map (Value.int .i64)).toArray) : NumsR w (some ⟨gn, 0, none⟩) zs.length zs :=
 ⟨rfl, fun _ => ⟨_, _, rfl, h, fun j hj => by rw [List.getElem?_toArray, List.getElem?_map, Y9 hj, Y8, Y9 hj]; rfl⟩⟩
theorem keep_slicePT {B lo : Nat} {t : TypeId} {n : Nat} {cs : Array Value} (ht : t ∉ [5, 76]) : ∀ d v w w', PastT B [5, 76] w w' → SliceB [] lo t n cs d v w → SliceB [] lo t n cs d v w' := fun _ _ _ _ h ⟨g, e, hn, hl, hb⟩ => ⟨g, e, hn, hl, h.blk hb ht⟩
theorem BnAt.source {B g gs q : Nat} {w w' : World} {b : Bn} {VL p v : Value} {cur : Array Value} (k : Kw) (hB : B ≤ g) (h : Blk w g 76 (bnC b VL p v)) (hVL : VL = .slice (some ⟨gs, 0, none⟩) b.srcs.length b.srcs.length) (hgs : B ≤ gs) (hs : Blk w gs 170 cur) (hc : SrcAt cur b.srcs) (hq : q < b.srcs.length) (hp : p = .pointer none ∨ p = .pointer (some ⟨g, 10, none⟩)) (hv : BufAt B w v b.out)
  (hw : Past [gs] w w') (hn : Blk w' gs 170 (setArr cur (q * 7) (kwC k))) : BnAt B w' g { b with srcs := b.srcs.set q k } ∧ PastT B [170] w w' := by
 have hT : PastT B [170] w w' := .of_past hw (fun k hk => by simp at hk; subst hk; exact ⟨hgs, _, _, _, hs, by simp⟩)
 refine ⟨⟨hB, VL, p, v, hT.blk h Yd, ⟨some ⟨gs, 0, none⟩, ?_, fun _ => ⟨gs, _, rfl, hgs, hn, src_set hc q hq k⟩⟩, hp, hv.pastT hT Yd⟩, hT⟩
 rw [hVL]; simp
def srcSt2 (cur : Array Value) (q : Nat) (k : Kw) : Nat → Array Value
 | 0 => cur
 | 1 => setArr cur (q * 7) [.bool k.1]
 | _ => setArr cur (q * 7) (kwC k)
theorem sample_any (B g : Nat) (b : Bn) (A : Option Addr) (cap : Nat) (n0 t1 t2 t3 t4 er9 : Int) (w : World) (h : BnAt B w g b) (hn : NumsR w A 6 [n0, t1, t2, t3, t4, er9]) (hs0 : vT n0 = true) (hpow : PowB B w) (hl : b.out.length ≤ 900000) (hs : b.srcs.length ≤ 64) :
  Calls Tryz.prog 95 #[.pointer (some ⟨g, 0, none⟩), .slice A 6 cap] w (LnR B g w (b.sample n0 t1 t2 t3 t4 er9)) := by
 have hv0 := vT_true.1 hs0
 have HS0 := Yh (smallI_vT hs0)
 have HN6 := Yh hn
 obtain ⟨gm, curN, rfl, hNb0, hNc⟩ := hn.2 Yo
 have hgm := hNb0.lt
 have hc0 : curN[0]? = some (.int .i64 n0) := hNc 0 Yo
 have HC0 := Yh hc0
 have hc1 : curN[1]? = some (.int .i64 t1) := hNc 1 Yo
 have HC1 := Yh hc1
 have hc2 : curN[2]? = some (.int .i64 t2) := hNc 2 Yo
 have HC2 := Yh hc2
 have hc3 : curN[3]? = some (.int .i64 t3) := hNc 3 Yo
 have HC3 := Yh hc3
 have hc4 : curN[4]? = some (.int .i64 t4) := hNc 4 Yo
 have HC4 := Yh hc4
 have hc5 : curN[5]? = some (.int .i64 er9) := hNc 5 Yo
 have HC5 := Yh hc5
 have cA0 := (hNb0.cell 0).trans hc0
 have HNB := Yh hNb0
 have HH := Yh h; have HPW := Yh hpow
 obtain ⟨hB, VL, pq, v, e1, ⟨AV, rfl, e2⟩, e3, e4⟩ := HH.out
 have hmg : gm ≠ g := Blk.ne HNB.out e1 Yd
 have hgl := e1.lt
 have cP := e1.cell
 unfold bnC at cP
 have HE1 := Yh e1; have HE4 := Yh e4; have HE2 := Yh e2; have HE3 := Yh e3
 clear h hpow hn hNc hNb0 hc0 hc1 hc2 hc3 hc4 hc5 e1 e2 e3 e4 hs0
 by_cases h0 : n0 < 0
 ·have c0 : decide (n0 < 0) = true := decide_eq_true h0
  have hr : b.sample n0 t1 t2 t3 t4 er9 = (b, 4) := by unfold Bn.sample; rw [if_neg Yo]
  rw [hr]
  clear hr
  go_enter Tryz.func95, Tryz.ntmps95
  go_wp2_with fail
  go_quiet (fail)
  go_wp2
  go_ret
  exact ⟨rfl, HH.out.below (below_drewN Yl _), PastT.below (below_drewN Yl _)⟩
 have c0 : decide (n0 < 0) = false := decide_eq_false h0
 by_cases h1 : n0 ≥ (b.srcs.length : Int)
 ·have c1 : decide (n0 ≥ (b.srcs.length : Int)) = true := decide_eq_true h1
  have c1' : decide ((b.srcs.length : Int) ≤ n0) = true := c1
  have hr : b.sample n0 t1 t2 t3 t4 er9 = (b, 4) := by unfold Bn.sample; rw [if_neg Yo]
  rw [hr]
  clear hr
  go_enter Tryz.func95, Tryz.ntmps95
  go_wp2_with fail
  go_quiet (fail)
  go_wp2
  go_ret
  exact ⟨rfl, HH.out.below (below_drewN Yl _), PastT.below (below_drewN Yl _)⟩
 have c1 : decide (n0 ≥ (b.srcs.length : Int)) = false := decide_eq_false h1
 have c1' : decide ((b.srcs.length : Int) ≤ n0) = false := c1
 obtain ⟨q, rfl⟩ : ∃ q : Nat, n0 = (q : Int) := ⟨n0.toNat, Yo⟩
 have hql : q < b.srcs.length := by omega
 have c1n : decide (b.srcs.length ≤ q) = false := Y3
 have gq : decide ((q : Int) < (b.srcs.length : Int)) = true := Y2
 have gqn : decide (q < b.srcs.length) = true := decide_eq_true hql
 obtain ⟨gs, curS, rfl, hgs, hSb, hSc⟩ := HE2.out Yo
 have HSB := Yh hSb; have HSC := Yh hSc
 have hsl := hSb.lt
 have hsm : gs ≠ gm := Blk.ne hSb HNB.out Yd
 have hsg : gs ≠ g := Blk.ne hSb HE1.out Yd
 obtain ⟨kv, hkv⟩ : ∃ kv, b.srcs.getD q (false, .zero) = kv := ⟨_, rfl⟩
 have hcs := hSc.2 q hql
 rw [hkv] at hcs
 have HKV := Yh hkv
 have hr : b.sample (q : Int) t1 t2 t3 t4 er9 = b.heard q t4 (atT t1 t2 t3 t4 er9 b.p) := by unfold Bn.sample; rw [if_pos Yo]
 have RA := Yh (fun W => atT_V t1 t2 t3 t4 er9 b.p ▸ at_any t1 t2 t3 t4 er9 b.p W)
 have hab := atT_b t1 t2 t3 t4 er9 b.p
 obtain ⟨a, ha⟩ : ∃ a, atT t1 t2 t3 t4 er9 b.p = a := ⟨_, rfl⟩
 rw [ha] at hr hab
 rw [hr]
 replace RA := Yh (fun W => ha ▸ RA.out W)
 obtain ⟨a0, a1, ae⟩ := a
 obtain ⟨hae, ha0, ha1⟩ := hab
 dsimp only at hae ha0 ha1
 unfold V3 at RA
 dsimp only at RA
 have HAE := Yh hae; have HA0 := Yh ha0; have HA1 := Yh ha1
 clear hr ha hae ha0 ha1 hSb hSc hkv
 obtain ⟨kb, na, nlo, nhi, np, nle, nre⟩ := kv
 have hk0 := hcs 0 Yo
 have hk1 := hcs 1 Yo
 have hk2 := hcs 2 Yo
 have hk3 := hcs 3 Yo
 have hk4 := hcs 4 Yo
 have hk5 := hcs 5 Yo
 have hk6 := hcs 6 Yo
 simp only [kwC, K6.cs, lg0, lg1, Nat.add_zero] at hk0 hk1 hk2 hk3 hk4 hk5 hk6
 have HK0 := Yh hk0
 have HK1 := Yh hk1
 have HK2 := Yh hk2
 have HK3 := Yh hk3
 have HK4 := Yh hk4
 have HK5 := Yh hk5
 have HK6 := Yh hk6
 clear hcs hk0 hk1 hk2 hk3 hk4 hk5 hk6
 go_enter Tryz.func95, Tryz.ntmps95
 go_wp2_with fail
 go_quiet (fail)
 go_wp2_with fail
 go_quiet (fail)
 clear cA0 cP
 have bP := HE1.out; have bN := HNB.out; have bS := HSB.out
 unfold bnC at bP
 obtain ⟨cP, fP, lP, eP, kP⟩ := Yf bP
 obtain ⟨cN, fN, lN, eN, kN⟩ := Yf bN
 obtain ⟨cS, fS, lS, eS, kS⟩ := Yf bS
 go_upto_region 4 with fail
 refine' wp_region_calmD Yr (fun D u9 w' => Past [] w w' ∧ Blk w' (g) 76 #[.bool b.begun, .slice (some ⟨gs, 0, none⟩) b.srcs.length b.srcs.length, .int .i64 b.li, .int .i64 b.p, .int .i64 b.ck.aim, .int .i64 b.ck.rate, .bool b.ck.set, .bool b.ck.held, .int .i64 b.ck.at_, .int .i64 b.ck.shown, pq, v] ∧ Blk w' (gm) 3 curN ∧ Blk w' (gs) 170 curS ∧ NewD w.heap.size 40 #[.int .i64 0, .int .i64 0] #[.int .i64 a0, .int .i64 a1] (D 24) (D 25) (u9 24) w' ∧ w.heap.size ≤ w'.heap.size) (fun _ _ => True) [Is _, Is _, Is _, Is _, Is _, Is _, Is _, Is _, Is _, Is _, Is _, Is _, Is _, Is _, Is _, Is _, Is _, Is _, Is _, Is _, Is _, Is _, Is _, Is _, (fun _ _ _ => True), (fun _ _ _ => True), Is _] [[], [0], [1], [], [3], [4], [], [6], [7], [], [9], [10], [], [12], [13], [2, 5, 8, 11, 14], [], [16], [17], [18], [15, 19], [20], [21], [21], [], [24, 22], [23]] rfl (calmB_of Yr) Yp ?_ (Y1 (Y1 (Y1 (Y1 (Y1 (Y1 (Y1 (Y1 (Y1 (Y1 (Y1 (Y1 (Y1 (Y1 (Y1 (Y1 (Y1 (Y1 (Y1 (Y1 (Y1 (Y1 (Y1 (Y1 (Y0 (Y0 (Y1 Yn))))))))))))))))))))))))))) ?_ ?_
 ·exact ⟨pa1, bn1, bn1, bn1, NewD.start _, (by first | exact Nat.le_refl _ | omega | (simp <;> omega))⟩
 rotate_left 25
 ·skip
  iterate 2 refine zq2 ?_
  iterate 18 refine zq3 (fun _ _ _ _ _ _ ⟨_, mP, mN, mS, _⟩ => Ya ((mN.cell 0).trans HC0.out) (Ya ((mN.cell 1).trans HC1.out) (Ya ((mN.cell 2).trans HC2.out) (Ya ((mN.cell 3).trans HC3.out) (Ya ((mN.cell 4).trans HC4.out) (Ya ((mN.cell 5).trans HC5.out) (Ya (Yq mP) (Ya (Yq mN) (Yq mS))))))))) ?_
  refine dc1 (fun uu wq D hC hk K hK => ?_) ?_
  ·obtain ⟨hP, mP, mN, mS, nA, hZ⟩ := hC
   simp only [calmKnown, lg0, lg1, and_true, Is] at hk
   obtain ⟨h15, h19⟩ := hk
   simp only [h15, h19] at hK ⊢
   have H15 := Yh h15; clear h15; have H19 := Yh h19; clear h19
   go_wp2_with fail
   first | (with_reducible refine (RA.out _).mono ?_)
   rintro e w2 ⟨rfl, hbl⟩
   exact hK _ _ _ rfl ⟨hP.call hbl, Yk hbl mP, Yk hbl mN, Yk hbl mS, nA.below hbl, Nat.le_trans hZ hbl.size⟩ trivial rfl
  iterate 3 refine zq2 ?_
  refine dc2 (fun uu wq D hd hn hn2 hC hk K hK => ?_) ?_
  ·obtain ⟨hP, mP, mN, mS, nA, hZ⟩ := hC
   clear hk
   have d25 := hn.out 25 Yr
   go_simp
   exact hK _ _ _ rfl ⟨hP.allocs _, mP.alloc _, mN.alloc _, mS.alloc _, NewD.made hZ d25, Nat.le_trans hZ Ys⟩ trivial trivial
  refine dc2 (fun uu wq D hd hn hn2 hC hk K hK => ?_) ?_
  ·obtain ⟨hP, mP, mN, mS, nA, hZ⟩ := hC
   simp only [calmKnown, lg0, lg1, and_true, Is] at hk
   obtain ⟨-, h22⟩ := hk
   simp only [h22] at hK ⊢
   have H22 := Yh h22; clear h22
   have da : D 24 = true := hn2.out 24 Yr
   obtain ⟨gn, hgn, gb, gl, hB⟩ := nA.one da hd
   simp only [hgn] at hK ⊢
   have hc9 := hB.cell; have hf9 := hB.frozen
   have hB2 := setAll_blk [.int .i64 a0, .int .i64 a1] 0 wq _ hB
   simp only [setArr, lst, ls0, ls1, Nat.zero_add, Nat.reduceAdd] at hB2
   go_simp
   exact hK _ undef (setAll wq gn 0 [.int .i64 a0, .int .i64 a1]) rfl ⟨(setAll_past gb [.int .i64 a0, .int .i64 a1] 0 wq hP), setAll_far (show g ≠ gn by first | omega | (simp <;> omega)) [.int .i64 a0, .int .i64 a1] 0 wq mP, setAll_far (show gm ≠ gn by first | omega | (simp <;> omega)) [.int .i64 a0, .int .i64 a1] 0 wq mN, setAll_far (show gs ≠ gn by first | omega | (simp <;> omega)) [.int .i64 a0, .int .i64 a1] 0 wq mS, (show NewD _ _ _ _ (D 24) true (uu 24) _ from by rw [hgn]; exact NewD.stored gb hB2), (by rw [setAll_size]; exact hZ)⟩ trivial trivial
  refine zq2 ?_
  exact dSteps_nil
 ·intro uu v1 D hD hC hF
  obtain ⟨hP, mP, mN, mS, nA, hZ⟩ := hC
  simp only [calmFacts, Is, and_true, true_and] at hF
  obtain ⟨f0, f1, f2, f3, f4, f5, f6, f7, f8, f9, f10, f11, f12, f13, f14, f15, f16, f17, f18, f19, f20, f21, f22, f23, f26⟩ := hF
  simp only [f0, f1, f2, f3, f4, f5, f6, f7, f8, f9, f10, f11, f12, f13, f14, f15, f16, f17, f18, f19, f20, f21, f22, f23, f26]
  obtain ⟨gA, e9A, gbA, glA, bA'⟩ := nA.last (hD 24 Yd) (hD 25 Yd)
  simp only [e9A]
  clear e9A
  have hq := hP; clear hP
  have Kv1 : Past [] w v1 := Past.trans (Past.refl _ _) hq
  have Zv1 := hZ; clear hZ
  clear hq
  clear bP cP fP lP eP kP; have bP := mP
  clear bN cN fN lN eN kN; have bN := mN
  clear bS cS fS lS eS kS; have bS := mS
  clear mP mN mS nA hD
  have bA := bA'; clear bA'
  obtain ⟨cP, fP, lP, eP, kP⟩ := Yf bP
  obtain ⟨cN, fN, lN, eN, kN⟩ := Yf bN
  obtain ⟨cS, fS, lS, eS, kS⟩ := Yf bS
  obtain ⟨cA, fA, lA, eA, kA⟩ := Yf bA
  have oA := lA
  clear RA
  have hk0 := HK0.out
  have hk1 := HK1.out
  have hk2 := HK2.out
  have hk3 := HK3.out
  have hk4 := HK4.out
  have hk5 := HK5.out
  have hk6 := HK6.out
  have hkk1 : curS[q * 7 + 1 + 1]? = some (.int .i64 nlo) := HK2.out
  have hkk2 : curS[q * 7 + 1 + 2]? = some (.int .i64 nhi) := HK3.out
  have hkk3 : curS[q * 7 + 1 + 3]? = some (.int .i64 np) := HK4.out
  have hkk4 : curS[q * 7 + 1 + 4]? = some (.int .i64 nle) := HK5.out
  have hkk5 : curS[q * 7 + 1 + 5]? = some (.int .i64 nre) := HK6.out
  by_cases h9ae : ae = 0
  ·subst h9ae
   have hrr : b.heard q t4 (a0, a1, 0) = b.took q a0 a1 (learnK (kb, ⟨na, nlo, nhi, np, nle, nre⟩) t4 a0 a1 b.p) := by unfold Bn.heard; rw [if_pos rfl]; simp only [Int.toNat_natCast]; rw [HKV.out]
   have hlb := learnK_b (kb, ⟨na, nlo, nhi, np, nle, nre⟩) t4 a0 a1 b.p
   have HLB := Yh hlb; have HRR := Yh hrr; clear hlb hrr
   go_upto_block 0 with (fail)
   obtain ⟨wt, hX9⟩ : ∃ x9 : World, x9 = (v1.alloc (.cells #[.int .i64 na, .int .i64 nlo, .int .i64 nhi, .int .i64 np, .int .i64 nle, .int .i64 nre] 44)) := ⟨_, rfl⟩
   have hqX : Past [] w wt := by rw [hX9]; exact pa1
   have bP' : Blk wt (g) 76 #[.bool b.begun, .slice (some ⟨gs, 0, none⟩) b.srcs.length b.srcs.length, .int .i64 b.li, .int .i64 b.p, .int .i64 b.ck.aim, .int .i64 b.ck.rate, .bool b.ck.set, .bool b.ck.held, .int .i64 b.ck.at_, .int .i64 b.ck.shown, pq, v] := by rw [hX9]; exact bn1
   have bN' : Blk wt (gm) 3 curN := by rw [hX9]; exact bn1
   have bS' : Blk wt (gs) 170 curS := by rw [hX9]; exact bn1
   have bA' : Blk wt (gA) 40 #[.int .i64 a0, .int .i64 a1] := by rw [hX9]; exact bn1
   have bT' : Blk wt (v1.heap.size) 44 #[.int .i64 na, .int .i64 nlo, .int .i64 nhi, .int .i64 np, .int .i64 nle, .int .i64 nre] := by rw [hX9]; exact Blk.new _ _ _
   have Zwt : v1.heap.size + 1 ≤ wt.heap.size := by rw [hX9]; first | omega | (simp; done) | (simp [setAll_size]; done) | (simp <;> omega)
   rw [← hX9]
   clear hX9 Kv1
   clear bP cP fP lP eP kP; have bP := bP'; clear bP'
   clear bN cN fN lN eN kN; have bN := bN'; clear bN'
   clear bS cS fS lS eS kS; have bS := bS'; clear bS'
   clear bA cA fA lA eA kA; have bA := bA'; clear bA'
   have bT := bT'; clear bT'
   have hqXwt := hqX; clear hqX
   obtain ⟨cP, fP, lP, eP, kP⟩ := Yf bP
   obtain ⟨cN, fN, lN, eN, kN⟩ := Yf bN
   obtain ⟨cS, fS, lS, eS, kS⟩ := Yf bS
   obtain ⟨cA, fA, lA, eA, kA⟩ := Yf bA
   obtain ⟨cT, fT, lT, eT, kT⟩ := Yf bT
   have oT := lT
   go_cut [7, 9] (fun e ok wx => ∃ (le9 : Int) (lok : Bool) (k9 : K6), e = .int .i64 le9 ∧ ok = .bool lok ∧ learnK (kb, ⟨na, nlo, nhi, np, nle, nre⟩) t4 a0 a1 b.p = (le9, lok, k9) ∧ Past [] w wx ∧ Blk wx (g) 76 #[.bool b.begun, .slice (some ⟨gs, 0, none⟩) b.srcs.length b.srcs.length, .int .i64 b.li, .int .i64 b.p, .int .i64 b.ck.aim, .int .i64 b.ck.rate, .bool b.ck.set, .bool b.ck.held, .int .i64 b.ck.at_, .int .i64 b.ck.shown, pq, v] ∧ Blk wx (gm) 3 curN ∧ Blk wx (gs) 170 curS ∧ Blk wx (gA) 40 #[.int .i64 a0, .int .i64 a1] ∧ Blk wx (v1.heap.size) 44 #[.int .i64 k9.at_, .int .i64 k9.lo, .int .i64 k9.hi, .int .i64 k9.pp, .int .i64 k9.le, .int .i64 k9.re])
   case first =>
    cases kb with
    | true =>
     have RL := Yh (fun W => ilearn_any na nlo nhi np nle nre t4 a0 a1 W)
     have hlk : learnK (true, ⟨na, nlo, nhi, np, nle, nre⟩) t4 a0 a1 b.p = ((lrn na nlo nhi np nle nre t4 a0 a1).e, (lrn na nlo nhi np nle nre t4 a0 a1).ok, kOf (lrn na nlo nhi np nle nre t4 a0 a1)) := rfl
     obtain ⟨L9, hL9⟩ : ∃ L9, lrn na nlo nhi np nle nre t4 a0 a1 = L9 := ⟨_, rfl⟩
     rw [hL9] at hlk
     replace RL := Yh (fun W => hL9 ▸ RL.out W)
     have HLK := Yh hlk
     clear hlk hL9
     obtain ⟨la, llo, lhi, lp, lle, lre, lok, le9⟩ := L9
     unfold Lrn.V V6 at RL
     dsimp only at RL
     go_upto_region 9 with fail
     refine' wp_region_calmD Yr (fun D u9 w' => Past (v1.heap.size :: []) wt w' ∧ Blk w' (g) 76 #[.bool b.begun, .slice (some ⟨gs, 0, none⟩) b.srcs.length b.srcs.length, .int .i64 b.li, .int .i64 b.p, .int .i64 b.ck.aim, .int .i64 b.ck.rate, .bool b.ck.set, .bool b.ck.held, .int .i64 b.ck.at_, .int .i64 b.ck.shown, pq, v] ∧ Blk w' (gm) 3 curN ∧ Blk w' (gs) 170 curS ∧ Blk w' (gA) 40 #[.int .i64 a0, .int .i64 a1] ∧ (D 13 = false → Blk w' (v1.heap.size) 44 #[.int .i64 na, .int .i64 nlo, .int .i64 nhi, .int .i64 np, .int .i64 nle, .int .i64 nre]) ∧ (D 13 = true → Blk w' (v1.heap.size) 44 #[.int .i64 la, .int .i64 llo, .int .i64 lhi, .int .i64 lp, .int .i64 lle, .int .i64 lre]) ∧ wt.heap.size ≤ w'.heap.size) (fun _ _ => True) [Is _, Is _, Is _, Is _, Is _, Is _, Is _, Is _, Is _, Is _, Is _, Is _, Is _, (fun _ _ _ => True), Is _, Is _] [[], [0], [1], [2], [], [4], [5], [], [3, 6, 7], [8], [9], [9], [9], [10], [11], [12]] rfl (calmB_of Yr) Yp ?_ (Y1 (Y1 (Y1 (Y1 (Y1 (Y1 (Y1 (Y1 (Y1 (Y1 (Y1 (Y1 (Y1 (Y0 (Y1 (Y1 Yn)))))))))))))))) ?_ ?_
     ·exact ⟨pa1, bn1, bn1, bn1, bn1, (fun _ => bn1), (fun h => by cases h), (by first | exact Nat.le_refl _ | omega | (simp <;> omega))⟩
     rotate_left 15
     ·skip
      iterate 3 refine zq2 ?_
      refine zq3 (fun _ _ _ _ hn _ ⟨_, mP, mN, mS, mA, mT, _⟩ => have hB := mT (hn 13 Yr); Ya ((mN.cell 0).trans HC0.out) (Ya ((mN.cell 1).trans HC1.out) (Ya ((mN.cell 2).trans HC2.out) (Ya ((mN.cell 3).trans HC3.out) (Ya ((mN.cell 4).trans HC4.out) (Ya ((mN.cell 5).trans HC5.out) (Ya (Yq mP) (Ya (Yq mN) (Ya (Yq mS) (Ya (Yq mA) (Ya hB (Yq hB)))))))))))) ?_
      iterate 2 refine zq2 ?_
      refine zq3 (fun _ _ _ _ hn _ ⟨_, mP, mN, mS, mA, mT, _⟩ => have hB := mT (hn 13 Yr); Ya ((mN.cell 0).trans HC0.out) (Ya ((mN.cell 1).trans HC1.out) (Ya ((mN.cell 2).trans HC2.out) (Ya ((mN.cell 3).trans HC3.out) (Ya ((mN.cell 4).trans HC4.out) (Ya ((mN.cell 5).trans HC5.out) (Ya (Yq mP) (Ya (Yq mN) (Ya (Yq mS) (Ya (Yq mA) (Ya hB (Yq hB)))))))))))) ?_
      refine zq3 (fun _ _ _ _ hn _ ⟨_, mP, mN, mS, mA, mT, _⟩ => have hB := mT (hn 13 Yr); Ya ((mN.cell 0).trans HC0.out) (Ya ((mN.cell 1).trans HC1.out) (Ya ((mN.cell 2).trans HC2.out) (Ya ((mN.cell 3).trans HC3.out) (Ya ((mN.cell 4).trans HC4.out) (Ya ((mN.cell 5).trans HC5.out) (Ya (Yq mP) (Ya (Yq mN) (Ya (Yq mS) (Ya (Yq mA) (Ya hB (Yq hB)))))))))))) ?_
      refine dc1 (fun uu wq D hC hk K hK => ?_) ?_
      ·obtain ⟨hP, mP, mN, mS, mA, mT, yT, hZ⟩ := hC
       simp only [calmKnown, lg0, lg1, and_true, Is] at hk
       obtain ⟨h3, h6, h7⟩ := hk
       simp only [h3, h6, h7] at hK ⊢
       have H3 := Yh h3; clear h3; have H6 := Yh h6; clear h6; have H7 := Yh h7; clear h7
       go_wp2_with fail
       first | (with_reducible refine (RL.out _).mono ?_)
       rintro e w2 ⟨rfl, hbl⟩
       exact hK _ _ _ rfl ⟨hP.call hbl, Yk hbl mP, Yk hbl mN, Yk hbl mS, Yk hbl mA, (fun h => Yk hbl (mT h)), (fun h => Yk hbl (yT h)), Nat.le_trans hZ hbl.size⟩ trivial rfl
      iterate 4 refine zq2 ?_
      refine dSteps_cons (fun uu wq D hd hn hn2 hC hk K hK => ?_) ?_
      ·obtain ⟨hP, mP, mN, mS, mA, mT, yT, hZ⟩ := hC
       clear hn hn2
       simp only [calmKnown, lg0, lg1, and_true, Is] at hk
       have h10 := hk; clear hk
       simp only [h10] at hK ⊢
       have H10 := Yh h10; clear h10
       have hB := mT hd
       have hc9 := hB.cell; have hf9 := hB.frozen; have hl9 := hB.lt
       have hB2 := setAll_blk [.int .i64 la, .int .i64 llo, .int .i64 lhi, .int .i64 lp, .int .i64 lle, .int .i64 lre] 0 wq _ hB
       simp only [setArr, lst, ls0, ls1, Nat.zero_add, Nat.reduceAdd] at hB2
       go_simp
       exact hK _ undef (setAll wq (v1.heap.size) 0 [.int .i64 la, .int .i64 llo, .int .i64 lhi, .int .i64 lp, .int .i64 lle, .int .i64 lre]) rfl ⟨(setAll_pastX Ys [.int .i64 la, .int .i64 llo, .int .i64 lhi, .int .i64 lp, .int .i64 lle, .int .i64 lre] 0 wq hP), setAll_far (show g ≠ v1.heap.size by first | omega | (simp <;> omega)) [.int .i64 la, .int .i64 llo, .int .i64 lhi, .int .i64 lp, .int .i64 lle, .int .i64 lre] 0 wq mP, setAll_far (show gm ≠ v1.heap.size by first | omega | (simp <;> omega)) [.int .i64 la, .int .i64 llo, .int .i64 lhi, .int .i64 lp, .int .i64 lle, .int .i64 lre] 0 wq mN, setAll_far (show gs ≠ v1.heap.size by first | omega | (simp <;> omega)) [.int .i64 la, .int .i64 llo, .int .i64 lhi, .int .i64 lp, .int .i64 lle, .int .i64 lre] 0 wq mS, setAll_far (show gA ≠ v1.heap.size by first | omega | (simp <;> omega)) [.int .i64 la, .int .i64 llo, .int .i64 lhi, .int .i64 lp, .int .i64 lle, .int .i64 lre] 0 wq mA, (fun h => by cases h), (fun _ => hB2), (by rw [setAll_size]; exact hZ)⟩ trivial trivial
      iterate 2 refine zq2 ?_
      exact dSteps_nil
     ·intro uu v2 D hD hC hF
      obtain ⟨hP, mP, mN, mS, mA, mT, yT, hZ⟩ := hC
      simp only [calmFacts, Is, and_true, true_and] at hF
      obtain ⟨f0, f1, f2, f3, f4, f5, f6, f7, f8, f9, f10, f11, f12, f14, f15⟩ := hF
      simp only [f0, f1, f2, f3, f4, f5, f6, f7, f8, f9, f10, f11, f12, f14, f15]
      have bbT := yT (hD 13 Yd)
      have hq := hP; clear hP
      have Kv2 : Past [] w v2 := Past.transF hqXwt hq (by first | omega | (simp; omega))
      have Zv2 := hZ; clear hZ
      clear hq hqXwt
      clear bP cP fP lP eP kP; have bP := mP
      clear bN cN fN lN eN kN; have bN := mN
      clear bS cS fS lS eS kS; have bS := mS
      clear bA cA fA lA eA kA; have bA := mA
      clear bT cT fT lT eT kT; have bT := bbT
      clear mP mN mS mA mT yT bbT hD
      obtain ⟨cP, fP, lP, eP, kP⟩ := Yf bP
      obtain ⟨cN, fN, lN, eN, kN⟩ := Yf bN
      obtain ⟨cS, fS, lS, eS, kS⟩ := Yf bS
      obtain ⟨cA, fA, lA, eA, kA⟩ := Yf bA
      obtain ⟨cT, fT, lT, eT, kT⟩ := Yf bT
      go_wp2
      go_meet
      exact ⟨le9, lok, ⟨la, llo, lhi, lp, lle, lre⟩, rfl, rfl, HLK.out, pa1, bP, bN, bS, bA, bT⟩
    | false =>
     have RB9 := Yh (fun W => begK_V t4 a0 a1 b.p ▸ ibegin_any t4 a0 a1 b.p W)
     have hlk : learnK (false, ⟨na, nlo, nhi, np, nle, nre⟩) t4 a0 a1 b.p = (kE t4 a0 a1 b.p 0 0, true, begK t4 a0 a1 b.p) := rfl
     obtain ⟨k9, hk9⟩ : ∃ k9, begK t4 a0 a1 b.p = k9 := ⟨_, rfl⟩
     obtain ⟨le9, hle9⟩ : ∃ le9, kE t4 a0 a1 b.p 0 0 = le9 := ⟨_, rfl⟩
     rw [hle9, hk9] at hlk
     replace RB9 := Yh (fun W => hle9 ▸ hk9 ▸ RB9.out W)
     have HLK := Yh hlk
     clear hlk hk9 hle9
     obtain ⟨la, llo, lhi, lp, lle, lre⟩ := k9
     simp only [K6.cs] at RB9
     go_upto_region 6 with fail
     refine' wp_region_calmD Yr (fun D u9 w' => Past (v1.heap.size :: []) wt w' ∧ Blk w' (g) 76 #[.bool b.begun, .slice (some ⟨gs, 0, none⟩) b.srcs.length b.srcs.length, .int .i64 b.li, .int .i64 b.p, .int .i64 b.ck.aim, .int .i64 b.ck.rate, .bool b.ck.set, .bool b.ck.held, .int .i64 b.ck.at_, .int .i64 b.ck.shown, pq, v] ∧ Blk w' (gm) 3 curN ∧ Blk w' (gs) 170 curS ∧ Blk w' (gA) 40 #[.int .i64 a0, .int .i64 a1] ∧ (D 12 = false → Blk w' (v1.heap.size) 44 #[.int .i64 na, .int .i64 nlo, .int .i64 nhi, .int .i64 np, .int .i64 nle, .int .i64 nre]) ∧ (D 12 = true → Blk w' (v1.heap.size) 44 #[.int .i64 la, .int .i64 llo, .int .i64 lhi, .int .i64 lp, .int .i64 lle, .int .i64 lre]) ∧ wt.heap.size ≤ w'.heap.size) (fun _ _ => True) [Is _, Is _, Is _, Is _, Is _, Is _, Is _, Is _, Is _, Is _, Is _, Is _, (fun _ _ _ => True), Is _] [[], [0], [1], [], [], [4], [5], [6], [2, 3, 7], [8], [9], [9], [10], [11]] rfl (calmB_of Yr) Yp ?_ (Y1 (Y1 (Y1 (Y1 (Y1 (Y1 (Y1 (Y1 (Y1 (Y1 (Y1 (Y1 (Y0 (Y1 Yn)))))))))))))) ?_ ?_
     ·exact ⟨pa1, bn1, bn1, bn1, bn1, (fun _ => bn1), (fun h => by cases h), (by first | exact Nat.le_refl _ | omega | (simp <;> omega))⟩
     rotate_left 13
     ·skip
      iterate 2 refine zq2 ?_
      refine zq3 (fun _ _ _ _ hn _ ⟨_, mP, mN, mS, mA, mT, _⟩ => have hB := mT (hn 12 Yr); Ya ((mN.cell 0).trans HC0.out) (Ya ((mN.cell 1).trans HC1.out) (Ya ((mN.cell 2).trans HC2.out) (Ya ((mN.cell 3).trans HC3.out) (Ya ((mN.cell 4).trans HC4.out) (Ya ((mN.cell 5).trans HC5.out) (Ya (Yq mP) (Ya (Yq mN) (Ya (Yq mS) (Ya (Yq mA) (Ya hB (Yq hB)))))))))))) ?_
      refine zq3 (fun _ _ _ _ hn _ ⟨_, mP, mN, mS, mA, mT, _⟩ => have hB := mT (hn 12 Yr); Ya ((mN.cell 0).trans HC0.out) (Ya ((mN.cell 1).trans HC1.out) (Ya ((mN.cell 2).trans HC2.out) (Ya ((mN.cell 3).trans HC3.out) (Ya ((mN.cell 4).trans HC4.out) (Ya ((mN.cell 5).trans HC5.out) (Ya (Yq mP) (Ya (Yq mN) (Ya (Yq mS) (Ya (Yq mA) (Ya hB (Yq hB)))))))))))) ?_
      iterate 3 refine zq2 ?_
      refine zq3 (fun _ _ _ _ hn _ ⟨_, mP, mN, mS, mA, mT, _⟩ => have hB := mT (hn 12 Yr); Ya ((mN.cell 0).trans HC0.out) (Ya ((mN.cell 1).trans HC1.out) (Ya ((mN.cell 2).trans HC2.out) (Ya ((mN.cell 3).trans HC3.out) (Ya ((mN.cell 4).trans HC4.out) (Ya ((mN.cell 5).trans HC5.out) (Ya (Yq mP) (Ya (Yq mN) (Ya (Yq mS) (Ya (Yq mA) (Ya hB (Yq hB)))))))))))) ?_
      refine dc1 (fun uu wq D hC hk K hK => ?_) ?_
      ·obtain ⟨hP, mP, mN, mS, mA, mT, yT, hZ⟩ := hC
       simp only [calmKnown, lg0, lg1, and_true, Is] at hk
       obtain ⟨h2, h3, h7⟩ := hk
       simp only [h2, h3, h7] at hK ⊢
       have H2 := Yh h2; clear h2; have H3 := Yh h3; clear h3; have H7 := Yh h7; clear h7
       go_wp2_with fail
       first | (with_reducible refine (RB9.out _).mono ?_)
       rintro e w2 ⟨rfl, hbl⟩
       exact hK _ _ _ rfl ⟨hP.call hbl, Yk hbl mP, Yk hbl mN, Yk hbl mS, Yk hbl mA, (fun h => Yk hbl (mT h)), (fun h => Yk hbl (yT h)), Nat.le_trans hZ hbl.size⟩ trivial rfl
      iterate 3 refine zq2 ?_
      refine dSteps_cons (fun uu wq D hd hn hn2 hC hk K hK => ?_) ?_
      ·obtain ⟨hP, mP, mN, mS, mA, mT, yT, hZ⟩ := hC
       clear hn hn2
       simp only [calmKnown, lg0, lg1, and_true, Is] at hk
       have h10 := hk; clear hk
       simp only [h10] at hK ⊢
       have H10 := Yh h10; clear h10
       have hB := mT hd
       have hc9 := hB.cell; have hf9 := hB.frozen; have hl9 := hB.lt
       have hB2 := setAll_blk [.int .i64 la, .int .i64 llo, .int .i64 lhi, .int .i64 lp, .int .i64 lle, .int .i64 lre] 0 wq _ hB
       simp only [setArr, lst, ls0, ls1, Nat.zero_add, Nat.reduceAdd] at hB2
       go_simp
       exact hK _ undef (setAll wq (v1.heap.size) 0 [.int .i64 la, .int .i64 llo, .int .i64 lhi, .int .i64 lp, .int .i64 lle, .int .i64 lre]) rfl ⟨(setAll_pastX Ys [.int .i64 la, .int .i64 llo, .int .i64 lhi, .int .i64 lp, .int .i64 lle, .int .i64 lre] 0 wq hP), setAll_far (show g ≠ v1.heap.size by first | omega | (simp <;> omega)) [.int .i64 la, .int .i64 llo, .int .i64 lhi, .int .i64 lp, .int .i64 lle, .int .i64 lre] 0 wq mP, setAll_far (show gm ≠ v1.heap.size by first | omega | (simp <;> omega)) [.int .i64 la, .int .i64 llo, .int .i64 lhi, .int .i64 lp, .int .i64 lle, .int .i64 lre] 0 wq mN, setAll_far (show gs ≠ v1.heap.size by first | omega | (simp <;> omega)) [.int .i64 la, .int .i64 llo, .int .i64 lhi, .int .i64 lp, .int .i64 lle, .int .i64 lre] 0 wq mS, setAll_far (show gA ≠ v1.heap.size by first | omega | (simp <;> omega)) [.int .i64 la, .int .i64 llo, .int .i64 lhi, .int .i64 lp, .int .i64 lle, .int .i64 lre] 0 wq mA, (fun h => by cases h), (fun _ => hB2), (by rw [setAll_size]; exact hZ)⟩ trivial trivial
      refine zq2 ?_
      exact dSteps_nil
     ·intro uu v2 D hD hC hF
      obtain ⟨hP, mP, mN, mS, mA, mT, yT, hZ⟩ := hC
      simp only [calmFacts, Is, and_true, true_and] at hF
      obtain ⟨f0, f1, f2, f3, f4, f5, f6, f7, f8, f9, f10, f11, f13⟩ := hF
      simp only [f0, f1, f2, f3, f4, f5, f6, f7, f8, f9, f10, f11, f13]
      have bbT := yT (hD 12 Yd)
      have hq := hP; clear hP
      have Kv2 : Past [] w v2 := Past.transF hqXwt hq (by first | omega | (simp; omega))
      have Zv2 := hZ; clear hZ
      clear hq hqXwt
      clear bP cP fP lP eP kP; have bP := mP
      clear bN cN fN lN eN kN; have bN := mN
      clear bS cS fS lS eS kS; have bS := mS
      clear bA cA fA lA eA kA; have bA := mA
      clear bT cT fT lT eT kT; have bT := bbT
      clear mP mN mS mA mT yT bbT hD
      obtain ⟨cP, fP, lP, eP, kP⟩ := Yf bP
      obtain ⟨cN, fN, lN, eN, kN⟩ := Yf bN
      obtain ⟨cS, fS, lS, eS, kS⟩ := Yf bS
      obtain ⟨cA, fA, lA, eA, kA⟩ := Yf bA
      obtain ⟨cT, fT, lT, eT, kT⟩ := Yf bT
      go_wp2
      go_meet
      exact ⟨le9, true, ⟨la, llo, lhi, lp, lle, lre⟩, rfl, rfl, HLK.out, pa1, bP, bN, bS, bA, bT⟩
   case rest =>
    obtain ⟨le9, lok, k9, rfl, rfl, hlk, hqc, bP9, bN9, bS9, bA9, bT9⟩ := hcut
    clear bP cP fP lP eP kP; have bP := bP9; clear bP9
    clear bN cN fN lN eN kN; have bN := bN9; clear bN9
    clear bS cS fS lS eS kS; have bS := bS9; clear bS9
    clear bA cA fA lA eA kA; have bA := bA9; clear bA9
    clear bT cT fT lT eT kT; have bT := bT9; clear bT9
    have hlb := HLB.out; have hrr := HRR.out
    rw [hlk] at hlb hrr
    dsimp only at hlb
    clear HLB HRR hlk
    have HLB := Yh hlb; have HRR := Yh hrr
    clear hlb hrr
    obtain ⟨la, llo, lhi, lp, lle, lre⟩ := k9
    dsimp only at bT
    obtain ⟨cP, fP, lP, eP, kP⟩ := Yf bP
    obtain ⟨cN, fN, lN, eN, kN⟩ := Yf bN
    obtain ⟨cS, fS, lS, eS, kS⟩ := Yf bS
    obtain ⟨cA, fA, lA, eA, kA⟩ := Yf bA
    obtain ⟨cT, fT, lT, eT, kT⟩ := Yf bT
    have oT := lT
    obtain ⟨gT, hgT⟩ : ∃ gT, v1.heap.size = gT := ⟨_, rfl⟩
    rw [hgT] at bT cT fT lT eT kT oT
    (try simp only [hgT])
    have hTs : gT ≠ gs := Blk.ne bT bS Yd
    by_cases h9le9 : le9 = 0
    ·subst h9le9
     have hcs7 : q * 7 + 6 < curS.size := by have := HSC.out.1; omega
     have HKS := Yh hcs7; clear hcs7
     go_wp2_with fail
     refine (told_0 g _).mono ?_
     rintro e9 w6 ⟨rfl, hw6⟩
     rw [hw6]
     clear hw6
     go_upto_region 12 with fail
     refine' wp_region_calm Yr (fun n _ w' => Past [gs] wc w' ∧ Blk w' (gT) 44 #[.int .i64 la, .int .i64 llo, .int .i64 lhi, .int .i64 lp, .int .i64 lle, .int .i64 lre] ∧ Blk w' gs 170 (srcSt2 curS q ((true, ⟨la, llo, lhi, lp, lle, lre⟩) : Kw) n)) (fun _ _ => True) [Is _, Is _, Is _, Is _, Is _, (fun _ _ _ => True), Is _, Is _, (fun _ _ _ => True)] [[], [], [], [0], [3], [4], [1], [6], [7, 2]] [5, 8] [] rfl (calmB_of Yr) Yp ?_ (Y1 (Y1 (Y1 (Y1 (Y1 (Y0 (Y1 (Y1 (Y0 Yn))))))))) ?_ ?_
     ·intro _
      exact ⟨(show Past [gs] wc wc from Past.refl _ _), bT, bS⟩
     rotate_left 7
     ·skip
      iterate 2 refine zq0 ?_
      refine zq1 (fun _ _ _ _ _ ⟨_, hT, _⟩ => (Yq hT)) ?_
      iterate 2 refine zq0 ?_
      refine Yz (fun u wq n hn hn2 hC hk K hK => ?_) ?_
      ·obtain ⟨hP, hT, hS⟩ := hC
       simp only [calmKnown, lg0, lg1, and_true, Is] at hk
       have h4 := hk; clear hk
       simp only [h4] at hK ⊢
       have H4 := Yh h4; clear h4
       obtain rfl := hn 0 rfl
       have hS0 : Blk wq gs 170 curS := hS
       have z9 := (hS0.cell (q * 7)).trans HK0.out; have f9 := hS0.frozen; have l9 := hS0.lt
       have hB2 := setAll_blk [.bool true] (q * 7) wq _ hS0
       go_simp
       exact hK _ undef (setAll wq gs (q * 7) [.bool true]) rfl ⟨setAll_pastX Ys [.bool true] (q * 7) wq hP, setAll_far (show gT ≠ gs by omega) [.bool true] (q * 7) wq hT, hB2⟩ trivial trivial
      iterate 2 refine zq0 ?_
      refine Yz (fun u wq n hn hn2 hC hk K hK => ?_) ?_
      ·obtain ⟨hP, hT, hS⟩ := hC
       simp only [calmKnown, lg0, lg1, and_true, Is] at hk
       obtain ⟨h7, h2⟩ := hk
       simp only [h7, h2] at hK ⊢
       have H7 := Yh h7; clear h7; have H2 := Yh h2; clear h2
       obtain rfl := hn 1 rfl
       have hS0 : Blk wq gs 170 (setArr curS (q * 7) [.bool true]) := hS
       have z1 := (hS0.cell (q * 7 + 1)).trans (getE_set HKS.out HK1.out)
       have z2 := (hS0.cell (q * 7 + 2)).trans (getE_set HKS.out HK2.out)
       have z3 := (hS0.cell (q * 7 + 3)).trans (getE_set HKS.out HK3.out)
       have z4 := (hS0.cell (q * 7 + 4)).trans (getE_set HKS.out HK4.out)
       have z5 := (hS0.cell (q * 7 + 5)).trans (getE_set HKS.out HK5.out)
       have z6 := (hS0.cell (q * 7 + 6)).trans (getE_set HKS.out HK6.out)
       have zz1 : wq.cell? ⟨gs, q * 7 + 1 + 1, none⟩ = some (.int .i64 nlo) := (hS0.cell (q * 7 + 1 + 1)).trans (getE_set HKS.out HK2.out)
       have zz2 : wq.cell? ⟨gs, q * 7 + 1 + 2, none⟩ = some (.int .i64 nhi) := (hS0.cell (q * 7 + 1 + 2)).trans (getE_set HKS.out HK3.out)
       have zz3 : wq.cell? ⟨gs, q * 7 + 1 + 3, none⟩ = some (.int .i64 np) := (hS0.cell (q * 7 + 1 + 3)).trans (getE_set HKS.out HK4.out)
       have zz4 : wq.cell? ⟨gs, q * 7 + 1 + 4, none⟩ = some (.int .i64 nle) := (hS0.cell (q * 7 + 1 + 4)).trans (getE_set HKS.out HK5.out)
       have zz5 : wq.cell? ⟨gs, q * 7 + 1 + 5, none⟩ = some (.int .i64 nre) := (hS0.cell (q * 7 + 1 + 5)).trans (getE_set HKS.out HK6.out)
       have f9 := hS0.frozen; have l9 := hS0.lt
       have hB2 := setAll_blk [.int .i64 la, .int .i64 llo, .int .i64 lhi, .int .i64 lp, .int .i64 lle, .int .i64 lre] (q * 7 + 1) wq _ hS0
       go_simp
       have hset : setAll wq gs (q * 7 + 1) [.int .i64 la, .int .i64 llo, .int .i64 lhi, .int .i64 lp, .int .i64 lle, .int .i64 lre] = ((((((wq.setCell ⟨gs, q * 7 + 1, none⟩ (.int .i64 la)).setCell ⟨gs, q * 7 + 1 + 1, none⟩ (.int .i64 llo)).setCell ⟨gs, q * 7 + 1 + 2, none⟩ (.int .i64 lhi)).setCell ⟨gs, q * 7 + 1 + 3, none⟩ (.int .i64 lp)).setCell ⟨gs, q * 7 + 1 + 4, none⟩ (.int .i64 lle)).setCell ⟨gs, q * 7 + 1 + 5, none⟩ (.int .i64 lre)) := by simp only [setAll, Nat.add_assoc, Nat.reduceAdd]
       have h1 := setAll_pastX (X := [gs]) (g := gs) Ys [.int .i64 la, .int .i64 llo, .int .i64 lhi, .int .i64 lp, .int .i64 lle, .int .i64 lre] (q * 7 + 1) wq hP
       have h2 := setAll_far (show gT ≠ gs by omega) [.int .i64 la, .int .i64 llo, .int .i64 lhi, .int .i64 lp, .int .i64 lle, .int .i64 lre] (q * 7 + 1) wq hT
       rw [hset, ← setArr_cons] at hB2
       rw [hset] at h1 h2
       clear hset
       exact hK _ undef ((((((wq.setCell ⟨gs, q * 7 + 1, none⟩ (.int .i64 la)).setCell ⟨gs, q * 7 + 1 + 1, none⟩ (.int .i64 llo)).setCell ⟨gs, q * 7 + 1 + 2, none⟩ (.int .i64 lhi)).setCell ⟨gs, q * 7 + 1 + 3, none⟩ (.int .i64 lp)).setCell ⟨gs, q * 7 + 1 + 4, none⟩ (.int .i64 lle)).setCell ⟨gs, q * 7 + 1 + 5, none⟩ (.int .i64 lre)) rfl ⟨h1, h2, hB2⟩ trivial trivial
      exact Yw
     ·intro u wz hC hF
      obtain ⟨hP, hT, hS⟩ := hC
      clear hF
      have hst := BnAt.source (q := q) ((true, ⟨la, llo, lhi, lp, lle, lre⟩) : Kw) hB bP rfl hgs bS HSC.out hql HE3.out ((HE4.out.pastT (Ts := []) (PastT.below (Past.toBelow hqc)) Ys)) hP hS
      have bA8 := hP.blk bA Y7
      have bN8 := hP.blk bN Y7
      have HST := Yh hst; have HA8 := Yh bA8; have HN8 := Yh bN8; have P8 := Yh ((HPW.out.below (Past.toBelow hqc)).pastT hst.2); have HKK := Yh (Past.toBelow hqc)
      clear hP hT hS hst bA8 bN8
      go_upto_if 106 with fail
      go_cut [10] (fun wd wx => wd = .string ⟨(if lok then wLearnt else wRefused).toArray⟩ ∧ wx = wz)
      case first =>
       cases lok with
       | true =>
        simp only [Bool.not_true]
        go_wp2
        go_meet
        exact ⟨rfl, rfl⟩
       | false =>
        simp only [Bool.not_false]
        go_wp2
        go_meet
        exact ⟨rfl, rfl⟩
      case rest =>
      obtain ⟨rfl, hwz⟩ := hcut
      rw [hwz]
      clear hwz
      have hwl : (if lok then wLearnt else wRefused).length ≤ 10 := by cases lok <;> decide
      obtain ⟨wd9, hwd⟩ : ∃ wd, (if lok then wLearnt else wRefused) = wd := ⟨_, rfl⟩
      rw [hwd] at hwl ⊢
      have HWD := Yh hwd; clear hwd
      go_upto_region 16 with fail
      refine' wp_region_calm Yr (fun n _ w' => (n = 0 → Below wz.heap.size wz w') ∧ (n = 1 → BnAt B w' g (Bn.say { b with srcs := b.srcs.set q ((true, ⟨la, llo, lhi, lp, lle, lre⟩) : Kw) } wd9 [(q : Int), a0, a1]) ∧ PastT B [5, 76] wz w')) (PastT B [5, 76]) [Is _, Is _, Is _, Is _, Is _, Is _, Is _, Is _, Is _, (SliceB [] wz.heap.size 3 3 #[.int .i64 (q : Int), .int .i64 a0, .int .i64 a1]), (fun _ _ _ => True)] [[], [], [], [2], [3], [], [5], [], [7], [4, 6, 8], [0, 1, 9]] [10] [] rfl (calmB_of Yr) Yp ?_ (Y1 (Y1 (Y1 (Y1 (Y1 (Y1 (Y1 (Y1 (Y1 (kcc (keep_slicePT Yd) (Y0 Yn))))))))))) ?_ ?_
      ·intro _
       exact ⟨fun _ => Yl.drew, fun h => by cases h⟩
      rotate_left 9
      ·skip
       iterate 4 refine zq0 ?_
       refine Yz (fun u wq n hn hn2 hC hk K hK => ?_) ?_
       ·obtain ⟨hR0, hR1⟩ := hC
        simp only [calmKnown, lg0, lg1, and_true, Is] at hk
        have h3 := hk; clear hk
        simp only [h3] at hK ⊢
        have H3 := Yh h3; clear h3
        have hn0 : n = 0 := Nat.le_zero.1 (hn2 0 10 rfl Yr)
        subst hn0
        have hQ := hR0 rfl
        have bx := Yk hQ HN8.out; have z9 := (bx.cell 0).trans HC0.out; have l9 := bx.lt
        go_simp
        exact hK _ _ _ rfl ⟨hR0, hR1⟩ (PastT.refl _ _ _) rfl
       refine zq0 ?_
       refine Yz (fun u wq n hn hn2 hC hk K hK => ?_) ?_
       ·obtain ⟨hR0, hR1⟩ := hC
        simp only [calmKnown, lg0, lg1, and_true, Is] at hk
        have h5 := hk; clear hk
        simp only [h5] at hK ⊢
        have H5 := Yh h5; clear h5
        have hn0 : n = 0 := Nat.le_zero.1 (hn2 0 10 rfl Yr)
        subst hn0
        have hQ := hR0 rfl
        have bx := Yk hQ HA8.out; have z9 := bx.cell; have l9 := bx.lt
        go_simp
        exact hK _ _ _ rfl ⟨hR0, hR1⟩ (PastT.refl _ _ _) rfl
       refine zq0 ?_
       refine Yz (fun u wq n hn hn2 hC hk K hK => ?_) ?_
       ·obtain ⟨hR0, hR1⟩ := hC
        simp only [calmKnown, lg0, lg1, and_true, Is] at hk
        have h7 := hk; clear hk
        simp only [h7] at hK ⊢
        have H7 := Yh h7; clear h7
        have hn0 : n = 0 := Nat.le_zero.1 (hn2 0 10 rfl Yr)
        subst hn0
        have hQ := hR0 rfl
        have bx := Yk hQ HA8.out; have z9 := bx.cell; have l9 := bx.lt
        go_simp
        exact hK _ _ _ rfl ⟨hR0, hR1⟩ (PastT.refl _ _ _) rfl
       refine Yz (fun u wq n hn hn2 hC hk K hK => ?_) ?_
       ·obtain ⟨hR0, hR1⟩ := hC
        simp only [calmKnown, lg0, lg1, and_true, Is] at hk
        obtain ⟨h4, h6, h8⟩ := hk
        simp only [h4, h6, h8] at hK ⊢
        have H4 := Yh h4; clear h4; have H6 := Yh h6; clear h6; have H8 := Yh h8; clear h8
        have hn0 : n = 0 := Nat.le_zero.1 (hn2 0 10 rfl Yr)
        subst hn0
        have hQ := hR0 rfl
        go_simp
        exact hK _ _ _ rfl ⟨fun _ => hQ.alloc hQ.size _, fun h => by cases h⟩ (PastT.below (below_new _ _)) ⟨_, rfl, by simp, hQ.size, Blk.new _ _ _⟩
       refine Yz (fun u wq n hn hn2 hC hk K hK => ?_) ?_
       ·obtain ⟨hR0, hR1⟩ := hC
        simp only [calmKnown, lg0, lg1, and_true, Is] at hk
        obtain ⟨h0, h1, ⟨g9, h9, -, hl9, hb9⟩⟩ := hk
        simp only [h0, h1, h9] at hK ⊢
        have H0 := Yh h0; clear h0; have H1 := Yh h1; clear h1; have H9 := Yh h9; clear h9
        obtain rfl := hn 0 rfl
        have hQ := hR0 rfl
        have hnr : NumsR wq (some ⟨g9, 0, none⟩) 3 [(q : Int), a0, a1] := NumsR.of (zs := [(q : Int), a0, a1]) hb9
        have HNR := Yh hnr; have HB9 := Yh hb9
        clear hnr hb9
        go_wp2_with fail
        refine (say_any B g _ ⟨wd9.toArray⟩ _ 3 3 [(q : Int), a0, a1] _ (HST.out.1.below hQ) HNR.out (fun n hn => by simp at hn; rcases hn with rfl | rfl | rfl; exact HS0.out; exact HA0.out; exact HA1.out) (P8.out.below hQ) (by show b.out.length + wd9.length + 22 * 3 + 1 ≤ _; omega)).mono ?_
        rintro e w2 ⟨rfl, h2, hT2⟩
        exact hK _ _ _ rfl ⟨(fun h => by cases h), fun _ => ⟨h2, (PastT.below hQ).trans hT2⟩⟩ hT2 trivial
       exact Yw
      ·intro u wy hC hF
       obtain ⟨h10, hT10⟩ := hC.2 rfl
       clear hF hC
       go_wp2
       go_ret
       rw [HRR.out, show b.took (q : Int) a0 a1 (0, lok, ⟨la, llo, lhi, lp, lle, lre⟩) = (Bn.say { b with srcs := b.srcs.set q ((true, ⟨la, llo, lhi, lp, lle, lre⟩) : Kw) } wd9 [(q : Int), a0, a1], 0) from by unfold Bn.took; rw [if_pos rfl]; simp only [Int.toNat_natCast]; rw [HWD.out]]
       exact ⟨rfl, h10, (PastT.below HKK.out).trans ((HST.out.2.mono (fun t ht => by simp at ht; subst ht; simp)).trans hT10.three)⟩
    ·skip
     have g1 : (le9 == 0) = false := by simpa using h9le9
     have g2 : decide (le9 = 0) = false := by simpa using h9le9
     have g3 : (le9 != 0) = true := by simpa using h9le9
     go_wp2_with fail
     refine (told_e B g b le9 _ ((HH.out.below (Past.toBelow hqc)).below bl0) h9le9 HLB.out.small ((HPW.out.below (Past.toBelow hqc)).below bl0) hl).mono ?_
     rintro e9 w6 ⟨rfl, h6, hT6⟩
     go_wp2
     go_ret
     rw [HRR.out, show b.took (q : Int) a0 a1 (le9, lok, ⟨la, llo, lhi, lp, lle, lre⟩) = b.tell le9 from if_neg h9le9]
     exact ⟨rfl, h6, ((PastT.below (Yc (show Below wc.heap.size wc _ from bl0) (Past.toBelow hqc))).trans hT6).three⟩
  ·skip
   have g1 : (ae == 0) = false := by simpa using h9ae
   have g2 : decide (ae = 0) = false := by simpa using h9ae
   have g3 : (ae != 0) = true := by simpa using h9ae
   go_wp2_with fail
   refine (told_e B g b ae _ ((HH.out.below (Past.toBelow Kv1)).below bl0) h9ae HAE.out.small ((HPW.out.below (Past.toBelow Kv1)).below bl0) hl).mono ?_
   rintro e9 w6 ⟨rfl, h6, hT6⟩
   go_wp2
   go_ret
   rw [show b.heard (q : Int) t4 (a0, a1, ae) = b.tell ae from if_neg h9ae]
   exact ⟨rfl, h6, ((PastT.below (Yc (show Below v1.heap.size v1 _ from bl0) (Past.toBelow Kv1))).trans hT6).three⟩
end Go.Proofs.YtiinmhfolfgobaaGreatDoor
