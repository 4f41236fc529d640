/- The walk of TopInfluence. -/
import Derived.Test.YtlnboheahbfgfaaGreatAwake
import Derived.Test.YtlnboheahbfgfaaGreatC37
import Derived.Test.YtlnboheahbfgfaaGreatCalmF
import Derived.Test.YtlnboheahbfgfaaGreatCalmP
import Derived.Test.YtlnboheahbfgfaaGreatCalmR
import Derived.Test.YtlnboheahbfgfaaGreatDrawY
import Derived.Test.YtlnboheahbfgfaaGreatEl
import Derived.Test.YtlnboheahbfgfaaGreatPoolC
import Derived.Test.YtlnboheahbfgfaaGreatQrI
import Derived.Test.YtlnboheahbfgfaaGreatSpans
import Derived.Test.YtlnboheahbfgfaaGreatTapK
import Derived.Test.YtlnboheahbfgfaaGreatJ37
namespace Go.Proofs.YtlnboheahbfgfaaGreat
open Go.RowKit Go.Shelf Go.Sort
set_option linter.unusedSimpArgs false
set_option linter.unusedVariables false

/-- A value that is known where a test has come out true, and is none where not. -/
def Gd (b : Bool) (c : Value) : List Value → Value → World → Prop := fun _ v _ => (b = true → v = c) ∧ (b = false → v = undef)
theorem RowS.tap {w w' : World} {base b : Nat} {v : Value} {zs : List (Int × Int)} (h : RowS w base v zs) (hg : w.grownBy w' (some b)) (hb : b < base) : RowS w' base v zs := RowS.kept h hg (fun k hk e => by have := (RowS.lt h k hk).1; injection e with e; omega)
theorem getD_snoc {α : Type} (l : List α) (x d : α) (j : Nat) : (l ++ [x]).getD j d = if j < l.length then l.getD j d else if j = l.length then x else d := by
  rw [List.getD_eq_getElem?_getD, List.getElem?_append]
  split
  · rw [List.getD_eq_getElem?_getD]
  · split
    · next h => subst h; simp
    · next h => rw [List.getElem?_eq_none (by simp; omega)]; rfl
/-- The spans of a pool of which the first lie. -/
def SpanT (ss : List (Int × Int)) (bad t : Int) : Prop := ∀ j : Nat, j < ss.length → -100 ≤ (ss.getD j (0, 0)).1 ∧ (ss.getD j (0, 0)).1 ≤ (ss.getD j (0, 0)).2 ∧ (ss.getD j (0, 0)).2 ≤ 2000 ∧ (¬ (j : Int) < bad → (ss.getD j (0, 0)).1 ≤ t ∧ t ≤ (ss.getD j (0, 0)).2)
theorem SpanT.snoc {ss : List (Int × Int)} {bad t a b : Int} (h : SpanT ss bad t) (h1 : -100 ≤ a ∧ a ≤ b ∧ b ≤ 2000) (h2 : ¬ (ss.length : Int) < bad → a ≤ t ∧ t ≤ b) : SpanT (ss ++ [(a, b)]) bad t := fun j hj => by
  rw [List.length_append, List.length_singleton] at hj
  rw [getD_snoc]
  by_cases e : j < ss.length
  · rw [if_pos e]; exact h j e
  · rw [if_neg e, if_pos (by omega)]
    exact ⟨h1.1, h1.2.1, h1.2.2, fun hb => h2 (by rw [show (ss.length : Int) = (j : Int) by omega]; exact hb)⟩
theorem SpanT.ck {ss : List (Int × Int)} {bad t : Int} (h : SpanT ss bad t) (dl : List Int) (hd : dl.length ≤ 32) (hr : ∀ x ∈ dl, 0 ≤ x ∧ x < ss.length) : ckE (chS ss dl) = 0 := by
  refine small_ck (most := 10000) (fun z hz => ?_) (by decide) (by rw [chS_len]; omega)
  unfold chS at hz
  obtain ⟨i, hi, rfl⟩ := List.mem_map.1 hz
  have h1 := hr i hi
  have h2 := h i.toNat (by omega)
  refine ⟨by omega, by omega, by omega, by omega⟩
theorem cnt_all (t : Int) : ∀ zs : List (Int × Int), (∀ z ∈ zs, vS z.1 z.2 = true ∧ z.1 ≤ t ∧ t ≤ z.2) → cntS zs t = zs.length
  | [], _ => rfl
  | z :: zs, h => by
    obtain ⟨h1, h2, h3⟩ := h z (by simp)
    rw [cntS_cons, cnt_all t zs (fun y hy => h y (by simp [hy])), if_pos (by simp [inS, h1, h2, h3])]
    simp; omega
def TjRel (w : World) (b n : Nat) (bad t : Int) (v1 i : Value) (G : Nat) (wr : World) : Prop := ∃ (q : Nat) (ss : List (Int × Int)) (A1 : Option Addr) (c1 : Nat), q ≤ n ∧ G = n - q ∧ i = .int .i64 q ∧ ss.length = q ∧ v1 = .slice A1 q c1 ∧ RowS wr (w.heap.size + 1) (.slice A1 q c1) ss ∧ SpanT ss bad t ∧ TapeAt wr b ∧ Below w.heap.size w wr
def LiRel (w : World) (kk : Nat) (ss : List (Int × Int)) (dl : List Int) (bad : Int) (v21 v22 i : Value) (G : Nat) (wr : World) : Prop := ∃ (p m : Nat) (A : Option Addr) (c : Nat), p ≤ kk ∧ G = kk - p ∧ i = .int .i64 p ∧ v21 = .int .i64 (lyS (dl.take p) bad : Int) ∧ m = (hoS (dl.take p) bad).length ∧ v22 = .slice A m c ∧ RowS wr w.heap.size (.slice A m c) (chS ss (hoS (dl.take p) bad)) ∧ Below w.heap.size w wr
set_option maxRecDepth 100000 in
set_option maxHeartbeats 8000000 in
theorem infl_walk (LA : Option Addr) (llen lcap : Nat) (ls0 : List Int) (v tr0 : Int) (w : World) (k9 : IntsAt w LA llen ls0) :
    Calls Tryz.prog 3 #[.slice LA llen lcap, .int .i64 v, .int .i64 tr0] w (RB w (.bool true)) := by
  have HK := Lib.hid (show Kp w w from Below.refl _ _)
  have HLI := Lib.hid k9; clear k9
  have hroot : w.heap.size < w.heap.size + 1 := Nat.lt_succ_self _
  obtain ⟨tr, htr⟩ : ∃ tr : Int, tr0 % 1000 = tr := ⟨_, rfl⟩
  have tr1 : 0 ≤ tr := by omega
  have tr2 : tr ≤ 999 := by omega
  go_enter Tryz.func3, Tryz.ntmps3
  go_wp2_with fail
  refine (new_any LA llen lcap ls0 _ HLI.out).mono ?_
  rintro e w1 ⟨rfl, ht1, hb1⟩
  have Z1 := hb1.size
  have T1 := ht1.lt
  replace HK := Lib.hid (HK.out.below hb1)
  clear hb1 HLI
  obtain ⟨b, hb⟩ : ∃ b, b = w.heap.size := ⟨_, rfl⟩
  have hbw : w.heap.size ≤ b := by omega
  have hbw2 : b < w.heap.size + 1 := by omega
  rw [← hb] at ht1 T1 ⊢
  clear hb
  have HT := Lib.hid ht1; clear ht1
  go_wp2_with fail
  refine (within_any tr0 1000 _ (by omega) (by omega)).mono ?_
  rintro e w2 ⟨rfl, rfl⟩
  rw [htr]
  clear htr
  go_wp2_with fail
  refine (int_any b 12 _ (HT.out.below (by (repeat' (first | (with_reducible exact Below.refl _ _) | (with_reducible refine Below.setCell ?_ ?_ _) | (with_reducible refine Below.alloc ?_ ?_ _) | (with_reducible refine Below.drew ?_) | (with_reducible refine below_drewN ?_ _))) <;> (first | omega | (simp <;> omega)))) (by omega) (by omega)).mono ?_
  rintro e w2 ⟨kv, rfl, kv0, kv1, ht2, hg2⟩
  have Z2 := Nat.le_trans (show w1.heap.size ≤ _ from Below.size (show Below w1.heap.size w1 _ from (by (repeat' (first | (with_reducible exact Below.refl _ _) | (with_reducible refine Below.setCell ?_ ?_ _) | (with_reducible refine Below.alloc ?_ ?_ _) | (with_reducible refine Below.drew ?_) | (with_reducible refine below_drewN ?_ _))) <;> (first | omega | (simp <;> omega))))) hg2.size
  replace HK := Lib.hid ((HK.out.below (by (repeat' (first | (with_reducible exact Below.refl _ _) | (with_reducible refine Below.setCell ?_ ?_ _) | (with_reducible refine Below.alloc ?_ ?_ _) | (with_reducible refine Below.drew ?_) | (with_reducible refine below_drewN ?_ _))) <;> (first | omega | (simp <;> omega)))).tap hg2 (by omega))
  replace HT := Lib.hid ht2
  clear ht2 hg2
  obtain ⟨n, hn⟩ : ∃ n : Nat, 5 + kv = (n : Int) := ⟨(5 + kv).toNat, by omega⟩
  have n0 : 5 ≤ n := by omega
  have n1 : n ≤ 16 := by omega
  have wn : IntKind.i64.wrap (5 + kv) = (n : Int) := by rw [IntWalk.i64_in _ (by omega)]; exact hn
  clear hn
  go_wp2_with fail
  refine (int_any b 2 _ (HT.out.below (by (repeat' (first | (with_reducible exact Below.refl _ _) | (with_reducible refine Below.setCell ?_ ?_ _) | (with_reducible refine Below.alloc ?_ ?_ _) | (with_reducible refine Below.drew ?_) | (with_reducible refine below_drewN ?_ _))) <;> (first | omega | (simp <;> omega)))) (by omega) (by omega)).mono ?_
  rintro e w3 ⟨k2, rfl, k20, k21, ht3, hg3⟩
  have Z3 := Nat.le_trans (show w2.heap.size ≤ _ from Below.size (show Below w2.heap.size w2 _ from (by (repeat' (first | (with_reducible exact Below.refl _ _) | (with_reducible refine Below.setCell ?_ ?_ _) | (with_reducible refine Below.alloc ?_ ?_ _) | (with_reducible refine Below.drew ?_) | (with_reducible refine below_drewN ?_ _))) <;> (first | omega | (simp <;> omega))))) hg3.size
  replace HK := Lib.hid ((HK.out.below (by (repeat' (first | (with_reducible exact Below.refl _ _) | (with_reducible refine Below.setCell ?_ ?_ _) | (with_reducible refine Below.alloc ?_ ?_ _) | (with_reducible refine Below.drew ?_) | (with_reducible refine below_drewN ?_ _))) <;> (first | omega | (simp <;> omega)))).tap hg3 (by omega))
  replace HT := Lib.hid ht3
  clear ht3 hg3
  obtain ⟨k4, hk4⟩ : ∃ k4, 2 * k2 = k4 := ⟨_, rfl⟩
  have wk4 : IntKind.i64.wrap (2 * k2) = k4 := by rw [IntWalk.i64_in _ (by omega)]; exact hk4
  obtain ⟨kk, hkk⟩ : ∃ kk : Nat, 3 + k4 = (kk : Int) := ⟨(3 + k4).toNat, by omega⟩
  have hk35 : kk = 3 ∨ kk = 5 := by omega
  have wk : IntKind.i64.wrap (3 + k4) = (kk : Int) := by rw [IntWalk.i64_in _ (by omega)]; exact hkk
  obtain ⟨hv, hhv⟩ : ∃ hv, ((kk : Int) + 1).tdiv 2 = hv := ⟨_, rfl⟩
  have hv2 : hv = ((kk : Int) + 1) / 2 := by rw [← hhv, Int.tdiv_eq_ediv_of_nonneg (by omega)]
  have hv0 : 1 ≤ hv := by omega
  have hv1 : 2 * hv ≤ (kk : Int) + 1 := by omega
  have wk1 : IntKind.i64.wrap ((kk : Int) + 1) = (kk : Int) + 1 := IntWalk.i64_in _ (by omega)
  have wk2 : IntKind.i64.wrap hv = hv := IntWalk.i64_in _ (by omega)
  clear hv2 hkk hk4
  go_wp2_with fail
  refine (int_any b hv _ (HT.out.below (by (repeat' (first | (with_reducible exact Below.refl _ _) | (with_reducible refine Below.setCell ?_ ?_ _) | (with_reducible refine Below.alloc ?_ ?_ _) | (with_reducible refine Below.drew ?_) | (with_reducible refine below_drewN ?_ _))) <;> (first | omega | (simp <;> omega)))) (by omega) (by omega)).mono ?_
  rintro e w4 ⟨f0, rfl, f00, f01, ht4, hg4⟩
  have Z4 := Nat.le_trans (show w3.heap.size ≤ _ from Below.size (show Below w3.heap.size w3 _ from (by (repeat' (first | (with_reducible exact Below.refl _ _) | (with_reducible refine Below.setCell ?_ ?_ _) | (with_reducible refine Below.alloc ?_ ?_ _) | (with_reducible refine Below.drew ?_) | (with_reducible refine below_drewN ?_ _))) <;> (first | omega | (simp <;> omega))))) hg4.size
  replace HK := Lib.hid ((HK.out.below (by (repeat' (first | (with_reducible exact Below.refl _ _) | (with_reducible refine Below.setCell ?_ ?_ _) | (with_reducible refine Below.alloc ?_ ?_ _) | (with_reducible refine Below.drew ?_) | (with_reducible refine below_drewN ?_ _))) <;> (first | omega | (simp <;> omega)))).tap hg4 (by omega))
  replace HT := Lib.hid ht4
  clear ht4 hg4
  obtain ⟨f, rfl⟩ : ∃ f : Nat, f0 = (f : Int) := ⟨f0.toNat, by omega⟩
  have hfk : 2 * (f : Int) < (kk : Int) := by omega
  clear wk wk1 wk2 wk4 hhv hv0 hv1 f01 f00 kv0 kv1 k20 k21
  have wn1 : IntKind.i64.wrap ((n : Int) + 1) = (n : Int) + 1 := IntWalk.i64_in _ (by omega)
  go_wp2_with fail
  refine (int_any b ((n : Int) + 1) _ (HT.out.below (by (repeat' (first | (with_reducible exact Below.refl _ _) | (with_reducible refine Below.setCell ?_ ?_ _) | (with_reducible refine Below.alloc ?_ ?_ _) | (with_reducible refine Below.drew ?_) | (with_reducible refine below_drewN ?_ _))) <;> (first | omega | (simp <;> omega)))) (by omega) (by omega)).mono ?_
  rintro e w5 ⟨bad0, rfl, bad00, bad01, ht5, hg5⟩
  have Z5 := Nat.le_trans (show w4.heap.size ≤ _ from Below.size (show Below w4.heap.size w4 _ from (by (repeat' (first | (with_reducible exact Below.refl _ _) | (with_reducible refine Below.setCell ?_ ?_ _) | (with_reducible refine Below.alloc ?_ ?_ _) | (with_reducible refine Below.drew ?_) | (with_reducible refine below_drewN ?_ _))) <;> (first | omega | (simp <;> omega))))) hg5.size
  replace HK := Lib.hid ((HK.out.below (by (repeat' (first | (with_reducible exact Below.refl _ _) | (with_reducible refine Below.setCell ?_ ?_ _) | (with_reducible refine Below.alloc ?_ ?_ _) | (with_reducible refine Below.drew ?_) | (with_reducible refine below_drewN ?_ _))) <;> (first | omega | (simp <;> omega)))).tap hg5 (by omega))
  replace HT := Lib.hid ht5
  clear ht5 hg5
  obtain ⟨bad, rfl⟩ : ∃ bad : Nat, bad0 = (bad : Int) := ⟨bad0.toNat, by omega⟩
  have hbn : bad ≤ n := by omega
  go_wp2
  obtain ⟨w9, rfl⟩ : ∃ x : World, x = w5 := ⟨_, rfl⟩
  clear wn wn1 bad00 bad01
  go_loopg [12, 13] n (fun G v1 i wr => TjRel w b n bad tr v1 i G wr)
  case atStart => exact ⟨0, [], none, 0, by omega, by omega, rfl, rfl, rfl, RowS.nil, (fun j hj => by simp at hj), HT.out, HK.out.b⟩
  case round =>
    obtain ⟨q, ss, A1, c1, hq, rfl, rfl, hsl, rfl, hrow, hsb, htr, KR⟩ := hrel
    have ZR := KR.size
    clear HK HT
    have HK := Lib.hid (show Kp w wr from KR); have HT := Lib.hid htr; have HRS := Lib.hid hrow; have HSB := Lib.hid hsb; have HSL := Lib.hid hsl
    have TR := htr.lt
    clear KR htr hrow hsb hsl
    by_cases hlt : q < n
    · have gq : decide ((q : Int) < (n : Int)) = true := decide_eq_true (by omega)
      have gqn : decide (q < n) = true := decide_eq_true hlt
      have wq : IntKind.i64.wrap ((q : Int) + 1) = ((q + 1 : Nat) : Int) := by rw [IntWalk.i64_in _ (by omega)]; omega
      generalize hv1 : (Value.slice A1 q c1) = v1 at *
      have HV1 := Lib.hid hv1; clear hv1
      go_wp2_with fail
      refine (int_any b 20 _ (HT.out.below (by (repeat' (first | (with_reducible exact Below.refl _ _) | (with_reducible refine Below.setCell ?_ ?_ _) | (with_reducible refine Below.alloc ?_ ?_ _) | (with_reducible refine Below.drew ?_) | (with_reducible refine below_drewN ?_ _))) <;> (first | omega | (simp <;> omega)))) (by omega) (by omega)).mono ?_
      rintro e w6 ⟨ua, rfl, ua0, ua1, ht6, hg6⟩
      have Z6 := Nat.le_trans (show wr.heap.size ≤ _ from Below.size (show Below wr.heap.size wr _ from (by (repeat' (first | (with_reducible exact Below.refl _ _) | (with_reducible refine Below.setCell ?_ ?_ _) | (with_reducible refine Below.alloc ?_ ?_ _) | (with_reducible refine Below.drew ?_) | (with_reducible refine below_drewN ?_ _))) <;> (first | omega | (simp <;> omega))))) hg6.size
      replace HK := Lib.hid ((HK.out.below (by (repeat' (first | (with_reducible exact Below.refl _ _) | (with_reducible refine Below.setCell ?_ ?_ _) | (with_reducible refine Below.alloc ?_ ?_ _) | (with_reducible refine Below.drew ?_) | (with_reducible refine below_drewN ?_ _))) <;> (first | omega | (simp <;> omega)))).tap hg6 (by omega))
      replace HRS := Lib.hid ((HRS.out.below (by (repeat' (first | (with_reducible exact Below.refl _ _) | (with_reducible refine Below.setCell ?_ ?_ _) | (with_reducible refine Below.alloc ?_ ?_ _) | (with_reducible refine Below.drew ?_) | (with_reducible refine below_drewN ?_ _))) <;> (first | omega | (simp <;> omega)))).tap hg6 (by omega))
      replace HT := Lib.hid ht6
      clear ht6 hg6
      go_wp2_with fail
      refine (int_any b 20 _ (HT.out.below (by (repeat' (first | (with_reducible exact Below.refl _ _) | (with_reducible refine Below.setCell ?_ ?_ _) | (with_reducible refine Below.alloc ?_ ?_ _) | (with_reducible refine Below.drew ?_) | (with_reducible refine below_drewN ?_ _))) <;> (first | omega | (simp <;> omega)))) (by omega) (by omega)).mono ?_
      rintro e w7 ⟨ub, rfl, ub0, ub1, ht7, hg7⟩
      have Z7 := Nat.le_trans (show w6.heap.size ≤ _ from Below.size (show Below w6.heap.size w6 _ from (by (repeat' (first | (with_reducible exact Below.refl _ _) | (with_reducible refine Below.setCell ?_ ?_ _) | (with_reducible refine Below.alloc ?_ ?_ _) | (with_reducible refine Below.drew ?_) | (with_reducible refine below_drewN ?_ _))) <;> (first | omega | (simp <;> omega))))) hg7.size
      replace HK := Lib.hid ((HK.out.below (by (repeat' (first | (with_reducible exact Below.refl _ _) | (with_reducible refine Below.setCell ?_ ?_ _) | (with_reducible refine Below.alloc ?_ ?_ _) | (with_reducible refine Below.drew ?_) | (with_reducible refine below_drewN ?_ _))) <;> (first | omega | (simp <;> omega)))).tap hg7 (by omega))
      replace HRS := Lib.hid ((HRS.out.below (by (repeat' (first | (with_reducible exact Below.refl _ _) | (with_reducible refine Below.setCell ?_ ?_ _) | (with_reducible refine Below.alloc ?_ ?_ _) | (with_reducible refine Below.drew ?_) | (with_reducible refine below_drewN ?_ _))) <;> (first | omega | (simp <;> omega)))).tap hg7 (by omega))
      replace HT := Lib.hid ht7
      clear ht7 hg7
      have wa : IntKind.i64.wrap (tr - ua) = tr - ua := IntWalk.i64_in _ (by omega)
      have wb : IntKind.i64.wrap (tr + ub) = tr + ub := IntWalk.i64_in _ (by omega)
      have w2h : IntKind.i64.wrap (tr + 200) = tr + 200 := IntWalk.i64_in _ (by omega)
      have w3h : IntKind.i64.wrap (tr + 300) = tr + 300 := IntWalk.i64_in _ (by omega)
      obtain ⟨g12, hg12⟩ : ∃ g, w7.heap.size = g := ⟨_, rfl⟩
      have g12b : b < g12 := by omega
      go_upto_if 69 with fail
      (try rw [hg12])
      go_cut [] (fun wx => (∃ x0 x1, Blk wx g12 29 #[.int .i64 x0, .int .i64 x1] ∧ -100 ≤ x0 ∧ x0 ≤ x1 ∧ x1 ≤ 2000 ∧ (¬ (q : Int) < (bad : Int) → x0 ≤ tr ∧ tr ≤ x1)) ∧ Below w7.heap.size w7 wx)
      case first =>
        have hbk : Blk (w7.alloc (.cells #[.int .i64 (tr - ua), .int .i64 (tr + ub)] 29)) g12 29 #[.int .i64 (tr - ua), .int .i64 (tr + ub)] := by rw [← hg12]; exact Blk.new _ _ _
        by_cases hqb : (q : Int) < (bad : Int)
        · have gqb : decide ((q : Int) < (bad : Int)) = true := decide_eq_true hqb
          have gqb2 : decide (q < bad) = true := decide_eq_true (by omega)
          obtain ⟨c17, f17, l17, e17, k17⟩ := Blk.facts hbk
          go_wp2_with fail
          go_meet
          exact ⟨⟨tr + 200, tr + 300, (by first | exact Blk.new _ _ _ | exact hg12 ▸ Blk.new _ _ _ | exact setAll_blk [.int .i64 (tr + 200), .int .i64 (tr + 300)] 0 _ #[.int .i64 (tr - ua), .int .i64 (tr + ub)] hbk), by omega, by omega, by omega, fun h => by omega⟩, (by (repeat' (first | (with_reducible exact Below.refl _ _) | (with_reducible refine Below.setCell ?_ ?_ _) | (with_reducible refine Below.alloc ?_ ?_ _) | (with_reducible refine Below.drew ?_) | (with_reducible refine below_drewN ?_ _))) <;> (first | omega | (simp <;> omega)))⟩
        · have gqb : decide ((q : Int) < (bad : Int)) = false := decide_eq_false hqb
          have gqb2 : decide (q < bad) = false := decide_eq_false (by omega)
          go_wp2_with fail
          go_meet
          exact ⟨⟨tr - ua, tr + ub, hbk, by omega, by omega, by omega, fun _ => by omega⟩, (by (repeat' (first | (with_reducible exact Below.refl _ _) | (with_reducible refine Below.setCell ?_ ?_ _) | (with_reducible refine Below.alloc ?_ ?_ _) | (with_reducible refine Below.drew ?_) | (with_reducible refine below_drewN ?_ _))) <;> (first | omega | (simp <;> omega)))⟩
      case rest =>
        obtain ⟨⟨x0, x1, bx, x00, x01, x02, hhon⟩, hgx⟩ := hcut
        have ZX := hgx.size
        clear wa wb w2h w3h ua0 ua1 ub0 ub1
        replace HK := Lib.hid (HK.out.below hgx)
        replace HT := Lib.hid (HT.out.below hgx)
        replace HRS := Lib.hid (HRS.out.below hgx)
        clear hgx
        obtain ⟨w19, rfl⟩ : ∃ x : World, x = wc := ⟨_, rfl⟩
        have cx := bx.cell
        have lx := bx.lt
        have HNX := Lib.hid (HSB.out.snoc ⟨x00, x01, x02⟩ (by rw [HSL.out]; exact hhon)); clear hhon
        have hy1 := RowS.lt HRS.out
        obtain ⟨i0, hif, hz0, hz1, hz2⟩ := info_parts infoSpan
        generalize hX1 : v1.ownBlock = X1 at *
        have HX1 := Lib.hid hX1; clear hX1
        go_wp2_with (at_builtin; refine wpList_append_lies _ rfl _ _ 27 rfl (w.heap.size + 1) 29 i0 (.agg #[.int .i64 0, .int .i64 0]) 2 16 Tryz.underlying27 hif hz0 hz1 hz2 rfl (by decide) v1 q (cellsS ss) rfl (by have h := RowS.below HRS.out (show Below w19.heap.size w19 (w19.alloc (.cells #[.int .i64 x0, .int .i64 x1] 29)) from (Below.refl _ _).alloc (Nat.le_refl _) _); unfold RowS at h; rw [HSL.out] at h; exact h) ⟨w19.heap.size, 0, none⟩ 1 1 [.int .i64 x0, .int .i64 x1] rfl rfl (World.news_of_block (t := 29) (fr := (0, 0)) (Blk.new _ _ _)) ?c2 (by decide) ?c3 ?c4 ?c5 _ rfl ?_)
        case c2 => intro u hu; simp at hu; rcases hu with rfl | rfl <;> rfl
        case c3 => unfold maxLen; omega
        case c4 => omega
        case c5 => first | omega | (simp <;> omega)
        intro g7 cp7 w7 hown hgrow hlie hglt
        rw [HX1.out] at hgrow
        have Z7 : w19.heap.size < w7.heap.size := Nat.lt_of_lt_of_le (by simp) hgrow.size
        have K7 : Below w.heap.size w w7 := (show Below w.heap.size w _ from HK.out.below (by (repeat' (first | (with_reducible exact Below.refl _ _) | (with_reducible refine Below.setCell ?_ ?_ _) | (with_reducible refine Below.alloc ?_ ?_ _) | (with_reducible refine Below.drew ?_) | (with_reducible refine below_drewN ?_ _))) <;> (first | omega | (simp <;> omega)))).grown hgrow (by first | omega | (simp <;> omega)) (fun k hk => by have := hy1 k hk; omega)
        have T7 : TapeAt w7 b := (HT.out.below (by (repeat' (first | (with_reducible exact Below.refl _ _) | (with_reducible refine Below.setCell ?_ ?_ _) | (with_reducible refine Below.alloc ?_ ?_ _) | (with_reducible refine Below.drew ?_) | (with_reducible refine below_drewN ?_ _))) <;> (first | omega | (simp <;> omega)))).kept (fun kk hk => hgrow.block kk (by have := HT.out.lt; first | omega | (simp <;> omega)) (fun e => by have := hy1 kk e.symm; omega))
        have R7 : RowS w7 (w.heap.size + 1) (.slice (some ⟨g7, 0, none⟩) (q + 1) cp7) (ss ++ [(x0, x1)]) := by
          unfold RowS
          rw [List.length_append, List.length_singleton, HSL.out, cellsS_snoc]; exact hown
        have H7 := Lib.hid (And.intro K7 (And.intro T7 R7))
        clear hown hgrow hlie hglt K7 T7 R7 HRS HT HK cx lx bx
        go_wp2
        go_roundg (n - (q + 1))
        case measure => omega
        case rel => exact ⟨q + 1, ss ++ [(x0, x1)], _, _, by omega, by omega, by go_num, by simp [HSL.out], rfl, H7.out.2.2, HNX.out, H7.out.2.1, H7.out.1⟩
    · obtain rfl : q = n := by omega
      have gq : decide ((q : Int) < (q : Int)) = false := decide_eq_false (by omega)
      have hss : SpansAt wr A1 ss.length ss := spans_of_row (cap := c1) (by rw [HSL.out]; exact HRS.out) (by rw [HSL.out]; omega)
      rw [HSL.out] at hss
      have HS := Lib.hid hss; clear hss HRS HT
      have hkq : kk ≤ q := by omega
      obtain ⟨o1, ho1⟩ : ∃ o, (riskN q bad kk f).1 = o := ⟨_, rfl⟩
      obtain ⟨o2, ho2⟩ : ∃ o, (riskN q bad kk f).2.1 = o := ⟨_, rfl⟩
      obtain ⟨o3, ho3⟩ : ∃ o, (riskN q bad kk f).2.2 = o := ⟨_, rfl⟩
      have RK := Lib.hid (fun W => risk_any q bad kk f W)
      simp only [ho1, ho2, ho3] at RK
      have HRT := Lib.hid (fun (lies : Nat) (h1 : lies ≤ kk) (h2 : lies ≤ bad) (h3 : kk - lies ≤ q - bad) => risk_top q bad kk f lies (by omega) hbn hk35 hkq h1 h2 h3)
      simp only [ho1, ho2, ho3] at HRT
      clear ho1 ho2 ho3
      have hsl : (randS v).length = 32 := shaS_len _
      have hE := drE_ok hsl (show 1 ≤ q by omega) (show q ≤ 4096 by omega) (show kk ≤ q by omega) (show kk ≤ 32 by omega)
      have hdll := drL_len hsl (show 1 ≤ q by omega) (show q ≤ 4096 by omega) (show kk ≤ q by omega) (show kk ≤ 32 by omega)
      have hrng := drL_rng hsl (show 1 ≤ q by omega) (show q ≤ 4096 by omega) (show kk ≤ q by omega) (show kk ≤ 32 by omega)
      have hinj := drL_inj hsl (show 1 ≤ q by omega) (show q ≤ 4096 by omega) (show kk ≤ q by omega) (show kk ≤ 32 by omega)
      obtain ⟨dl, hdl⟩ : ∃ dl, drL (randS v) q kk = dl := ⟨_, rfl⟩
      have RD := Lib.hid (fun (g2 c8 : Nat) W h => hE ▸ hdl ▸ odraw_any (some ⟨g2, 0, none⟩) 32 c8 (randS v) q kk (by omega) (by omega) W h)
      rw [hdl] at hdll hrng hinj
      have HDL := Lib.hid hdl; have HE := Lib.hid hE; have HDLL := Lib.hid hdll; have HRNG := Lib.hid hrng; have HINJ := Lib.hid hinj
      clear hdl hE hdll hrng hinj hsl
      go_wp2_with fail
      refine (RK.out _).mono ?_
      rintro e w41 ⟨rfl, hb41⟩
      have S41 : Below wr.heap.size wr w41 := kept_call hb41 (by (repeat' (first | (with_reducible exact Below.refl _ _) | (with_reducible refine Below.setCell ?_ ?_ _) | (with_reducible refine Below.alloc ?_ ?_ _) | (with_reducible refine Below.drew ?_) | (with_reducible refine below_drewN ?_ _))) <;> (first | omega | (simp <;> omega)))
      have Z41 := S41.size
      replace HK := Lib.hid (HK.out.below S41)
      replace HS := Lib.hid (HS.out.below S41)
      clear hb41 S41
      go_wp2_with fail
      refine (random_any v _).mono ?_
      rintro e w42 ⟨g1, c9, rfl, hc9, hg1, hl1, hat1, hb42⟩
      have S42 : Below w41.heap.size w41 w42 := kept_call hb42 (by (repeat' (first | (with_reducible exact Below.refl _ _) | (with_reducible refine Below.setCell ?_ ?_ _) | (with_reducible refine Below.alloc ?_ ?_ _) | (with_reducible refine Below.drew ?_) | (with_reducible refine below_drewN ?_ _))) <;> (first | omega | (simp <;> omega)))
      have Z42 := S42.size
      have HSA := Lib.hid (rand_bys hat1)
      replace HK := Lib.hid (HK.out.below S42)
      replace HS := Lib.hid (HS.out.below S42)
      clear hb42 S42
      clear hat1 hg1 hl1
      go_wp2_with fail
      refine (iest_any A1 q c1 ss (some ⟨g1, 0, none⟩) 32 c9 (randS v) kk f (by rw [HSL.out]; omega) (by omega) _ (HS.out.below (by (repeat' (first | (with_reducible exact Below.refl _ _) | (with_reducible refine Below.setCell ?_ ?_ _) | (with_reducible refine Below.alloc ?_ ?_ _) | (with_reducible refine Below.drew ?_) | (with_reducible refine below_drewN ?_ _))) <;> (first | omega | (simp <;> omega)))) (HSA.out.below (by (repeat' (first | (with_reducible exact Below.refl _ _) | (with_reducible refine Below.setCell ?_ ?_ _) | (with_reducible refine Below.alloc ?_ ?_ _) | (with_reducible refine Below.drew ?_) | (with_reducible refine below_drewN ?_ _))) <;> (first | omega | (simp <;> omega))))).mono ?_
      rintro e w43 ⟨x, y, er, ns, A3, c3, rfl, hex, hn3, hb43⟩
      have S43 : Below w42.heap.size w42 w43 := kept_call hb43 (by (repeat' (first | (with_reducible exact Below.refl _ _) | (with_reducible refine Below.setCell ?_ ?_ _) | (with_reducible refine Below.alloc ?_ ?_ _) | (with_reducible refine Below.drew ?_) | (with_reducible refine below_drewN ?_ _))) <;> (first | omega | (simp <;> omega)))
      have Z43 := S43.size
      replace HK := Lib.hid (HK.out.below S43)
      replace HS := Lib.hid (HS.out.below S43)
      replace HSA := Lib.hid (HSA.out.below S43)
      clear hb43 S43
      have HEX := Lib.hid hex; clear hex hn3
      go_wp2_with fail
      refine (random_any v _).mono ?_
      rintro e w44 ⟨g2, c8, rfl, hc8, hg2, hl2, hat2, hb44⟩
      have S44 : Below w43.heap.size w43 w44 := kept_call hb44 (by (repeat' (first | (with_reducible exact Below.refl _ _) | (with_reducible refine Below.setCell ?_ ?_ _) | (with_reducible refine Below.alloc ?_ ?_ _) | (with_reducible refine Below.drew ?_) | (with_reducible refine below_drewN ?_ _))) <;> (first | omega | (simp <;> omega)))
      have Z44 := S44.size
      have HSC := Lib.hid (rand_bys hat2)
      have HBA := Lib.hid (show Blk w44 w43.heap.size 29 #[.int .i64 x, .int .i64 y] from Blk.below (by first | exact Blk.new _ _ _ | exact setAll_blk [.int .i64 x, .int .i64 y] 0 _ #[.int .i64 0, .int .i64 0] (Blk.new _ _ _)) hb44)
      replace HK := Lib.hid (HK.out.below S44)
      replace HS := Lib.hid (HS.out.below S44)
      replace HSA := Lib.hid (HSA.out.below S44)
      clear hb44 S44
      clear hat2 hg2 hl2
      go_wp2_with fail
      refine (RD.out g2 c8 _ (HSC.out.below (by (repeat' (first | (with_reducible exact Below.refl _ _) | (with_reducible refine Below.setCell ?_ ?_ _) | (with_reducible refine Below.alloc ?_ ?_ _) | (with_reducible refine Below.drew ?_) | (with_reducible refine below_drewN ?_ _))) <;> (first | omega | (simp <;> omega))))).mono ?_
      rintro e w45 ⟨A4, c4, rfl, hc4, hA4, hn4, hb45⟩
      have S45 : Below w44.heap.size w44 w45 := kept_call hb45 (by (repeat' (first | (with_reducible exact Below.refl _ _) | (with_reducible refine Below.setCell ?_ ?_ _) | (with_reducible refine Below.alloc ?_ ?_ _) | (with_reducible refine Below.drew ?_) | (with_reducible refine below_drewN ?_ _))) <;> (first | omega | (simp <;> omega)))
      have Z45 := S45.size
      have HN2 := Lib.hid (hn4)
      replace HK := Lib.hid (HK.out.below S45)
      replace HS := Lib.hid (HS.out.below S45)
      replace HSA := Lib.hid (HSA.out.below S45)
      replace HSC := Lib.hid (HSC.out.below S45)
      replace HBA := Lib.hid (HBA.out.below S45)
      clear hb45 S45
      clear hn4 hA4 hc4
      rw [HDLL.out]
      obtain ⟨ga, hga⟩ : ∃ g, w43.heap.size = g := ⟨_, rfl⟩
      rw [hga] at HBA ⊢
      clear hga
      go_wp2
      obtain ⟨w20, rfl⟩ : ∃ x : World, x = w45 := ⟨_, rfl⟩
      go_loopg [21, 22, 25] kk (fun G v21 v22 i wr => LiRel w20 kk ss dl bad v21 v22 i G wr)
      case atStart => exact ⟨0, 0, none, 0, by omega, by omega, rfl, rfl, rfl, rfl, RowS.nil, Below.refl _ _⟩
      case round =>
        obtain ⟨p, m, A, c, hp, rfl, rfl, rfl, hm, rfl, hrow, KR⟩ := hrel
        have ZR := KR.size
        have hrl := RowS.lt hrow
        have HROW := Lib.hid hrow; have HKR := Lib.hid KR; have HM := Lib.hid hm
        have hly := ly_ho (dl.take p) bad
        rw [List.length_take, HDLL.out, Nat.min_eq_left hp] at hly
        clear hm
        by_cases hlt : p < kk
        · have gp : decide ((p : Int) < (kk : Int)) = true := decide_eq_true (by omega)
          have gpn : decide (p < kk) = true := decide_eq_true hlt
          have wp : IntKind.i64.wrap ((p : Int) + 1) = ((p + 1 : Nat) : Int) := by rw [IntWalk.i64_in _ (by omega)]; omega
          obtain ⟨g4, o4, rfl, lg4, hc4⟩ := HN2.out (by rw [HDLL.out]; omega)
          have e4 := hc4 p (by rw [HDLL.out]; omega)
          obtain ⟨hr0, hr1⟩ := HRNG.out p hlt
          have htk : dl.take (p + 1) = dl.take p ++ [dl.getD p 0] := by
            rw [List.take_add_one, List.getElem?_eq_getElem (by rw [HDLL.out]; exact hlt), List.getD_eq_getElem?_getD, List.getElem?_eq_getElem (by rw [HDLL.out]; exact hlt)]; rfl
          obtain ⟨d, hd⟩ : ∃ d : Nat, dl.getD p 0 = (d : Int) := ⟨(dl.getD p 0).toNat, by omega⟩
          rw [hd] at e4 hr1 htk
          have hst1 := ly_snoc (dl.take p) bad d
          have hst2 := ho_snoc (dl.take p) bad d
          rw [← htk] at hst1 hst2
          obtain ⟨ly, hly1⟩ : ∃ ly, lyS (dl.take p) bad = ly := ⟨_, rfl⟩
          obtain ⟨ho, hho⟩ : ∃ ho, hoS (dl.take p) bad = ho := ⟨_, rfl⟩
          have hm := HM.out; have hrow := HROW.out
          rw [hho] at hst2 hm hrow hly
          rw [hly1] at hst1 hly ⊢
          have HST1 := Lib.hid hst1; have HST2 := Lib.hid hst2
          have HROW := Lib.hid hrow; have HM := Lib.hid hm
          have hdq : d < q := by omega
          have gd : decide ((d : Int) < (q : Int)) = true := decide_eq_true (by omega)
          have gdn : decide (d < q) = true := decide_eq_true hdq
          obtain ⟨bl, off, rfl, lbl, hcs⟩ := HS.out.2.2 (by omega)
          obtain ⟨e0, e1⟩ := hcs d hdq
          have wl : IntKind.i64.wrap ((ly : Int) + 1) = ((ly + 1 : Nat) : Int) := by rw [IntWalk.i64_in _ (by omega)]; omega
          obtain ⟨z, hz⟩ : ∃ z, ss.getD d (0, 0) = z := ⟨_, rfl⟩
          rw [hz] at e0 e1
          obtain ⟨zl, zh⟩ := z
          dsimp only at e0 e1
          have x1 := Nat.lt_of_lt_of_le lbl ZR; have x2 := Nat.lt_of_lt_of_le lg4 ZR
          have y0 := cell_below KR e0; have y1 := cell_below KR e1; have y4 := cell_below KR e4
          have HZ := Lib.hid hz
          clear hc4 hcs e0 e1 e4 hr0 hr1 htk hst1 hst2 hd hly1 hho hm hrow KR hz
          by_cases hdb : (d : Int) < (bad : Int)
          · have gdb : decide ((d : Int) < (bad : Int)) = true := decide_eq_true hdb
            have gdb2 : decide (d < bad) = true := decide_eq_true (by omega)
            go_wp2
            go_roundg (kk - (p + 1))
            case measure => omega
            case rel => exact ⟨p + 1, m, A, c, by omega, by omega, by go_num, by rw [HST1.out, if_pos (by omega)] <;> rfl, by rw [HST2.out, if_pos (by omega)]; exact HM.out, rfl, by rw [HST2.out, if_pos (by omega)]; exact HROW.out, HKR.out⟩
          · have gdb : decide ((d : Int) < (bad : Int)) = false := decide_eq_false hdb
            have gdb2 : decide (d < bad) = false := decide_eq_false (by omega)
            obtain ⟨i0, hif, hz0, hz1, hz2⟩ := info_parts infoSpan
            have hll := chS_len ss ho
            obtain ⟨zq, hzq⟩ : ∃ zq, chS ss ho = zq := ⟨_, rfl⟩
            have hrow := HROW.out
            rw [hzq] at hrow hll
            have hnx : chS ss (ho ++ [(d : Int)]) = zq ++ [(zl, zh)] := by
              unfold chS at hzq ⊢; rw [List.map_append, hzq, List.map_cons, List.map_nil, Int.toNat_natCast, HZ.out]
            have HLL := Lib.hid (hll.trans HM.out.symm); have HRW := Lib.hid hrow; have HNX := Lib.hid hnx
            generalize hv : (Value.slice A m c) = v9 at *
            have hrl := RowS.lt hrow
            have HV := Lib.hid hv
            clear hv hll hrow hnx hzq HROW
            go_wp2_with (at_builtin; refine wpList_append_lies _ rfl _ _ 27 rfl w20.heap.size 29 i0 (.agg #[.int .i64 0, .int .i64 0]) 2 16 Tryz.underlying27 hif hz0 hz1 hz2 rfl (by decide) v9 m (cellsS zq) rfl (by have h := RowS.below HRW.out (show Below wr.heap.size wr (wr.alloc (.cells #[.int .i64 zl, .int .i64 zh] 29)) from (Below.refl _ _).alloc (Nat.le_refl _) _); unfold RowS at h; rw [HLL.out] at h; exact h) ⟨wr.heap.size, 0, none⟩ 1 1 [.int .i64 zl, .int .i64 zh] rfl rfl (World.news_of_block (t := 29) (fr := (0, 0)) (Blk.new _ _ _)) ?c2 (by decide) ?c3 ?c4 ?c5 _ rfl ?_)
            case c2 => first | (intro u hu; simp at hu; rcases hu with rfl | rfl <;> rfl) | exact ⟨rfl, rfl⟩
            case c3 => (have hm9 := HM.out; unfold maxLen; omega)
            case c4 => (have hm9 := HM.out; omega)
            case c5 => first | omega | (simp <;> omega)
            intro g7 cp7 w7 hown hgrow hlie hglt
            have K7 : Below w20.heap.size w20 w7 := (HKR.out.alloc (by omega) _).grown hgrow (by simp; omega) (fun k hk => (hrl k hk).1)
            have R7 : RowS w7 w20.heap.size (.slice (some ⟨g7, 0, none⟩) (m + 1) cp7) (zq ++ [(zl, zh)]) := by
              unfold RowS
              rw [List.length_append, List.length_singleton, HLL.out, cellsS_snoc]; exact hown
            have H7 := Lib.hid (And.intro K7 R7)
            clear hown hgrow hlie hglt K7 R7
            go_wp2
            go_roundg (kk - (p + 1))
            case measure => omega
            case rel => exact ⟨p + 1, m + 1, _, _, by omega, by omega, by go_num, by rw [HST1.out, if_neg (by omega)], by rw [HST2.out, if_neg (by omega), List.length_append, List.length_singleton, ← HM.out], rfl, by rw [HST2.out, if_neg (by omega), HNX.out]; exact H7.out.2, H7.out.1⟩
        · obtain rfl : p = kk := by omega
          have gp : decide ((p : Int) < (p : Int)) = false := decide_eq_false (by omega)
          have htk : dl.take p = dl := List.take_of_length_le (by rw [HDLL.out]; exact Nat.le_refl _)
          rw [htk] at hly ⊢
          have hm := HM.out; have hrow := HROW.out
          rw [htk] at hm hrow
          have hsi := sample_in hbn (fun j hj => HRNG.out j (by rw [HDLL.out] at hj; exact hj)) (fun i j hi hj => HINJ.out i j (by rw [HDLL.out] at hi; exact hi) (by rw [HDLL.out] at hj; exact hj))
          have hhul := sample_hull (ss := ss) (bad := (bad : Int)) (t := tr) (fun i hi hb => by have h := HSB.out i hi; exact ⟨⟨by omega, by omega⟩, h.2.2.2 hb⟩) dl (fun j hj => by rw [HSL.out]; exact HRNG.out j (by rw [HDLL.out] at hj; exact hj)) dl.length (Nat.le_refl _)
          rw [List.take_length] at hhul
          rw [HDLL.out] at hsi
          obtain ⟨ly, hly1⟩ : ∃ ly, lyS dl bad = ly := ⟨_, rfl⟩
          obtain ⟨ho, hho⟩ : ∃ ho, hoS dl bad = ho := ⟨_, rfl⟩
          have hhm : ∀ i ∈ ho, 0 ≤ i ∧ i < q ∧ ¬ i < bad := fun i hi => by
            rw [← hho] at hi
            obtain ⟨h1, h2⟩ := List.mem_filter.1 hi
            obtain ⟨j, hj, rfl⟩ := List.getElem_of_mem h1
            have h3 := HRNG.out j (by rw [HDLL.out] at hj; exact hj)
            rw [List.getD_eq_getElem?_getD, List.getElem?_eq_getElem hj] at h3
            exact ⟨h3.1, h3.2, by simpa using h2⟩
          rw [hly1] at hsi hhul hly ⊢
          rw [hho] at hm hrow hly hhul
          obtain ⟨r1, r2, r3, r4⟩ := HRT.out ly (by omega) hsi.1 hsi.2
          obtain rfl := r1
          have HHUL := Lib.hid hhul; have HHM := Lib.hid hhm; have HRW := Lib.hid hrow; have HMM := Lib.hid hm; have HSI := Lib.hid hsi
          clear hrl HROW HM htk hm hrow hsi hhul hly1 hho hhm KR
          have go12 : decide (o2 < o1) = false := decide_eq_false (by omega)
          obtain ⟨w25, rfl⟩ : ∃ x : World, x = wr := ⟨_, rfl⟩
          replace HK := Lib.hid (HK.out.below HKR.out)
          replace HS := Lib.hid (HS.out.below HKR.out)
          replace HSA := Lib.hid (HSA.out.below HKR.out)
          replace HSC := Lib.hid (HSC.out.below HKR.out)
          replace HBA := Lib.hid (HBA.out.below HKR.out)
          replace HN2 := Lib.hid (HN2.out.below HKR.out)
          by_cases hfl : f < ly
          · have g1 : decide ((f : Int) < (ly : Int)) = true := decide_eq_true (by omega)
            have g1n : decide (f < ly) = true := decide_eq_true hfl
            have g2 : decide ((ly : Int) ≤ (f : Int)) = false := decide_eq_false (by omega)
            have g2n : decide (ly ≤ f) = false := decide_eq_false (by omega)
            have g3 : decide (o1 = 0) = false := decide_eq_false (r3 hfl)
            have g3b : (o1 == 0) = false := by rw [beq_eq_false_iff_ne]; exact r3 hfl
            go_wp2_with fail
            refine (awake_any _).mono ?_
            rintro e w61 ⟨rfl, hb61⟩
            have S61 : Below w25.heap.size w25 w61 := kept_call hb61 (by (repeat' (first | (with_reducible exact Below.refl _ _) | (with_reducible refine Below.setCell ?_ ?_ _) | (with_reducible refine Below.alloc ?_ ?_ _) | (with_reducible refine Below.drew ?_) | (with_reducible refine below_drewN ?_ _))) <;> (first | omega | (simp <;> omega)))
            have Z61 := S61.size
            replace HK := Lib.hid (HK.out.below S61)
            replace HS := Lib.hid (HS.out.below S61)
            replace HSA := Lib.hid (HSA.out.below S61)
            replace HSC := Lib.hid (HSC.out.below S61)
            replace HBA := Lib.hid (HBA.out.below S61)
            replace HN2 := Lib.hid (HN2.out.below S61)
            clear hb61 S61
            go_wp2
            go_ret
            exact ⟨rfl, HK.out.below (by (repeat' (first | (with_reducible exact Below.refl _ _) | (with_reducible refine Below.setCell ?_ ?_ _) | (with_reducible refine Below.alloc ?_ ?_ _) | (with_reducible refine Below.drew ?_) | (with_reducible refine below_drewN ?_ _))) <;> (first | omega | (simp <;> omega)))⟩
          · have g1 : decide ((f : Int) < (ly : Int)) = false := decide_eq_false (by omega)
            have g1n : decide (f < ly) = false := decide_eq_false hfl
            have g2 : decide ((ly : Int) ≤ (f : Int)) = true := decide_eq_true (by omega)
            have g2n : decide (ly ≤ f) = true := decide_eq_true (by omega)
            have g3 : decide (o1 = o2) = false := decide_eq_false (r4 (by omega))
            have g3b : (o1 == o2) = false := by rw [beq_eq_false_iff_ne]; exact r4 (by omega)
            clear r3 r4
            obtain ⟨hz, hhz⟩ : ∃ zs, chS ss ho = zs := ⟨_, rfl⟩
            have hzl : hz.length = m := by rw [← hhz, chS_len]; exact HMM.out.symm
            have hrow := HRW.out
            rw [hhz] at hrow
            have m0 : 0 < m := by have := HMM.out; omega
            have m9 : m ≤ 9 := by have := HMM.out; omega
            have hsp : SpansAt w25 A hz.length hz := spans_of_row (cap := c) (by rw [hzl]; exact hrow) (by omega)
            rw [hzl] at hsp
            have hckh : ckE hz = 0 := by rw [← hhz]; exact HSB.out.ck ho (by have := HMM.out; omega) (fun i hi => by have := HHM.out i hi; rw [HSL.out]; exact ⟨this.1, this.2.1⟩)
            have hall : ∀ z ∈ hz, vS z.1 z.2 = true ∧ z.1 ≤ tr ∧ tr ≤ z.2 := fun z hz9 => by
              rw [← hhz] at hz9
              unfold chS at hz9
              obtain ⟨i, hi, rfl⟩ := List.mem_map.1 hz9
              have h1 := HHM.out i hi
              have h2 := HSB.out i.toNat (by rw [HSL.out]; omega)
              have h3 := h2.2.2.2 (by omega)
              exact ⟨vS_true.2 (by omega), h3.1, h3.2⟩
            have hcnt := cnt_all tr hz hall
            have hax : ∀ x3 y3 e3, AX hz 0 x3 y3 e3 → e3 = 0 ∧ x3 ≤ tr ∧ tr ≤ y3 ∧ vS x3 y3 = true := fun x3 y3 e3 h => AX_truth (t := tr) h (by unfold qE; rw [if_neg (by rw [hckh]; simp), if_neg (by omega)]) (by rw [hcnt]; omega)
            have hE0 : drE (randS v).length (ss.length : Int) (p : Int) = 0 := by rw [HSL.out]; exact HE.out
            have hD0 : drL (randS v) (ss.length : Int) (p : Int) = dl := by rw [HSL.out]; exact HDL.out
            have hckd : ckE (chS ss dl) = 0 := HSB.out.ck dl (by rw [HDLL.out]; omega) (fun i hi => by
              obtain ⟨j, hj, rfl⟩ := List.getElem_of_mem hi
              have h3 := HRNG.out j (by rw [HDLL.out] at hj; exact hj)
              rw [List.getD_eq_getElem?_getD, List.getElem?_eq_getElem hj] at h3
              rw [HSL.out]; exact h3)
            have hfin : er = 0 ∧ ns = dl ∧ x ≤ tr ∧ tr ≤ y ∧ (hullF hz).2.1 ≤ x ∧ y ≤ (hullF hz).2.2 ∧ vS x y = true ∧ vS (hullF hz).2.1 (hullF hz).2.2 = true := by
              have hX := HEX.out
              have hJ := HHUL.out
              rw [hhz] at hJ
              unfold EstX at hX
              rw [hE0, hD0] at hX
              rcases hX with ⟨h, -⟩ | ⟨-, x', y', e', hA, h⟩
              · exact absurd rfl h
              · obtain ⟨r1, r2, r3, r4, r5, r6, r7⟩ := hJ.law (by omega) (by rw [chS_len, HDLL.out]; exact hfk) hckd hA
                have hb := hJ.2.2.2.2 r4
                rcases h with ⟨h, -⟩ | ⟨-, rfl, rfl, rfl, rfl⟩
                · exact absurd r1 h
                · exact ⟨rfl, rfl, r2, r3, r5, r6, r7, vS_true.2 (by omega)⟩
            obtain ⟨rfl, rfl, q1, q2, q3, q4, q5, q6⟩ := hfin
            obtain ⟨hl, hhl⟩ : ∃ a, (hullF hz).2.1 = a := ⟨_, rfl⟩
            obtain ⟨hh, hhh⟩ : ∃ a, (hullF hz).2.2 = a := ⟨_, rfl⟩
            rw [hhl] at q3 q6; rw [hhh] at q4 q6
            have RHL := Lib.hid (fun W (h : SpansAt W A m hz) => hhl ▸ hhh ▸ (show Calls _ _ _ _ (RB W _) from hzl ▸ hull_any A c hz (by omega) (by omega) W (by rw [hzl]; exact h)))
            have RIN := Lib.hid (fun (W : World) => (show insB x y hl hh = true by simp [insB, q5, q6, q3, q4]) ▸ iinside_all x y hl hh W)
            have vkn : vS (tr - 1000) (tr + 1000) = true := vS_true.2 (by omega)
            have hk0 : kE 0 (tr - 1000) (tr + 1000) 0 0 0 = 0 := by unfold kE; rw [if_neg (by rw [vkn]; simp), if_pos ⟨by decide, by decide, by decide, by decide, by decide⟩]
            have RBG := Lib.hid (fun (W : World) => begV_ok hk0 ▸ ibegin_any 0 (tr - 1000) (tr + 1000) 0 W)
            have hnow : nowT 0 (tr - 1000) (tr + 1000) 0 0 0 0 = (tr - 1000, tr + 1000, 0) := by
              rw [nowT_ok hk0 (by decide) (by decide)]
              unfold opT
              rw [vkn, show inD ((0 : Int) - 0) 0 = true by decide, (el_none (d := (0 : Int) - 0)).1, (el_none (d := (0 : Int) - 0)).2, show tr - 1000 + ((0 : Int) - 0) = tr - 1000 by omega, show tr + 1000 + ((0 : Int) - 0) = tr + 1000 by omega, vkn]; rfl
            have hln := lrn_yes (ppb := 0) (le := 0) (re := 0) hnow q5 (show mtB (tr - 1000) (tr + 1000) x y = true by simp [mtB, vkn, q5]; omega)
            obtain ⟨xl, hxl⟩ : ∃ a, max (tr - 1000) x = a := ⟨_, rfl⟩
            obtain ⟨yh, hyh⟩ : ∃ a, min (tr + 1000) y = a := ⟨_, rfl⟩
            rw [hxl, hyh] at hln
            have RLN := Lib.hid (fun (W : World) => hln ▸ ilearn_any 0 (tr - 1000) (tr + 1000) 0 0 0 0 x y W)
            have hy1 : xl ≤ tr ∧ tr ≤ yh ∧ -1000000 ≤ xl ∧ yh ≤ 1000000 := by omega
            have RHY := Lib.hid (fun (W : World) => (show hdB xl yh tr = true by unfold hdB; rw [vS_true.2 (by omega)]; simp; omega) ▸ iholds_all xl yh tr W)
            have wm1 : IntKind.i64.wrap (tr - 1000) = tr - 1000 := IntWalk.i64_in _ (by omega)
            have wp1 : IntKind.i64.wrap (tr + 1000) = tr + 1000 := IntWalk.i64_in _ (by omega)
            have HAXH := Lib.hid hax; have HO := Lib.hid hsp; have hnl := HDLL.out
            clear hax hsp hrow hcnt hall hckh hckd hE0 hD0 hhl hhh hk0 hnow hln hxl hyh vkn hhz HRW HHUL HHM HRT q3 q4 q5 q6
            go_wp2_with fail
            refine (qAgree_any _ _ _ hz 0 _ (HO.out.below (by (repeat' (first | (with_reducible exact Below.refl _ _) | (with_reducible refine Below.setCell ?_ ?_ _) | (with_reducible refine Below.alloc ?_ ?_ _) | (with_reducible refine Below.drew ?_) | (with_reducible refine below_drewN ?_ _))) <;> (first | omega | (simp <;> omega))))).mono ?_
            rintro e w61 ⟨x3, y3, e3, rfl, hax3, hb61⟩
            have S61 : Below w25.heap.size w25 w61 := kept_call hb61 (by (repeat' (first | (with_reducible exact Below.refl _ _) | (with_reducible refine Below.setCell ?_ ?_ _) | (with_reducible refine Below.alloc ?_ ?_ _) | (with_reducible refine Below.drew ?_) | (with_reducible refine below_drewN ?_ _))) <;> (first | omega | (simp <;> omega)))
            have Z61 := S61.size
            replace HK := Lib.hid (HK.out.below S61)
            replace HBA := Lib.hid (HBA.out.below S61)
            replace HO := Lib.hid (HO.out.below S61)
            clear hb61 S61
            obtain ⟨rfl, a1, a2, a3⟩ := HAXH.out x3 y3 e3 hax3
            clear hax3 HAXH
            have RHX := Lib.hid (fun (W : World) => (show hdB x3 y3 tr = true by simp [hdB, a3, a1, a2]) ▸ iholds_all x3 y3 tr W)
            clear a1 a2 a3
            go_wp2_with fail
            refine (RBG.out _).mono ?_
            rintro e w62 ⟨rfl, hb62⟩
            have S62 : Below w61.heap.size w61 w62 := kept_call hb62 (by (repeat' (first | (with_reducible exact Below.refl _ _) | (with_reducible refine Below.setCell ?_ ?_ _) | (with_reducible refine Below.alloc ?_ ?_ _) | (with_reducible refine Below.drew ?_) | (with_reducible refine below_drewN ?_ _))) <;> (first | omega | (simp <;> omega)))
            have Z62 := S62.size
            have HBX := Lib.hid (show Blk w62 w61.heap.size 29 #[.int .i64 x3, .int .i64 y3] from Blk.below (by first | exact Blk.new _ _ _ | exact setAll_blk [.int .i64 x3, .int .i64 y3] 0 _ #[.int .i64 0, .int .i64 0] (Blk.new _ _ _)) hb62)
            replace HK := Lib.hid (HK.out.below S62)
            replace HBA := Lib.hid (HBA.out.below S62)
            replace HO := Lib.hid (HO.out.below S62)
            clear hb62 S62
            obtain ⟨ca, fa, la, ea, ka⟩ := Blk.facts HBA.out
            go_wp2_with fail
            refine (RLN.out _).mono ?_
            rintro e w63 ⟨rfl, hb63⟩
            have S63 : Below w62.heap.size w62 w63 := kept_call hb63 (by (repeat' (first | (with_reducible exact Below.refl _ _) | (with_reducible refine Below.setCell ?_ ?_ _) | (with_reducible refine Below.alloc ?_ ?_ _) | (with_reducible refine Below.drew ?_) | (with_reducible refine below_drewN ?_ _))) <;> (first | omega | (simp <;> omega)))
            have Z63 := S63.size
            replace HK := Lib.hid (HK.out.below S63)
            replace HBA := Lib.hid (HBA.out.below S63)
            replace HO := Lib.hid (HO.out.below S63)
            replace HBX := Lib.hid (HBX.out.below S63)
            clear hb63 S63
            clear ca fa la ea ka
            have e1m : min ((0 : Int) + 1) 1152921504606846976 = 1 := by decide
            try simp only [e1m, V6, Lrn.V]
            go_upto_region 32 with fail
            try simp only [e1m, V6, Lrn.V]
            go_upto_region 33 with fail
            obtain ⟨w90, ew90⟩ : ∃ w90, w90 = w63.alloc (.cells #[.int .i64 0, .int .i64 xl, .int .i64 yh, .int .i64 0, .int .i64 1, .int .i64 0] 43) := ⟨_, rfl⟩
            have Sw90 : Below w63.heap.size w63 w90 := by rw [ew90]; exact (Below.refl _ _).alloc (Nat.le_refl _) _
            have Zw90 := Sw90.size
            replace HK := Lib.hid (HK.out.below Sw90)
            replace HBA := Lib.hid (HBA.out.below Sw90)
            replace HO := Lib.hid (HO.out.below Sw90)
            replace HBX := Lib.hid (HBX.out.below Sw90)
            clear Sw90
            have HBY := Lib.hid (show Blk w90 w63.heap.size 43 #[.int .i64 0, .int .i64 xl, .int .i64 yh, .int .i64 0, .int .i64 1, .int .i64 0] from by rw [ew90]; exact Blk.new _ _ _)
            rw [← ew90]
            obtain ⟨gy, hgy⟩ : ∃ g, w63.heap.size = g := ⟨_, rfl⟩
            rw [hgy] at HBY ⊢
            clear hgy ew90
            refine' wp_region_calm (by kernel_rfl) (fun _ _ w' => Below w90.heap.size w90 w' ∧ True) (fun _ _ => True) ((Is _) :: (Is _) :: (Is _) :: (Is _) :: (Is _) :: (Is _) :: (Is _) :: (Is _) :: (Is _) :: (Is _) :: (Is _) :: (Is _) :: (Is _) :: (Is _) :: (Is _) :: (Is _) :: (Is _) :: (Is _) :: (Is _) :: (Is _) :: (Is _) :: (Is _) :: (Is _) :: (Is _) :: (Is _) :: (Is _) :: (Is _) :: (Is _) :: (Is _) :: (Is _) :: (Is _) :: (Is _) :: (Is _) :: (Is _) :: (Is _) :: (Is _) :: (Is _) :: (Is _) :: (Is _) :: (Is _) :: (Is _) :: (Is _) :: (Is _) :: (Is _) :: []) ([] :: [0] :: [1] :: [2, 1] :: [1, 3] :: [4] :: [5] :: [6, 5] :: [5] :: [7, 8, 5] :: [5, 9] :: [10] :: [11] :: [12, 11] :: [11, 13] :: [14] :: [15] :: [16, 15] :: [15, 17] :: [18] :: [19] :: [20, 19] :: [19, 21] :: [22] :: [23] :: [23, 24] :: [25] :: [26] :: [27, 26] :: [26] :: [28, 29, 26] :: [26, 30] :: [31] :: [32] :: [32] :: [34, 32] :: [33, 35, 32] :: [32, 36] :: [37] :: [38] :: [38] :: [39, 40, 38] :: [38, 41] :: [42] :: []) [] [] rfl (calmB_of (by kernel_rfl)) (fun u => by (simp only [calmPut, Act.put, List.setIfInBounds_toArray, List.set_cons_zero, List.set_cons_succ, Nat.zero_add, Nat.reduceAdd]; rfl)) ?_ (calmKeep_cons keep_is' (calmKeep_cons keep_is' (calmKeep_cons keep_is' (calmKeep_cons keep_is' (calmKeep_cons keep_is' (calmKeep_cons keep_is' (calmKeep_cons keep_is' (calmKeep_cons keep_is' (calmKeep_cons keep_is' (calmKeep_cons keep_is' (calmKeep_cons keep_is' (calmKeep_cons keep_is' (calmKeep_cons keep_is' (calmKeep_cons keep_is' (calmKeep_cons keep_is' (calmKeep_cons keep_is' (calmKeep_cons keep_is' (calmKeep_cons keep_is' (calmKeep_cons keep_is' (calmKeep_cons keep_is' (calmKeep_cons keep_is' (calmKeep_cons keep_is' (calmKeep_cons keep_is' (calmKeep_cons keep_is' (calmKeep_cons keep_is' (calmKeep_cons keep_is' (calmKeep_cons keep_is' (calmKeep_cons keep_is' (calmKeep_cons keep_is' (calmKeep_cons keep_is' (calmKeep_cons keep_is' (calmKeep_cons keep_is' (calmKeep_cons keep_is' (calmKeep_cons keep_is' (calmKeep_cons keep_is' (calmKeep_cons keep_is' (calmKeep_cons keep_is' (calmKeep_cons keep_is' (calmKeep_cons keep_is' (calmKeep_cons keep_is' (calmKeep_cons keep_is' (calmKeep_cons keep_is' (calmKeep_cons keep_is' (calmKeep_cons keep_is' (calmKeep_nil))))))))))))))))))))))))))))))))))))))))))))) ?_ ?_
            · intro _
              exact ⟨(by first | exact Below.refl _ _ | exact (Below.refl _ _).drew), trivial⟩
            rotate_left 44
            · skip
              refine calmSteps_cons (fun u wq n9 hn hn2 hC hk K hK => ?_) ?_
              · obtain ⟨hP, hTr⟩ := hC
                clear hn hn2
                clear hk
                first
                  | (refine' calm_op ?_ ?_; rfl; go_simp; (first | (with_reducible refine (awake_any _).mono ?_) | (with_reducible refine (RHY.out _).mono ?_) | (with_reducible refine (RHL.out _ (HO.out.below hP)).mono ?_) | (with_reducible refine (RIN.out _).mono ?_) | (with_reducible refine (RHX.out _).mono ?_)); rintro e w2 ⟨rfl, hbl⟩; exact hK _ _ _ rfl ⟨kept_call hbl hP, trivial⟩ trivial rfl)
                  | (go_simp; exact hK _ _ _ rfl ⟨hP, hTr⟩ trivial rfl)
              refine calmSteps_cons (fun u wq n9 hn hn2 hC hk K hK => ?_) ?_
              · obtain ⟨hP, hTr⟩ := hC
                clear hn hn2
                simp only [calmKnown, List.getElem?_cons_zero, List.getElem?_cons_succ, and_true, Is, Gd, Pure, Option.some.injEq, List.getD_cons_zero, List.getD_cons_succ, List.map_cons, List.map_nil] at hk
                have h0 := hk; clear hk
                simp only [h0] at hK ⊢
                have H0 := Lib.hid h0; clear h0
                go_simp
                exact hK _ _ _ rfl ⟨hP, hTr⟩ trivial rfl
              refine calmSteps_cons (fun u wq n9 hn hn2 hC hk K hK => ?_) ?_
              · obtain ⟨hP, hTr⟩ := hC
                clear hn hn2
                simp only [calmKnown, List.getElem?_cons_zero, List.getElem?_cons_succ, and_true, Is, Gd, Pure, Option.some.injEq, List.getD_cons_zero, List.getD_cons_succ, List.map_cons, List.map_nil] at hk
                have h1 := hk; clear hk
                simp only [h1] at hK ⊢
                have H1 := Lib.hid h1; clear h1
                go_simp
                exact hK _ _ _ rfl ⟨hP, hTr⟩ trivial rfl
              refine calmSteps_cons (fun u wq n9 hn hn2 hC hk K hK => ?_) ?_
              · obtain ⟨hP, hTr⟩ := hC
                clear hn hn2
                simp only [calmKnown, List.getElem?_cons_zero, List.getElem?_cons_succ, and_true, Is, Gd, Pure, Option.some.injEq, List.getD_cons_zero, List.getD_cons_succ, List.map_cons, List.map_nil] at hk
                obtain ⟨h2, h1⟩ := hk
                simp only [h2, h1] at hK ⊢
                have H2 := Lib.hid h2; clear h2; have H1 := Lib.hid h1; clear h1
                go_simp
                exact hK _ _ _ rfl ⟨hP, hTr⟩ trivial rfl
              refine calmSteps_cons (fun u wq n9 hn hn2 hC hk K hK => ?_) ?_
              · obtain ⟨hP, hTr⟩ := hC
                clear hn hn2
                simp only [calmKnown, List.getElem?_cons_zero, List.getElem?_cons_succ, and_true, Is, Gd, Pure, Option.some.injEq, List.getD_cons_zero, List.getD_cons_succ, List.map_cons, List.map_nil] at hk
                obtain ⟨h1, h3⟩ := hk
                simp only [h1, h3] at hK ⊢
                have H1 := Lib.hid h1; clear h1; have H3 := Lib.hid h3; clear h3
                go_simp
                exact hK _ _ _ rfl ⟨hP, hTr⟩ trivial rfl
              refine calmSteps_cons (fun u wq n9 hn hn2 hC hk K hK => ?_) ?_
              · obtain ⟨hP, hTr⟩ := hC
                clear hn hn2
                simp only [calmKnown, List.getElem?_cons_zero, List.getElem?_cons_succ, and_true, Is, Gd, Pure, Option.some.injEq, List.getD_cons_zero, List.getD_cons_succ, List.map_cons, List.map_nil] at hk
                have h4 := hk; clear hk
                simp only [h4] at hK ⊢
                have H4 := Lib.hid h4; clear h4
                go_simp
                exact hK _ _ _ rfl ⟨hP, hTr⟩ trivial rfl
              refine calmSteps_cons (fun u wq n9 hn hn2 hC hk K hK => ?_) ?_
              · obtain ⟨hP, hTr⟩ := hC
                clear hn hn2
                simp only [calmKnown, List.getElem?_cons_zero, List.getElem?_cons_succ, and_true, Is, Gd, Pure, Option.some.injEq, List.getD_cons_zero, List.getD_cons_succ, List.map_cons, List.map_nil] at hk
                have h5 := hk; clear hk
                simp only [h5] at hK ⊢
                have H5 := Lib.hid h5; clear h5
                go_simp
                exact hK _ _ _ rfl ⟨hP, hTr⟩ trivial rfl
              refine calmSteps_cons (fun u wq n9 hn hn2 hC hk K hK => ?_) ?_
              · obtain ⟨hP, hTr⟩ := hC
                clear hn hn2
                simp only [calmKnown, List.getElem?_cons_zero, List.getElem?_cons_succ, and_true, Is, Gd, Pure, Option.some.injEq, List.getD_cons_zero, List.getD_cons_succ, List.map_cons, List.map_nil] at hk
                obtain ⟨h6, h5⟩ := hk
                simp only [h6, h5] at hK ⊢
                have H6 := Lib.hid h6; clear h6; have H5 := Lib.hid h5; clear h5
                first
                  | (refine' calm_op ?_ ?_; rfl; go_simp; (first | (with_reducible refine (awake_any _).mono ?_) | (with_reducible refine (RHY.out _).mono ?_) | (with_reducible refine (RHL.out _ (HO.out.below hP)).mono ?_) | (with_reducible refine (RIN.out _).mono ?_) | (with_reducible refine (RHX.out _).mono ?_)); rintro e w2 ⟨rfl, hbl⟩; exact hK _ _ _ rfl ⟨kept_call hbl hP, trivial⟩ trivial rfl)
                  | (go_simp; exact hK _ _ _ rfl ⟨hP, hTr⟩ trivial rfl)
              refine calmSteps_cons (fun u wq n9 hn hn2 hC hk K hK => ?_) ?_
              · obtain ⟨hP, hTr⟩ := hC
                clear hn hn2
                simp only [calmKnown, List.getElem?_cons_zero, List.getElem?_cons_succ, and_true, Is, Gd, Pure, Option.some.injEq, List.getD_cons_zero, List.getD_cons_succ, List.map_cons, List.map_nil] at hk
                have h5 := hk; clear hk
                simp only [h5] at hK ⊢
                have H5 := Lib.hid h5; clear h5
                go_simp
                exact hK _ _ _ rfl ⟨hP, hTr⟩ trivial rfl
              refine calmSteps_cons (fun u wq n9 hn hn2 hC hk K hK => ?_) ?_
              · obtain ⟨hP, hTr⟩ := hC
                clear hn hn2
                simp only [calmKnown, List.getElem?_cons_zero, List.getElem?_cons_succ, and_true, Is, Gd, Pure, Option.some.injEq, List.getD_cons_zero, List.getD_cons_succ, List.map_cons, List.map_nil] at hk
                obtain ⟨h7, h8, h5⟩ := hk
                simp only [h7, h8, h5] at hK ⊢
                have H7 := Lib.hid h7; clear h7; have H8 := Lib.hid h8; clear h8; have H5 := Lib.hid h5; clear h5
                go_simp
                exact hK _ _ _ rfl ⟨hP, hTr⟩ trivial rfl
              refine calmSteps_cons (fun u wq n9 hn hn2 hC hk K hK => ?_) ?_
              · obtain ⟨hP, hTr⟩ := hC
                clear hn hn2
                simp only [calmKnown, List.getElem?_cons_zero, List.getElem?_cons_succ, and_true, Is, Gd, Pure, Option.some.injEq, List.getD_cons_zero, List.getD_cons_succ, List.map_cons, List.map_nil] at hk
                obtain ⟨h5, h9⟩ := hk
                simp only [h5, h9] at hK ⊢
                have H5 := Lib.hid h5; clear h5; have H9 := Lib.hid h9; clear h9
                go_simp
                exact hK _ _ _ rfl ⟨hP, hTr⟩ trivial rfl
              refine calmSteps_cons (fun u wq n9 hn hn2 hC hk K hK => ?_) ?_
              · obtain ⟨hP, hTr⟩ := hC
                clear hn hn2
                simp only [calmKnown, List.getElem?_cons_zero, List.getElem?_cons_succ, and_true, Is, Gd, Pure, Option.some.injEq, List.getD_cons_zero, List.getD_cons_succ, List.map_cons, List.map_nil] at hk
                have h10 := hk; clear hk
                simp only [h10] at hK ⊢
                have H10 := Lib.hid h10; clear h10
                go_simp
                exact hK _ _ _ rfl ⟨hP, hTr⟩ trivial rfl
              refine calmSteps_cons (fun u wq n9 hn hn2 hC hk K hK => ?_) ?_
              · obtain ⟨hP, hTr⟩ := hC
                clear hn hn2
                simp only [calmKnown, List.getElem?_cons_zero, List.getElem?_cons_succ, and_true, Is, Gd, Pure, Option.some.injEq, List.getD_cons_zero, List.getD_cons_succ, List.map_cons, List.map_nil] at hk
                have h11 := hk; clear hk
                simp only [h11] at hK ⊢
                have H11 := Lib.hid h11; clear h11
                go_simp
                exact hK _ _ _ rfl ⟨hP, hTr⟩ trivial rfl
              refine calmSteps_cons (fun u wq n9 hn hn2 hC hk K hK => ?_) ?_
              · obtain ⟨hP, hTr⟩ := hC
                clear hn hn2
                simp only [calmKnown, List.getElem?_cons_zero, List.getElem?_cons_succ, and_true, Is, Gd, Pure, Option.some.injEq, List.getD_cons_zero, List.getD_cons_succ, List.map_cons, List.map_nil] at hk
                obtain ⟨h12, h11⟩ := hk
                simp only [h12, h11] at hK ⊢
                have H12 := Lib.hid h12; clear h12; have H11 := Lib.hid h11; clear h11
                go_simp
                exact hK _ _ _ rfl ⟨hP, hTr⟩ trivial rfl
              refine calmSteps_cons (fun u wq n9 hn hn2 hC hk K hK => ?_) ?_
              · obtain ⟨hP, hTr⟩ := hC
                clear hn hn2
                simp only [calmKnown, List.getElem?_cons_zero, List.getElem?_cons_succ, and_true, Is, Gd, Pure, Option.some.injEq, List.getD_cons_zero, List.getD_cons_succ, List.map_cons, List.map_nil] at hk
                obtain ⟨h11, h13⟩ := hk
                simp only [h11, h13] at hK ⊢
                have H11 := Lib.hid h11; clear h11; have H13 := Lib.hid h13; clear h13
                go_simp
                exact hK _ _ _ rfl ⟨hP, hTr⟩ trivial rfl
              refine calmSteps_cons (fun u wq n9 hn hn2 hC hk K hK => ?_) ?_
              · obtain ⟨hP, hTr⟩ := hC
                clear hn hn2
                simp only [calmKnown, List.getElem?_cons_zero, List.getElem?_cons_succ, and_true, Is, Gd, Pure, Option.some.injEq, List.getD_cons_zero, List.getD_cons_succ, List.map_cons, List.map_nil] at hk
                have h14 := hk; clear hk
                simp only [h14] at hK ⊢
                have H14 := Lib.hid h14; clear h14
                go_simp
                exact hK _ _ _ rfl ⟨hP, hTr⟩ trivial rfl
              refine calmSteps_cons (fun u wq n9 hn hn2 hC hk K hK => ?_) ?_
              · obtain ⟨hP, hTr⟩ := hC
                clear hn hn2
                simp only [calmKnown, List.getElem?_cons_zero, List.getElem?_cons_succ, and_true, Is, Gd, Pure, Option.some.injEq, List.getD_cons_zero, List.getD_cons_succ, List.map_cons, List.map_nil] at hk
                have h15 := hk; clear hk
                simp only [h15] at hK ⊢
                have H15 := Lib.hid h15; clear h15
                go_simp
                exact hK _ _ _ rfl ⟨hP, hTr⟩ trivial rfl
              refine calmSteps_cons (fun u wq n9 hn hn2 hC hk K hK => ?_) ?_
              · obtain ⟨hP, hTr⟩ := hC
                clear hn hn2
                simp only [calmKnown, List.getElem?_cons_zero, List.getElem?_cons_succ, and_true, Is, Gd, Pure, Option.some.injEq, List.getD_cons_zero, List.getD_cons_succ, List.map_cons, List.map_nil] at hk
                obtain ⟨h16, h15⟩ := hk
                simp only [h16, h15] at hK ⊢
                have H16 := Lib.hid h16; clear h16; have H15 := Lib.hid h15; clear h15
                go_simp
                exact hK _ _ _ rfl ⟨hP, hTr⟩ trivial rfl
              refine calmSteps_cons (fun u wq n9 hn hn2 hC hk K hK => ?_) ?_
              · obtain ⟨hP, hTr⟩ := hC
                clear hn hn2
                simp only [calmKnown, List.getElem?_cons_zero, List.getElem?_cons_succ, and_true, Is, Gd, Pure, Option.some.injEq, List.getD_cons_zero, List.getD_cons_succ, List.map_cons, List.map_nil] at hk
                obtain ⟨h15, h17⟩ := hk
                simp only [h15, h17] at hK ⊢
                have H15 := Lib.hid h15; clear h15; have H17 := Lib.hid h17; clear h17
                go_simp
                exact hK _ _ _ rfl ⟨hP, hTr⟩ trivial rfl
              refine calmSteps_cons (fun u wq n9 hn hn2 hC hk K hK => ?_) ?_
              · obtain ⟨hP, hTr⟩ := hC
                clear hn hn2
                simp only [calmKnown, List.getElem?_cons_zero, List.getElem?_cons_succ, and_true, Is, Gd, Pure, Option.some.injEq, List.getD_cons_zero, List.getD_cons_succ, List.map_cons, List.map_nil] at hk
                have h18 := hk; clear hk
                simp only [h18] at hK ⊢
                have H18 := Lib.hid h18; clear h18
                go_simp
                exact hK _ _ _ rfl ⟨hP, hTr⟩ trivial rfl
              refine calmSteps_cons (fun u wq n9 hn hn2 hC hk K hK => ?_) ?_
              · obtain ⟨hP, hTr⟩ := hC
                clear hn hn2
                simp only [calmKnown, List.getElem?_cons_zero, List.getElem?_cons_succ, and_true, Is, Gd, Pure, Option.some.injEq, List.getD_cons_zero, List.getD_cons_succ, List.map_cons, List.map_nil] at hk
                have h19 := hk; clear hk
                simp only [h19] at hK ⊢
                have H19 := Lib.hid h19; clear h19
                go_simp
                exact hK _ _ _ rfl ⟨hP, hTr⟩ trivial rfl
              refine calmSteps_cons (fun u wq n9 hn hn2 hC hk K hK => ?_) ?_
              · obtain ⟨hP, hTr⟩ := hC
                clear hn hn2
                simp only [calmKnown, List.getElem?_cons_zero, List.getElem?_cons_succ, and_true, Is, Gd, Pure, Option.some.injEq, List.getD_cons_zero, List.getD_cons_succ, List.map_cons, List.map_nil] at hk
                obtain ⟨h20, h19⟩ := hk
                simp only [h20, h19] at hK ⊢
                have H20 := Lib.hid h20; clear h20; have H19 := Lib.hid h19; clear h19
                go_simp
                exact hK _ _ _ rfl ⟨hP, hTr⟩ trivial rfl
              refine calmSteps_cons (fun u wq n9 hn hn2 hC hk K hK => ?_) ?_
              · obtain ⟨hP, hTr⟩ := hC
                clear hn hn2
                simp only [calmKnown, List.getElem?_cons_zero, List.getElem?_cons_succ, and_true, Is, Gd, Pure, Option.some.injEq, List.getD_cons_zero, List.getD_cons_succ, List.map_cons, List.map_nil] at hk
                obtain ⟨h19, h21⟩ := hk
                simp only [h19, h21] at hK ⊢
                have H19 := Lib.hid h19; clear h19; have H21 := Lib.hid h21; clear h21
                go_simp
                exact hK _ _ _ rfl ⟨hP, hTr⟩ trivial rfl
              refine calmSteps_cons (fun u wq n9 hn hn2 hC hk K hK => ?_) ?_
              · obtain ⟨hP, hTr⟩ := hC
                clear hn hn2
                simp only [calmKnown, List.getElem?_cons_zero, List.getElem?_cons_succ, and_true, Is, Gd, Pure, Option.some.injEq, List.getD_cons_zero, List.getD_cons_succ, List.map_cons, List.map_nil] at hk
                have h22 := hk; clear hk
                simp only [h22] at hK ⊢
                have H22 := Lib.hid h22; clear h22
                go_simp
                exact hK _ _ _ rfl ⟨hP, hTr⟩ trivial rfl
              refine calmSteps_cons (fun u wq n9 hn hn2 hC hk K hK => ?_) ?_
              · obtain ⟨hP, hTr⟩ := hC
                clear hn hn2
                simp only [calmKnown, List.getElem?_cons_zero, List.getElem?_cons_succ, and_true, Is, Gd, Pure, Option.some.injEq, List.getD_cons_zero, List.getD_cons_succ, List.map_cons, List.map_nil] at hk
                have h23 := hk; clear hk
                simp only [h23] at hK ⊢
                have H23 := Lib.hid h23; clear h23
                go_simp
                exact hK _ _ _ rfl ⟨hP, hTr⟩ trivial rfl
              refine calmSteps_cons (fun u wq n9 hn hn2 hC hk K hK => ?_) ?_
              · obtain ⟨hP, hTr⟩ := hC
                clear hn hn2
                simp only [calmKnown, List.getElem?_cons_zero, List.getElem?_cons_succ, and_true, Is, Gd, Pure, Option.some.injEq, List.getD_cons_zero, List.getD_cons_succ, List.map_cons, List.map_nil] at hk
                obtain ⟨h23, h24⟩ := hk
                simp only [h23, h24] at hK ⊢
                have H23 := Lib.hid h23; clear h23; have H24 := Lib.hid h24; clear h24
                go_simp
                exact hK _ _ _ rfl ⟨hP, hTr⟩ trivial rfl
              refine calmSteps_cons (fun u wq n9 hn hn2 hC hk K hK => ?_) ?_
              · obtain ⟨hP, hTr⟩ := hC
                clear hn hn2
                simp only [calmKnown, List.getElem?_cons_zero, List.getElem?_cons_succ, and_true, Is, Gd, Pure, Option.some.injEq, List.getD_cons_zero, List.getD_cons_succ, List.map_cons, List.map_nil] at hk
                have h25 := hk; clear hk
                simp only [h25] at hK ⊢
                have H25 := Lib.hid h25; clear h25
                go_simp
                exact hK _ _ _ rfl ⟨hP, hTr⟩ trivial rfl
              refine calmSteps_cons (fun u wq n9 hn hn2 hC hk K hK => ?_) ?_
              · obtain ⟨hP, hTr⟩ := hC
                clear hn hn2
                simp only [calmKnown, List.getElem?_cons_zero, List.getElem?_cons_succ, and_true, Is, Gd, Pure, Option.some.injEq, List.getD_cons_zero, List.getD_cons_succ, List.map_cons, List.map_nil] at hk
                have h26 := hk; clear hk
                simp only [h26] at hK ⊢
                have H26 := Lib.hid h26; clear h26
                go_simp
                exact hK _ _ _ rfl ⟨hP, hTr⟩ trivial rfl
              refine calmSteps_cons (fun u wq n9 hn hn2 hC hk K hK => ?_) ?_
              · obtain ⟨hP, hTr⟩ := hC
                clear hn hn2
                simp only [calmKnown, List.getElem?_cons_zero, List.getElem?_cons_succ, and_true, Is, Gd, Pure, Option.some.injEq, List.getD_cons_zero, List.getD_cons_succ, List.map_cons, List.map_nil] at hk
                obtain ⟨h27, h26⟩ := hk
                simp only [h27, h26] at hK ⊢
                have H27 := Lib.hid h27; clear h27; have H26 := Lib.hid h26; clear h26
                have cA := (HBA.out.below hP).cell; have lA := (HBA.out.below hP).lt
                have cX := (HBX.out.below hP).cell; have lX := (HBX.out.below hP).lt
                have cY := (HBY.out.below hP).cell; have lY := (HBY.out.below hP).lt
                go_simp
                exact hK _ _ _ rfl ⟨hP, hTr⟩ trivial rfl
              refine calmSteps_cons (fun u wq n9 hn hn2 hC hk K hK => ?_) ?_
              · obtain ⟨hP, hTr⟩ := hC
                clear hn hn2
                simp only [calmKnown, List.getElem?_cons_zero, List.getElem?_cons_succ, and_true, Is, Gd, Pure, Option.some.injEq, List.getD_cons_zero, List.getD_cons_succ, List.map_cons, List.map_nil] at hk
                have h26 := hk; clear hk
                simp only [h26] at hK ⊢
                have H26 := Lib.hid h26; clear h26
                go_simp
                exact hK _ _ _ rfl ⟨hP, hTr⟩ trivial rfl
              refine calmSteps_cons (fun u wq n9 hn hn2 hC hk K hK => ?_) ?_
              · obtain ⟨hP, hTr⟩ := hC
                clear hn hn2
                simp only [calmKnown, List.getElem?_cons_zero, List.getElem?_cons_succ, and_true, Is, Gd, Pure, Option.some.injEq, List.getD_cons_zero, List.getD_cons_succ, List.map_cons, List.map_nil] at hk
                obtain ⟨h28, h29, h26⟩ := hk
                simp only [h28, h29, h26] at hK ⊢
                have H28 := Lib.hid h28; clear h28; have H29 := Lib.hid h29; clear h29; have H26 := Lib.hid h26; clear h26
                first
                  | (refine' calm_op ?_ ?_; rfl; go_simp; (first | (with_reducible refine (awake_any _).mono ?_) | (with_reducible refine (RHY.out _).mono ?_) | (with_reducible refine (RHL.out _ (HO.out.below hP)).mono ?_) | (with_reducible refine (RIN.out _).mono ?_) | (with_reducible refine (RHX.out _).mono ?_)); rintro e w2 ⟨rfl, hbl⟩; exact hK _ _ _ rfl ⟨kept_call hbl hP, trivial⟩ trivial rfl)
                  | (go_simp; exact hK _ _ _ rfl ⟨hP, hTr⟩ trivial rfl)
              refine calmSteps_cons (fun u wq n9 hn hn2 hC hk K hK => ?_) ?_
              · obtain ⟨hP, hTr⟩ := hC
                clear hn hn2
                simp only [calmKnown, List.getElem?_cons_zero, List.getElem?_cons_succ, and_true, Is, Gd, Pure, Option.some.injEq, List.getD_cons_zero, List.getD_cons_succ, List.map_cons, List.map_nil] at hk
                obtain ⟨h26, h30⟩ := hk
                simp only [h26, h30] at hK ⊢
                have H26 := Lib.hid h26; clear h26; have H30 := Lib.hid h30; clear h30
                go_simp
                exact hK _ _ _ rfl ⟨hP, hTr⟩ trivial rfl
              refine calmSteps_cons (fun u wq n9 hn hn2 hC hk K hK => ?_) ?_
              · obtain ⟨hP, hTr⟩ := hC
                clear hn hn2
                simp only [calmKnown, List.getElem?_cons_zero, List.getElem?_cons_succ, and_true, Is, Gd, Pure, Option.some.injEq, List.getD_cons_zero, List.getD_cons_succ, List.map_cons, List.map_nil] at hk
                have h31 := hk; clear hk
                simp only [h31] at hK ⊢
                have H31 := Lib.hid h31; clear h31
                go_simp
                exact hK _ _ _ rfl ⟨hP, hTr⟩ trivial rfl
              refine calmSteps_cons (fun u wq n9 hn hn2 hC hk K hK => ?_) ?_
              · obtain ⟨hP, hTr⟩ := hC
                clear hn hn2
                simp only [calmKnown, List.getElem?_cons_zero, List.getElem?_cons_succ, and_true, Is, Gd, Pure, Option.some.injEq, List.getD_cons_zero, List.getD_cons_succ, List.map_cons, List.map_nil] at hk
                have h32 := hk; clear hk
                simp only [h32] at hK ⊢
                have H32 := Lib.hid h32; clear h32
                have cA := (HBA.out.below hP).cell; have lA := (HBA.out.below hP).lt
                have cX := (HBX.out.below hP).cell; have lX := (HBX.out.below hP).lt
                have cY := (HBY.out.below hP).cell; have lY := (HBY.out.below hP).lt
                go_simp
                exact hK _ _ _ rfl ⟨hP, hTr⟩ trivial rfl
              refine calmSteps_cons (fun u wq n9 hn hn2 hC hk K hK => ?_) ?_
              · obtain ⟨hP, hTr⟩ := hC
                clear hn hn2
                simp only [calmKnown, List.getElem?_cons_zero, List.getElem?_cons_succ, and_true, Is, Gd, Pure, Option.some.injEq, List.getD_cons_zero, List.getD_cons_succ, List.map_cons, List.map_nil] at hk
                have h32 := hk; clear hk
                simp only [h32] at hK ⊢
                have H32 := Lib.hid h32; clear h32
                go_simp
                exact hK _ _ _ rfl ⟨hP, hTr⟩ trivial rfl
              refine calmSteps_cons (fun u wq n9 hn hn2 hC hk K hK => ?_) ?_
              · obtain ⟨hP, hTr⟩ := hC
                clear hn hn2
                simp only [calmKnown, List.getElem?_cons_zero, List.getElem?_cons_succ, and_true, Is, Gd, Pure, Option.some.injEq, List.getD_cons_zero, List.getD_cons_succ, List.map_cons, List.map_nil] at hk
                obtain ⟨h34, h32⟩ := hk
                simp only [h34, h32] at hK ⊢
                have H34 := Lib.hid h34; clear h34; have H32 := Lib.hid h32; clear h32
                first
                  | (refine' calm_op ?_ ?_; rfl; go_simp; (first | (with_reducible refine (awake_any _).mono ?_) | (with_reducible refine (RHY.out _).mono ?_) | (with_reducible refine (RHL.out _ (HO.out.below hP)).mono ?_) | (with_reducible refine (RIN.out _).mono ?_) | (with_reducible refine (RHX.out _).mono ?_)); rintro e w2 ⟨rfl, hbl⟩; exact hK _ _ _ rfl ⟨kept_call hbl hP, trivial⟩ trivial rfl)
                  | (go_simp; exact hK _ _ _ rfl ⟨hP, hTr⟩ trivial rfl)
              refine calmSteps_cons (fun u wq n9 hn hn2 hC hk K hK => ?_) ?_
              · obtain ⟨hP, hTr⟩ := hC
                clear hn hn2
                simp only [calmKnown, List.getElem?_cons_zero, List.getElem?_cons_succ, and_true, Is, Gd, Pure, Option.some.injEq, List.getD_cons_zero, List.getD_cons_succ, List.map_cons, List.map_nil] at hk
                obtain ⟨h33, h35, h32⟩ := hk
                simp only [h33, h35, h32] at hK ⊢
                have H33 := Lib.hid h33; clear h33; have H35 := Lib.hid h35; clear h35; have H32 := Lib.hid h32; clear h32
                first
                  | (refine' calm_op ?_ ?_; rfl; go_simp; (first | (with_reducible refine (awake_any _).mono ?_) | (with_reducible refine (RHY.out _).mono ?_) | (with_reducible refine (RHL.out _ (HO.out.below hP)).mono ?_) | (with_reducible refine (RIN.out _).mono ?_) | (with_reducible refine (RHX.out _).mono ?_)); rintro e w2 ⟨rfl, hbl⟩; exact hK _ _ _ rfl ⟨kept_call hbl hP, trivial⟩ trivial rfl)
                  | (go_simp; exact hK _ _ _ rfl ⟨hP, hTr⟩ trivial rfl)
              refine calmSteps_cons (fun u wq n9 hn hn2 hC hk K hK => ?_) ?_
              · obtain ⟨hP, hTr⟩ := hC
                clear hn hn2
                simp only [calmKnown, List.getElem?_cons_zero, List.getElem?_cons_succ, and_true, Is, Gd, Pure, Option.some.injEq, List.getD_cons_zero, List.getD_cons_succ, List.map_cons, List.map_nil] at hk
                obtain ⟨h32, h36⟩ := hk
                simp only [h32, h36] at hK ⊢
                have H32 := Lib.hid h32; clear h32; have H36 := Lib.hid h36; clear h36
                go_simp
                exact hK _ _ _ rfl ⟨hP, hTr⟩ trivial rfl
              refine calmSteps_cons (fun u wq n9 hn hn2 hC hk K hK => ?_) ?_
              · obtain ⟨hP, hTr⟩ := hC
                clear hn hn2
                simp only [calmKnown, List.getElem?_cons_zero, List.getElem?_cons_succ, and_true, Is, Gd, Pure, Option.some.injEq, List.getD_cons_zero, List.getD_cons_succ, List.map_cons, List.map_nil] at hk
                have h37 := hk; clear hk
                simp only [h37] at hK ⊢
                have H37 := Lib.hid h37; clear h37
                go_simp
                exact hK _ _ _ rfl ⟨hP, hTr⟩ trivial rfl
              refine calmSteps_cons (fun u wq n9 hn hn2 hC hk K hK => ?_) ?_
              · obtain ⟨hP, hTr⟩ := hC
                clear hn hn2
                simp only [calmKnown, List.getElem?_cons_zero, List.getElem?_cons_succ, and_true, Is, Gd, Pure, Option.some.injEq, List.getD_cons_zero, List.getD_cons_succ, List.map_cons, List.map_nil] at hk
                have h38 := hk; clear hk
                simp only [h38] at hK ⊢
                have H38 := Lib.hid h38; clear h38
                have cA := (HBA.out.below hP).cell; have lA := (HBA.out.below hP).lt
                have cX := (HBX.out.below hP).cell; have lX := (HBX.out.below hP).lt
                have cY := (HBY.out.below hP).cell; have lY := (HBY.out.below hP).lt
                go_simp
                exact hK _ _ _ rfl ⟨hP, hTr⟩ trivial rfl
              refine calmSteps_cons (fun u wq n9 hn hn2 hC hk K hK => ?_) ?_
              · obtain ⟨hP, hTr⟩ := hC
                clear hn hn2
                simp only [calmKnown, List.getElem?_cons_zero, List.getElem?_cons_succ, and_true, Is, Gd, Pure, Option.some.injEq, List.getD_cons_zero, List.getD_cons_succ, List.map_cons, List.map_nil] at hk
                have h38 := hk; clear hk
                simp only [h38] at hK ⊢
                have H38 := Lib.hid h38; clear h38
                go_simp
                exact hK _ _ _ rfl ⟨hP, hTr⟩ trivial rfl
              refine calmSteps_cons (fun u wq n9 hn hn2 hC hk K hK => ?_) ?_
              · obtain ⟨hP, hTr⟩ := hC
                clear hn hn2
                simp only [calmKnown, List.getElem?_cons_zero, List.getElem?_cons_succ, and_true, Is, Gd, Pure, Option.some.injEq, List.getD_cons_zero, List.getD_cons_succ, List.map_cons, List.map_nil] at hk
                obtain ⟨h39, h40, h38⟩ := hk
                simp only [h39, h40, h38] at hK ⊢
                have H39 := Lib.hid h39; clear h39; have H40 := Lib.hid h40; clear h40; have H38 := Lib.hid h38; clear h38
                first
                  | (refine' calm_op ?_ ?_; rfl; go_simp; (first | (with_reducible refine (awake_any _).mono ?_) | (with_reducible refine (RHY.out _).mono ?_) | (with_reducible refine (RHL.out _ (HO.out.below hP)).mono ?_) | (with_reducible refine (RIN.out _).mono ?_) | (with_reducible refine (RHX.out _).mono ?_)); rintro e w2 ⟨rfl, hbl⟩; exact hK _ _ _ rfl ⟨kept_call hbl hP, trivial⟩ trivial rfl)
                  | (go_simp; exact hK _ _ _ rfl ⟨hP, hTr⟩ trivial rfl)
              refine calmSteps_cons (fun u wq n9 hn hn2 hC hk K hK => ?_) ?_
              · obtain ⟨hP, hTr⟩ := hC
                clear hn hn2
                simp only [calmKnown, List.getElem?_cons_zero, List.getElem?_cons_succ, and_true, Is, Gd, Pure, Option.some.injEq, List.getD_cons_zero, List.getD_cons_succ, List.map_cons, List.map_nil] at hk
                obtain ⟨h38, h41⟩ := hk
                simp only [h38, h41] at hK ⊢
                have H38 := Lib.hid h38; clear h38; have H41 := Lib.hid h41; clear h41
                go_simp
                exact hK _ _ _ rfl ⟨hP, hTr⟩ trivial rfl
              refine calmSteps_cons (fun u wq n9 hn hn2 hC hk K hK => ?_) ?_
              · obtain ⟨hP, hTr⟩ := hC
                clear hn hn2
                simp only [calmKnown, List.getElem?_cons_zero, List.getElem?_cons_succ, and_true, Is, Gd, Pure, Option.some.injEq, List.getD_cons_zero, List.getD_cons_succ, List.map_cons, List.map_nil] at hk
                have h42 := hk; clear hk
                simp only [h42] at hK ⊢
                have H42 := Lib.hid h42; clear h42
                go_simp
                exact hK _ _ _ rfl ⟨hP, hTr⟩ trivial rfl
              exact calmSteps_nil
            · intro u wz hC hF
              obtain ⟨hP, hTr⟩ := hC
              simp only [calmFacts, Is, Gd, and_true, true_and] at hF
              obtain ⟨f0, f1, f2, f3, f4, f5, f6, f7, f8, f9, f10, f11, f12, f13, f14, f15, f16, f17, f18, f19, f20, f21, f22, f23, f24, f25, f26, f27, f28, f29, f30, f31, f32, f33, f34, f35, f36, f37, f38, f39, f40, f41, f42, f43⟩ := hF
              simp only [f43]
              clear f0 f1 f2 f3 f4 f5 f6 f7 f8 f9 f10 f11 f12 f13 f14 f15 f16 f17 f18 f19 f20 f21 f22 f23 f24 f25 f26 f27 f28 f29 f30 f31 f32 f33 f34 f35 f36 f37 f38 f39 f40 f41 f42 f43
              replace HK := Lib.hid (HK.out.below hP)
              replace HBA := Lib.hid (HBA.out.below hP)
              replace HO := Lib.hid (HO.out.below hP)
              replace HBX := Lib.hid (HBX.out.below hP)
              replace HBY := Lib.hid (HBY.out.below hP)
              go_wp2
              go_ret
              exact ⟨rfl, HK.out.below (by (repeat' (first | (with_reducible exact Below.refl _ _) | (with_reducible refine Below.setCell ?_ ?_ _) | (with_reducible refine Below.alloc ?_ ?_ _) | (with_reducible refine Below.drew ?_) | (with_reducible refine below_drewN ?_ _))) <;> (first | omega | (simp <;> omega)))⟩
end Go.Proofs.YtlnboheahbfgfaaGreat
