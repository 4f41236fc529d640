/- The walk of PoolBoundsInfluence. -/
import Derived.Test.YtlfkkfdolnkjfaaCalmP
import Derived.Test.YtlfkkfdolnkjfaaDrawY
import Derived.Test.YtlfkkfdolnkjfaaJ38
import Derived.Test.YtlfkkfdolnkjfaaLaw34S
import Derived.Test.YtlfkkfdolnkjfaaJ25
import Derived.Test.YtlfkkfdolnkjfaaSpans
import Derived.Test.YtlfkkfdolnkjfaaTapK
namespace Go.Proofs.Ytlfkkfdolnkjfaa
open Go.RowKit Go.Shelf Go.Sort
set_option linter.unusedSimpArgs false
set_option linter.unusedVariables false

theorem RowS.tap {w w' : World} {base b : Nat} {v : Value} {zs : List (Int × Int)} (h : RowS w base v zs) (hg : w.grownBy w' (some b)) (hb : b < base) : RowS w' base v zs := RowS.kept h hg (fun k hk e => by have := (RowS.lt h k hk).1; injection e with e; omega)
/-- A row of booleans of one's own. -/
def RowL (w : World) (base : Nat) (v : Value) (ls : List Bool) : Prop := w.ownsRow base 4 1 v ls.length (ls.map Value.bool)
theorem RowL.nil {w : World} {base : Nat} : RowL w base (.slice none 0 0) [] := World.ownsRow_nil _ _ _ _
theorem RowL.lt {w : World} {base : Nat} {v : Value} {ls : List Bool} (h : RowL w base v ls) : ∀ k, v.ownBlock = some k → base ≤ k ∧ k < w.heap.size := World.ownsRow.lt h
theorem RowL.kept {w w' : World} {base : Nat} {v : Value} {ls : List Bool} {row : Option Nat} (h : RowL w base v ls) (hg : w.grownBy w' row) (hn : ∀ k, v.ownBlock = some k → some k ≠ row) : RowL w' base v ls :=
  World.ownsRow.kept h hg (by
    cases hv : v.ownBlock with
    | none => exact .inl rfl
    | some k => exact .inr (hn k hv))
theorem RowL.below {w w' : World} {base : Nat} {v : Value} {ls : List Bool} (h : RowL w base v ls) (hb : Below w.heap.size w w') : RowL w' base v ls := RowL.kept h (row := none) (grown_below hb) (fun k _ e => by cases e)
theorem RowL.tap {w w' : World} {base b : Nat} {v : Value} {ls : List Bool} (h : RowL w base v ls) (hg : w.grownBy w' (some b)) (hb : b < base) : RowL w' base v ls := RowL.kept h hg (fun k hk e => by have := (RowL.lt h k hk).1; injection e with e; omega)
/-- Booleans at a place. -/
def LbAt (w : World) (A : Option Addr) (ls : List Bool) : Prop := 0 < ls.length → ∃ g off, A = some ⟨g, off, none⟩ ∧ g < w.heap.size ∧ ∀ j, j < ls.length → w.cell? ⟨g, off + j, none⟩ = some (.bool (ls.getD j true))
theorem LbAt.below {w w' : World} {A : Option Addr} {ls : List Bool} (h : LbAt w A ls) (hb : Below w.heap.size w w') : LbAt w' A ls := fun h0 => by
  obtain ⟨g, off, e, hg, hc⟩ := h h0
  exact ⟨g, off, e, Nat.lt_of_lt_of_le hg hb.size, fun j hj => cell_below hb (hc j hj)⟩
theorem RowL.at {w : World} {base n c : Nat} {A : Option Addr} {ls : List Bool} (h : RowL w base (.slice A n c) ls) : LbAt w A ls := fun h0 => by
  rcases h.2 with ⟨_, hz⟩ | ⟨g, c', cur, hv, hb, hg, _, _, _, ht⟩
  · omega
  · injection hv with hv _ _
    refine ⟨g, 0, hv, (Array.getElem?_eq_some_iff.1 hg).1, fun j hj => ?_⟩
    have e1 : (ls.map Value.bool)[j]? = some (.bool (ls.getD j true)) := by simp [List.getD_eq_getElem?_getD, List.getElem?_eq_getElem hj]
    rw [Nat.zero_add, ← e1, ← ht, List.getElem?_take, if_pos (by omega), Array.getElem?_toList]
    exact cell_of_row w g j cur 4 (0, 0) hg
/-- The seed. -/
def SdAt (w : World) (base g : Nat) (bs : List Int) : Prop := BySl w g 0 bs ∧ base ≤ g
theorem SdAt.below {w w' : World} {base g : Nat} {bs : List Int} (h : SdAt w base g bs) (hb : Below w.heap.size w w') : SdAt w' base g bs := ⟨h.1.below hb, h.2⟩
theorem SdAt.tap {w w' : World} {base g b : Nat} {bs : List Int} (h : SdAt w base g bs) (hg : w.grownBy w' (some b)) (hb : b < base) : SdAt w' base g bs :=
  ⟨⟨Nat.lt_of_lt_of_le h.1.1 hg.size, fun j hj => hg.cell (h.1.2 j hj) (by have := h.2; simp; omega)⟩, h.2⟩
theorem infoBool : (Try.prog.info? 4).map (fun i => (i.zero, i.size, i.bytes)) = some (some (.bool false), 1, 1) := by kernel_rfl
/-- The spans and who lies. -/
def SpanB (ss : List (Int × Int)) (ls : List Bool) (t : Int) : Prop := ss.length = ls.length ∧ ∀ j, j < ss.length → -1000 ≤ (ss.getD j (0, 0)).1 ∧ (ss.getD j (0, 0)).1 ≤ (ss.getD j (0, 0)).2 ∧ (ss.getD j (0, 0)).2 ≤ 1000 ∧ (ls.getD j true = false → (ss.getD j (0, 0)).1 ≤ t ∧ t ≤ (ss.getD j (0, 0)).2)
theorem getD_snoc {α : Type} (l : List α) (x d : α) (j : Nat) : (l ++ [x]).getD j d = if j < l.length then l.getD j d else if j = l.length then x else d := by
  rw [List.getD_eq_getElem?_getD, List.getElem?_append]
  split
  · rw [List.getD_eq_getElem?_getD]
  · split
    · next h => subst h; simp
    · next h => rw [List.getElem?_eq_none (by simp; omega)]; rfl
theorem SpanB.snoc {ss : List (Int × Int)} {ls : List Bool} {t a b : Int} {l : Bool} (h : SpanB ss ls t) (h1 : -1000 ≤ a ∧ a ≤ b ∧ b ≤ 1000) (h2 : l = false → a ≤ t ∧ t ≤ b) : SpanB (ss ++ [(a, b)]) (ls ++ [l]) t := by
  refine ⟨by simp [h.1], fun j hj => ?_⟩
  rw [List.length_append, List.length_singleton] at hj
  rw [getD_snoc, getD_snoc, ← h.1]
  by_cases e : j < ss.length
  · rw [if_pos e, if_pos e]; exact h.2 j e
  · rw [if_neg e, if_neg e, if_pos (by omega), if_pos (by omega)]; exact ⟨h1.1, h1.2.1, h1.2.2, h2⟩
/-- Booleans in a block of one's own. -/
def IbAt (w : World) (g : Nat) (bs : List Bool) : Prop := ∃ cur : Array Value, Blk w g 4 cur ∧ ∀ j, j < bs.length → cur[j]? = some (.bool (bs.getD j true))
theorem IbAt.below {w w' : World} {g : Nat} {bs : List Bool} (h : IbAt w g bs) (hb : Below w.heap.size w w') : IbAt w' g bs := by
  obtain ⟨cur, hB, hc⟩ := h
  exact ⟨cur, Blk.keep hb hB, hc⟩
theorem IbAt.set {w : World} {g : Nat} {bs : List Bool} (h : IbAt w g bs) (p : Nat) (y : Bool) (hp : p < bs.length) : IbAt (w.setCell ⟨g, p, none⟩ (.bool y)) g (bs.set p y) := by
  obtain ⟨cur, hB, hc⟩ := h
  refine ⟨_, hB.set_ p (.bool y), fun j hj => ?_⟩
  rw [List.length_set] at hj
  have h1 := hc j hj
  have s1 : p < cur.size := (Array.getElem?_eq_some_iff.1 (hc p hp)).1
  rw [List.getD_eq_getElem?_getD, List.getElem?_set]
  by_cases e : p = j
  · subst e
    rw [if_pos rfl, if_pos hp, Array.getElem?_setIfInBounds_self_of_lt s1]; rfl
  · rw [if_neg e, ← List.getD_eq_getElem?_getD, Array.getElem?_setIfInBounds_ne e]; exact h1
theorem IbAt.cells {w : World} {g : Nat} {bs : List Bool} (h : IbAt w g bs) (j : Nat) (hj : j < bs.length) : g < w.heap.size ∧ w.cell? ⟨g, j, none⟩ = some (.bool (bs.getD j true)) ∧ (∀ i, w.frozen? ⟨g, i, none⟩ = false) := by
  obtain ⟨cur, hB, hc⟩ := h
  exact ⟨hB.lt, (hB.cell j).trans (hc j hj), hB.frozen⟩
theorem own_ibat {w : World} {base n cap : Nat} {A : Option Addr} {bs : List Bool} (h : w.ownsRow base 4 1 (.slice A n cap) n (bs.map Value.bool)) (hn : bs.length = n) (h0 : 0 < n) : ∃ g, A = some ⟨g, 0, none⟩ ∧ base ≤ g ∧ g < w.heap.size ∧ IbAt w g bs := by
  rcases h.2 with ⟨_, hz⟩ | ⟨g, c, cur, hv, hb, hg, _, _, _, ht⟩
  · omega
  · injection hv with hv _ _
    refine ⟨g, hv, hb, (Array.getElem?_eq_some_iff.1 hg).1, cur, hg, fun j hj => ?_⟩
    have e1 : (bs.map Value.bool)[j]? = some (.bool (bs.getD j true)) := by simp [List.getD_eq_getElem?_getD, List.getElem?_eq_getElem hj]
    rw [← e1, ← ht, List.getElem?_take, if_pos (by omega), Array.getElem?_toList]
theorem zeros_bools (n : Nat) : (madeCells #[(.bool false : Value)] n).toList = (List.replicate n false).map Value.bool := by
  refine List.ext_getElem (by simp [madeCells]) (fun i h1 h2 => ?_)
  simp [madeCells, Nat.mod_one]
theorem IbAt.far {w : World} {g : Nat} {bs : List Bool} (h : IbAt w g bs) {p : Addr} (hp : g ≠ p.block) (v : Value) : IbAt (w.setCell p v) g bs := by
  obtain ⟨cur, hB, hc⟩ := h
  exact ⟨cur, Blk.far hB hp v, hc⟩
theorem getD_set {α : Type} (l : List α) (p j : Nat) (x d : α) (hp : p < l.length) : (l.set p x).getD j d = if p = j then x else l.getD j d := by
  rw [List.getD_eq_getElem?_getD, List.getElem?_set]
  by_cases e : p = j
  · subst e; rw [if_pos rfl, if_pos hp, if_pos rfl]; rfl
  · rw [if_neg e, if_neg e, List.getD_eq_getElem?_getD]
theorem EstX.same {ss os : List (Int × Int)} {seed : List Int} {k f x y er : Int} {zs : List Int} (hl : os.length = ss.length) (hc : chS os (drL seed ss.length k) = chS ss (drL seed ss.length k)) (h : EstX os seed k f x y er zs) : EstX ss seed k f x y er zs := by
  unfold EstX at h ⊢
  rw [hl, hc] at h
  exact h
theorem SpanB.ck {ss : List (Int × Int)} {ls : List Bool} {t : Int} (h : SpanB ss ls t) (dl : List Int) (hd : dl.length ≤ 32) (hr : ∀ j, j < dl.length → 0 ≤ dl.getD j 0 ∧ dl.getD j 0 < ss.length) : ckE (chS ss dl) = 0 := by
  refine small_ck (most := 10000) (fun z hz => ?_) (by decide) (by rw [chS_len]; omega)
  unfold chS at hz
  obtain ⟨i, hi, rfl⟩ := List.mem_map.1 hz
  obtain ⟨j, hj, rfl⟩ := List.getElem_of_mem hi
  have h1 := hr j hj
  rw [List.getD_eq_getElem?_getD, List.getElem?_eq_getElem hj] at h1
  have h2 := h.2 (dl[j]).toNat (by simp only [Option.getD_some] at h1; omega)
  refine ⟨by omega, by omega, by omega, by omega⟩
def OrRel (w : World) (g9 gi q : Nat) (bs : List Bool) (ss : List (Int × Int)) (i : Value) (G : Nat) (wr : World) : Prop := ∃ (p : Nat) (os : List (Int × Int)), p ≤ q ∧ G = q - p ∧ i = .int .i64 p ∧ OsAt wr g9 os ∧ os.length = q ∧ (∀ j, j < q → bs.getD j true = true → os.getD j (0, 0) = ss.getD j (0, 0)) ∧ Below w.heap.size w wr
def HuRel (w : World) (gh gi q kk : Nat) (ss : List (Int × Int)) (dl : List Int) (tr : Int) (v22 v23 i : Value) (G : Nat) (wr : World) : Prop := ∃ (p : Nat) (bad : Int) (first : Bool) (lo hi : Int) (bs : List Bool), p ≤ kk ∧ G = kk - p ∧ i = .int .i64 p ∧ v22 = .int .i64 bad ∧ v23 = .bool first ∧ Blk wr gh 35 #[.int .i64 lo, .int .i64 hi] ∧ IbAt wr gi bs ∧ bs.length = q ∧ (∀ j, j < p → bs.getD (dl.getD j 0).toNat true = true) ∧ HullI (chS ss (dl.take p)) tr bad first lo hi ∧ Below w.heap.size w wr
def BdRel (w : World) (b n : Nat) (t : Int) (v1 v2 i : Value) (G : Nat) (wr : World) : Prop := ∃ (q : Nat) (ss : List (Int × Int)) (ls : List Bool) (A1 A2 : Option Addr) (c1 c2 : Nat), q ≤ n ∧ G = n - q ∧ i = .int .i64 q ∧ ss.length = q ∧ ls.length = q ∧ v1 = .slice A1 q c1 ∧ v2 = .slice A2 q c2 ∧ RowS wr (w.heap.size + 1) (.slice A1 q c1) ss ∧ RowL wr (w.heap.size + 1) (.slice A2 q c2) ls ∧ (∀ k, (Value.slice A1 q c1).ownBlock = some k → (Value.slice A2 q c2).ownBlock ≠ some k) ∧ SpanB ss ls t ∧ TapeAt wr b ∧ Below w.heap.size w wr
set_option maxRecDepth 100000 in
set_option maxHeartbeats 8000000 in
theorem bounds_walk (LA : Option Addr) (llen lcap : Nat) (ls0 : List Int) (v tr0 : Int) (w : World) (k9 : IntsAt w LA llen ls0) :
    Calls Try.prog 13 #[.slice LA llen lcap, .int .i64 v, .int .i64 tr0] w (RB w (.bool true)) := by
  have HK := Lib.hid (show Kp w w from Below.refl _ _)
  have HLI := Lib.hid k9; clear k9
  have hroot : w.heap.size < w.heap.size + 1 := Nat.lt_succ_self _
  obtain ⟨tr, htr⟩ : ∃ tr : Int, tr0 % 30 - 15 = tr := ⟨_, rfl⟩
  have tr1 : -15 ≤ tr := by omega
  have tr2 : tr ≤ 14 := by omega
  have wtr : IntKind.i64.wrap (tr0 % 30 - 15) = tr := by rw [IntWalk.i64_in _ (by omega)]; exact htr
  clear htr
  go_enter Try.func13, Try.ntmps13
  go_wp2_with fail
  refine (new_any LA llen lcap ls0 _ HLI.out).mono ?_
  rintro e w1 ⟨rfl, ht1, hb1⟩
  have Z1 := hb1.size
  have T1 := ht1.lt
  replace HK := Lib.hid (HK.out.below hb1)
  clear hb1 HLI
  obtain ⟨b, hb⟩ : ∃ b, b = w.heap.size := ⟨_, rfl⟩
  have hbw : w.heap.size ≤ b := by omega
  have hbw2 : b < w.heap.size + 1 := by omega
  rw [← hb] at ht1 T1 ⊢
  clear hb
  have HT := Lib.hid ht1; clear ht1
  go_wp2_with fail
  refine (within_any tr0 30 _ (by omega) (by omega)).mono ?_
  rintro e w2 ⟨rfl, rfl⟩
  go_wp2_with fail
  refine (int_any b 18 _ (HT.out.below (by (repeat' (first | (with_reducible exact Below.refl _ _) | (with_reducible refine Below.setCell ?_ ?_ _) | (with_reducible refine Below.alloc ?_ ?_ _) | (with_reducible refine Below.drew ?_) | (with_reducible refine below_drewN ?_ _))) <;> (first | omega | (simp <;> omega)))) (by omega) (by omega)).mono ?_
  rintro e w2 ⟨kv, rfl, kv0, kv1, ht2, hg2⟩
  have Z2 := Nat.le_trans (show w1.heap.size ≤ _ from Below.size (show Below w1.heap.size w1 _ from (by (repeat' (first | (with_reducible exact Below.refl _ _) | (with_reducible refine Below.setCell ?_ ?_ _) | (with_reducible refine Below.alloc ?_ ?_ _) | (with_reducible refine Below.drew ?_) | (with_reducible refine below_drewN ?_ _))) <;> (first | omega | (simp <;> omega))))) hg2.size
  replace HK := Lib.hid ((HK.out.below (by (repeat' (first | (with_reducible exact Below.refl _ _) | (with_reducible refine Below.setCell ?_ ?_ _) | (with_reducible refine Below.alloc ?_ ?_ _) | (with_reducible refine Below.drew ?_) | (with_reducible refine below_drewN ?_ _))) <;> (first | omega | (simp <;> omega)))).tap hg2 (by omega))
  replace HT := Lib.hid ht2
  clear ht2 hg2
  obtain ⟨n, hn⟩ : ∃ n : Nat, 3 + kv = (n : Int) := ⟨(3 + kv).toNat, by omega⟩
  have n0 : 3 ≤ n := by omega
  have n1 : n ≤ 20 := by omega
  have wn : IntKind.i64.wrap (3 + kv) = (n : Int) := by rw [IntWalk.i64_in _ (by omega)]; exact hn
  clear hn
  go_wp2
  obtain ⟨w9, rfl⟩ : ∃ x : World, x = w2 := ⟨_, rfl⟩
  clear wn wtr kv0 kv1
  go_loopg [9, 10, 11] n (fun G v1 v2 i wr => BdRel w b n tr v1 v2 i G wr)
  case atStart => exact ⟨0, [], [], none, none, 0, 0, by omega, by omega, rfl, rfl, rfl, rfl, rfl, RowS.nil, RowL.nil, (fun k h => by simp [Value.ownBlock] at h), ⟨rfl, fun j hj => by simp at hj⟩, HT.out, HK.out.b⟩
  case round =>
    obtain ⟨q, ss, ls, A1, A2, c1, c2, hq, rfl, rfl, hsl, hll, rfl, rfl, hrow, hrl, hne, hsb, htr, KR⟩ := hrel
    have ZR := KR.size
    clear HK HT
    have HK := Lib.hid (show Kp w wr from KR); have HT := Lib.hid htr; have HRS := Lib.hid hrow; have HRL := Lib.hid hrl; have HSB := Lib.hid hsb; have HSL := Lib.hid hsl; have HLL := Lib.hid hll
    have TR := htr.lt
    have hx1 := RowS.lt hrow
    have hx2 := RowL.lt hrl
    clear KR htr hrow hrl hsb hsl hll
    by_cases hlt : q < n
    · have gq : decide ((q : Int) < (n : Int)) = true := decide_eq_true (by omega)
      have gqn : decide (q < n) = true := decide_eq_true hlt
      have wq : IntKind.i64.wrap ((q : Int) + 1) = ((q + 1 : Nat) : Int) := by rw [IntWalk.i64_in _ (by omega)]; omega
      generalize hv1 : (Value.slice A1 q c1) = v1 at *
      generalize hv2 : (Value.slice A2 q c2) = v2 at *
      have HV1 := Lib.hid hv1; have HV2 := Lib.hid hv2; clear hv1 hv2
      go_wp2_with fail
      refine (tbool_any b 4 _ (HT.out.below (by (repeat' (first | (with_reducible exact Below.refl _ _) | (with_reducible refine Below.setCell ?_ ?_ _) | (with_reducible refine Below.alloc ?_ ?_ _) | (with_reducible refine Below.drew ?_) | (with_reducible refine below_drewN ?_ _))) <;> (first | omega | (simp <;> omega)))) (by omega) (by omega)).mono ?_
      rintro e w3 ⟨lie, rfl, ht3, hg3⟩
      have Z3 := Nat.le_trans (show wr.heap.size ≤ _ from Below.size (show Below wr.heap.size wr _ from (by (repeat' (first | (with_reducible exact Below.refl _ _) | (with_reducible refine Below.setCell ?_ ?_ _) | (with_reducible refine Below.alloc ?_ ?_ _) | (with_reducible refine Below.drew ?_) | (with_reducible refine below_drewN ?_ _))) <;> (first | omega | (simp <;> omega))))) hg3.size
      replace HK := Lib.hid ((HK.out.below (by (repeat' (first | (with_reducible exact Below.refl _ _) | (with_reducible refine Below.setCell ?_ ?_ _) | (with_reducible refine Below.alloc ?_ ?_ _) | (with_reducible refine Below.drew ?_) | (with_reducible refine below_drewN ?_ _))) <;> (first | omega | (simp <;> omega)))).tap hg3 (by omega))
      replace HRS := Lib.hid ((HRS.out.below (by (repeat' (first | (with_reducible exact Below.refl _ _) | (with_reducible refine Below.setCell ?_ ?_ _) | (with_reducible refine Below.alloc ?_ ?_ _) | (with_reducible refine Below.drew ?_) | (with_reducible refine below_drewN ?_ _))) <;> (first | omega | (simp <;> omega)))).tap hg3 (by omega))
      replace HRL := Lib.hid ((HRL.out.below (by (repeat' (first | (with_reducible exact Below.refl _ _) | (with_reducible refine Below.setCell ?_ ?_ _) | (with_reducible refine Below.alloc ?_ ?_ _) | (with_reducible refine Below.drew ?_) | (with_reducible refine below_drewN ?_ _))) <;> (first | omega | (simp <;> omega)))).tap hg3 (by omega))
      replace HT := Lib.hid ht3
      clear ht3 hg3
      go_wp2_with fail
      refine (int_any b 15 _ (HT.out.below (by (repeat' (first | (with_reducible exact Below.refl _ _) | (with_reducible refine Below.setCell ?_ ?_ _) | (with_reducible refine Below.alloc ?_ ?_ _) | (with_reducible refine Below.drew ?_) | (with_reducible refine below_drewN ?_ _))) <;> (first | omega | (simp <;> omega)))) (by omega) (by omega)).mono ?_
      rintro e w4 ⟨ua, rfl, ua0, ua1, ht4, hg4⟩
      have Z4 := Nat.le_trans (show w3.heap.size ≤ _ from Below.size (show Below w3.heap.size w3 _ from (by (repeat' (first | (with_reducible exact Below.refl _ _) | (with_reducible refine Below.setCell ?_ ?_ _) | (with_reducible refine Below.alloc ?_ ?_ _) | (with_reducible refine Below.drew ?_) | (with_reducible refine below_drewN ?_ _))) <;> (first | omega | (simp <;> omega))))) hg4.size
      replace HK := Lib.hid ((HK.out.below (by (repeat' (first | (with_reducible exact Below.refl _ _) | (with_reducible refine Below.setCell ?_ ?_ _) | (with_reducible refine Below.alloc ?_ ?_ _) | (with_reducible refine Below.drew ?_) | (with_reducible refine below_drewN ?_ _))) <;> (first | omega | (simp <;> omega)))).tap hg4 (by omega))
      replace HRS := Lib.hid ((HRS.out.below (by (repeat' (first | (with_reducible exact Below.refl _ _) | (with_reducible refine Below.setCell ?_ ?_ _) | (with_reducible refine Below.alloc ?_ ?_ _) | (with_reducible refine Below.drew ?_) | (with_reducible refine below_drewN ?_ _))) <;> (first | omega | (simp <;> omega)))).tap hg4 (by omega))
      replace HRL := Lib.hid ((HRL.out.below (by (repeat' (first | (with_reducible exact Below.refl _ _) | (with_reducible refine Below.setCell ?_ ?_ _) | (with_reducible refine Below.alloc ?_ ?_ _) | (with_reducible refine Below.drew ?_) | (with_reducible refine below_drewN ?_ _))) <;> (first | omega | (simp <;> omega)))).tap hg4 (by omega))
      replace HT := Lib.hid ht4
      clear ht4 hg4
      go_wp2_with fail
      refine (int_any b 15 _ (HT.out.below (by (repeat' (first | (with_reducible exact Below.refl _ _) | (with_reducible refine Below.setCell ?_ ?_ _) | (with_reducible refine Below.alloc ?_ ?_ _) | (with_reducible refine Below.drew ?_) | (with_reducible refine below_drewN ?_ _))) <;> (first | omega | (simp <;> omega)))) (by omega) (by omega)).mono ?_
      rintro e w5 ⟨ub, rfl, ub0, ub1, ht5, hg5⟩
      have Z5 := Nat.le_trans (show w4.heap.size ≤ _ from Below.size (show Below w4.heap.size w4 _ from (by (repeat' (first | (with_reducible exact Below.refl _ _) | (with_reducible refine Below.setCell ?_ ?_ _) | (with_reducible refine Below.alloc ?_ ?_ _) | (with_reducible refine Below.drew ?_) | (with_reducible refine below_drewN ?_ _))) <;> (first | omega | (simp <;> omega))))) hg5.size
      replace HK := Lib.hid ((HK.out.below (by (repeat' (first | (with_reducible exact Below.refl _ _) | (with_reducible refine Below.setCell ?_ ?_ _) | (with_reducible refine Below.alloc ?_ ?_ _) | (with_reducible refine Below.drew ?_) | (with_reducible refine below_drewN ?_ _))) <;> (first | omega | (simp <;> omega)))).tap hg5 (by omega))
      replace HRS := Lib.hid ((HRS.out.below (by (repeat' (first | (with_reducible exact Below.refl _ _) | (with_reducible refine Below.setCell ?_ ?_ _) | (with_reducible refine Below.alloc ?_ ?_ _) | (with_reducible refine Below.drew ?_) | (with_reducible refine below_drewN ?_ _))) <;> (first | omega | (simp <;> omega)))).tap hg5 (by omega))
      replace HRL := Lib.hid ((HRL.out.below (by (repeat' (first | (with_reducible exact Below.refl _ _) | (with_reducible refine Below.setCell ?_ ?_ _) | (with_reducible refine Below.alloc ?_ ?_ _) | (with_reducible refine Below.drew ?_) | (with_reducible refine below_drewN ?_ _))) <;> (first | omega | (simp <;> omega)))).tap hg5 (by omega))
      replace HT := Lib.hid ht5
      clear ht5 hg5
      have wa : IntKind.i64.wrap (tr - ua) = tr - ua := IntWalk.i64_in _ (by omega)
      have wb : IntKind.i64.wrap (tr + ub) = tr + ub := IntWalk.i64_in _ (by omega)
      obtain ⟨g12, hg12⟩ : ∃ g, w5.heap.size = g := ⟨_, rfl⟩
      have g12b : b < g12 := by omega
      go_upto_if 57 with fail
      (try rw [hg12])
      go_cut [] (fun wx => (∃ x0 x1, Blk wx g12 35 #[.int .i64 x0, .int .i64 x1] ∧ -1000 ≤ x0 ∧ x0 ≤ x1 ∧ x1 ≤ 1000 ∧ (lie = false → x0 ≤ tr ∧ tr ≤ x1)) ∧ TapeAt wx b ∧ w5.grownBy wx (some b))
      case first =>
        cases lie with
        | true =>
          go_wp2_with fail
          refine (tspan_any b 60 _ (HT.out.below (by (repeat' (first | (with_reducible exact Below.refl _ _) | (with_reducible refine Below.setCell ?_ ?_ _) | (with_reducible refine Below.alloc ?_ ?_ _) | (with_reducible refine Below.drew ?_) | (with_reducible refine below_drewN ?_ _))) <;> (first | omega | (simp <;> omega)))) (by omega) (by omega)).mono ?_
          rintro e w17 ⟨x0, x1, rfl, x00, x01, x02, x03, ht17, hg17⟩
          have Z17 : w5.heap.size < w17.heap.size := Nat.lt_of_lt_of_le (by simp) hg17.size
          have hB17 : Blk w17 g12 35 #[.int .i64 (tr - ua), .int .i64 (tr + ub)] := Blk.keepG hg17 (by rw [← hg12]; first | exact Blk.new _ _ _ | exact setAll_blk [.int .i64 (tr - ua), .int .i64 (tr + ub)] 0 _ #[.int .i64 0, .int .i64 0] (Blk.new _ _ _)) (by omega)
          have hG17 : GB b w5 w17 := GB.tap hg17 (by (repeat' (first | (with_reducible exact GB.refl _ _) | (with_reducible refine GB.setCell ?_ ?_ _) | (with_reducible refine GB.alloc ?_ _) | (with_reducible refine GB.drew ?_))) <;> (first | omega | (simp <;> omega)))
          obtain ⟨c17, f17, l17, e17, k17⟩ := Blk.facts hB17
          clear hg17
          go_wp2_with fail
          go_meet
          exact ⟨⟨x0, x1, setAll_blk [.int .i64 x0, .int .i64 x1] 0 _ #[.int .i64 (tr - ua), .int .i64 (tr + ub)] hB17, by omega, by omega, by omega, fun h => absurd h (by decide)⟩, setAll_tape g12b [.int .i64 x0, .int .i64 x1] 0 _ ht17, setAll_gb (by omega) [.int .i64 x0, .int .i64 x1] 0 _ hG17⟩
        | false =>
          go_wp2_with fail
          go_meet
          exact ⟨⟨tr - ua, tr + ub, by (rw [← hg12]; first | exact Blk.new _ _ _ | exact setAll_blk [.int .i64 (tr - ua), .int .i64 (tr + ub)] 0 _ #[.int .i64 0, .int .i64 0] (Blk.new _ _ _)), by omega, by omega, by omega, fun _ => by omega⟩, HT.out.below (by (repeat' (first | (with_reducible exact Below.refl _ _) | (with_reducible refine Below.setCell ?_ ?_ _) | (with_reducible refine Below.alloc ?_ ?_ _) | (with_reducible refine Below.drew ?_) | (with_reducible refine below_drewN ?_ _))) <;> (first | omega | (simp <;> omega))), (by show GB b _ _; (repeat' (first | (with_reducible exact GB.refl _ _) | (with_reducible refine GB.setCell ?_ ?_ _) | (with_reducible refine GB.alloc ?_ _) | (with_reducible refine GB.drew ?_))) <;> (first | omega | (simp <;> omega)))⟩
      case rest =>
        obtain ⟨⟨x0, x1, bx, x00, x01, x02, hhon⟩, htx, hgx⟩ := hcut
        have ZX := hgx.size
        clear wa wb ua0 ua1 ub0 ub1
        replace HK := Lib.hid (HK.out.tap hgx (by omega))
        replace HRS := Lib.hid (HRS.out.tap hgx (by omega))
        replace HRL := Lib.hid (HRL.out.tap hgx (by omega))
        replace HT := Lib.hid htx
        clear htx hgx
        obtain ⟨w19, rfl⟩ : ∃ x : World, x = wc := ⟨_, rfl⟩
        have cx := bx.cell
        have lx := bx.lt
        have HNX := Lib.hid (HSB.out.snoc ⟨x00, x01, x02⟩ hhon); clear hhon
        have hy1 := RowS.lt HRS.out
        have hy2 := RowL.lt HRL.out
        obtain ⟨i0, hif, hz0, hz1, hz2⟩ := info_parts infoSpan
        obtain ⟨j0, jif, jz0, jz1, jz2⟩ := info_parts infoBool
        generalize hX1 : v1.ownBlock = X1 at *
        generalize hX2 : v2.ownBlock = X2 at *
        have HX1 := Lib.hid hX1; have HX2 := Lib.hid hX2; clear hX1 hX2
        go_wp2_with (at_builtin; refine wpList_append_lies _ rfl _ _ 43 rfl (w.heap.size + 1) 35 i0 (.agg #[.int .i64 0, .int .i64 0]) 2 16 Try.underlying43 hif hz0 hz1 hz2 rfl (by decide) v1 q (cellsS ss) rfl (by have h := RowS.below HRS.out (show Below w19.heap.size w19 (w19.alloc (.cells #[.int .i64 x0, .int .i64 x1] 35)) from (Below.refl _ _).alloc (Nat.le_refl _) _); unfold RowS at h; rw [HSL.out] at h; exact h) ⟨w19.heap.size, 0, none⟩ 1 1 [.int .i64 x0, .int .i64 x1] rfl rfl (World.news_of_block (t := 35) (fr := (0, 0)) (Blk.new _ _ _)) ?c2 (by decide) ?c3 ?c4 ?c5 _ rfl ?_)
        case c2 => intro u hu; simp at hu; rcases hu with rfl | rfl <;> rfl
        case c3 => unfold maxLen; omega
        case c4 => omega
        case c5 => first | omega | (simp; omega)
        intro g7 cp7 w7 hown hgrow hlie hglt
        rw [HX1.out] at hgrow hlie
        have Z7 : w19.heap.size < w7.heap.size := Nat.lt_of_lt_of_le (by simp) hgrow.size
        have K7 : Below w.heap.size w w7 := (show Below w.heap.size w _ from HK.out.below (by (repeat' (first | (with_reducible exact Below.refl _ _) | (with_reducible refine Below.setCell ?_ ?_ _) | (with_reducible refine Below.alloc ?_ ?_ _) | (with_reducible refine Below.drew ?_) | (with_reducible refine below_drewN ?_ _))) <;> (first | omega | (simp <;> omega)))).grown hgrow (by first | omega | (simp; omega)) (fun k hk => by have := hy1 k hk; omega)
        have T7 : TapeAt w7 b := (HT.out.below (by (repeat' (first | (with_reducible exact Below.refl _ _) | (with_reducible refine Below.setCell ?_ ?_ _) | (with_reducible refine Below.alloc ?_ ?_ _) | (with_reducible refine Below.drew ?_) | (with_reducible refine below_drewN ?_ _))) <;> (first | omega | (simp <;> omega)))).kept (fun kk hk => hgrow.block kk (by have := HT.out.lt; first | omega | (simp; omega)) (fun e => by have := hy1 kk e.symm; omega))
        have R7 : RowS w7 (w.heap.size + 1) (.slice (some ⟨g7, 0, none⟩) (q + 1) cp7) (ss ++ [(x0, x1)]) := by
          unfold RowS
          rw [List.length_append, List.length_singleton, HSL.out, cellsS_snoc]; exact hown
        have L7 : RowL w7 (w.heap.size + 1) v2 ls := (RowL.below HRL.out (by (repeat' (first | (with_reducible exact Below.refl _ _) | (with_reducible refine Below.setCell ?_ ?_ _) | (with_reducible refine Below.alloc ?_ ?_ _) | (with_reducible refine Below.drew ?_) | (with_reducible refine below_drewN ?_ _))) <;> (first | omega | (simp <;> omega)))).kept hgrow (fun k hk e => hne k e.symm (by rw [← HX2.out]; exact hk))
        have hg7 : X2 ≠ some g7 := by
          intro e
          rcases hlie with h | h
          · exact hne g7 h e
          · have := hy2 g7 e; omega
        have H7 := Lib.hid (And.intro K7 (And.intro T7 (And.intro R7 L7)))
        clear hown hgrow hlie hglt K7 T7 R7 L7 HRS HRL HT HK cx lx bx
        go_wp2_with (at_builtin; refine wpList_append_lies _ rfl _ _ 87 rfl (w.heap.size + 1) 4 j0 (.bool false) 1 1 Try.underlying87 jif jz0 jz1 jz2 rfl (by decide) v2 q (ls.map Value.bool) rfl (by have h := RowL.below H7.out.2.2.2 (show Below w7.heap.size w7 (w7.alloc (.cells #[.bool lie] 4)) from (Below.refl _ _).alloc (Nat.le_refl _) _); unfold RowL at h; rw [HLL.out] at h; exact h) ⟨w7.heap.size, 0, none⟩ 1 1 [.bool lie] rfl rfl (World.news_of_block (t := 4) (fr := (0, 0)) (Blk.new _ _ _)) ?c2 (by decide) ?c3 ?c4 ?c5 _ rfl ?_)
        case c2 => intro u hu; simp at hu; rcases hu with rfl; rfl
        case c3 => unfold maxLen; omega
        case c4 => omega
        case c5 => first | omega | (simp; omega)
        intro g8 cp8 w8 hown hgrow hlie hglt
        rw [HX2.out] at hgrow hlie
        have Z8 : w7.heap.size < w8.heap.size := Nat.lt_of_lt_of_le (by simp) hgrow.size
        have K8 : Below w.heap.size w w8 := ((show Kp w w7 from H7.out.1).below (by (repeat' (first | (with_reducible exact Below.refl _ _) | (with_reducible refine Below.setCell ?_ ?_ _) | (with_reducible refine Below.alloc ?_ ?_ _) | (with_reducible refine Below.drew ?_) | (with_reducible refine below_drewN ?_ _))) <;> (first | omega | (simp <;> omega)))).b.grown hgrow (by first | omega | (simp; omega)) (fun k hk => by have := hy2 k hk; omega)
        have T8 : TapeAt w8 b := (H7.out.2.1.below (by (repeat' (first | (with_reducible exact Below.refl _ _) | (with_reducible refine Below.setCell ?_ ?_ _) | (with_reducible refine Below.alloc ?_ ?_ _) | (with_reducible refine Below.drew ?_) | (with_reducible refine below_drewN ?_ _))) <;> (first | omega | (simp <;> omega)))).kept (fun kk hk => hgrow.block kk (by have := H7.out.2.1.lt; first | omega | (simp; omega)) (fun e => by have := hy2 kk e.symm; omega))
        have L8 : RowL w8 (w.heap.size + 1) (.slice (some ⟨g8, 0, none⟩) (q + 1) cp8) (ls ++ [lie]) := by
          unfold RowL
          rw [List.length_append, List.length_singleton, HLL.out, List.map_append]; exact hown
        have R8 := (RowS.below H7.out.2.2.1 (show Below w7.heap.size w7 (w7.alloc (.cells #[.bool lie] 4)) from (Below.refl _ _).alloc (Nat.le_refl _) _)).kept hgrow (fun k hk e => by
          have h : g7 = k := by simpa [Value.ownBlock] using hk
          rw [h] at hg7; exact hg7 e.symm)
        have hg8 : g7 ≠ g8 := by
          intro e
          rcases hlie with h | h
          · rw [e] at hg7; exact hg7 h
          · have := (RowS.lt H7.out.2.2.1 g7 (by simp [Value.ownBlock])).2; (try simp at h); omega
        have H8 := Lib.hid (And.intro K8 (And.intro T8 (And.intro R8 (And.intro L8 hg8))))
        clear hown hgrow hlie hglt K8 T8 R8 L8 hg8 hg7
        go_wp2
        go_roundg (n - (q + 1))
        case measure => omega
        case rel => exact ⟨q + 1, ss ++ [(x0, x1)], ls ++ [lie], _, _, _, _, by omega, by omega, by go_num, by simp [HSL.out], by simp [HLL.out], rfl, rfl, H8.out.2.2.1, H8.out.2.2.2.1, (fun k hk e => H8.out.2.2.2.2 (by have h1 : g7 = k := (by simpa [Value.ownBlock] using hk); have h2 : g8 = k := (by simpa [Value.ownBlock] using e); omega)), HNX.out, H8.out.2.1, H8.out.1⟩
    · obtain rfl : q = n := by omega
      have gq : decide ((q : Int) < (q : Int)) = false := decide_eq_false (by omega)
      clear hx1 hx2 hne
      go_wp2_with fail
      refine (random_any v _).mono ?_
      rintro e w41 ⟨g1, c9, rfl, hc9, hg1, hl1, hat1, hb41⟩
      have S41 : Below wr.heap.size wr w41 := kept_call hb41 (by (repeat' (first | (with_reducible exact Below.refl _ _) | (with_reducible refine Below.setCell ?_ ?_ _) | (with_reducible refine Below.alloc ?_ ?_ _) | (with_reducible refine Below.drew ?_) | (with_reducible refine below_drewN ?_ _))) <;> (first | omega | (simp <;> omega)))
      have Z41 := S41.size
      have HSD := Lib.hid (show SdAt _ (w.heap.size + 1) g1 (randS v) from ⟨hat1.sl, by omega⟩)
      replace HK := Lib.hid (HK.out.below S41)
      replace HT := Lib.hid (HT.out.below S41)
      replace HRS := Lib.hid (HRS.out.below S41)
      replace HRL := Lib.hid (HRL.out.below S41)
      clear hb41 S41
      clear hat1
      obtain ⟨mn, hmn⟩ : ∃ mn : Nat, min (q : Int) 9 = (mn : Int) := ⟨min q 9, by omega⟩
      have mn0 : 3 ≤ mn := by omega
      have mn1 : mn ≤ 9 := by omega
      have mn2 : mn ≤ q := by omega
      have wmn : IntKind.i64.wrap ((mn : Int) - 2) = (mn : Int) - 2 := IntWalk.i64_in _ (by omega)
      go_wp2_with fail
      refine (int_any b ((mn : Int) - 2) _ (HT.out.below (by (repeat' (first | (with_reducible exact Below.refl _ _) | (with_reducible refine Below.setCell ?_ ?_ _) | (with_reducible refine Below.alloc ?_ ?_ _) | (with_reducible refine Below.drew ?_) | (with_reducible refine below_drewN ?_ _))) <;> (first | omega | (simp <;> omega)))) (by omega) (by omega)).mono ?_
      rintro e w42 ⟨kx, rfl, kx0, kx1, ht42, hg42⟩
      have Z42 := Nat.le_trans (show w41.heap.size ≤ _ from Below.size (show Below w41.heap.size w41 _ from (by (repeat' (first | (with_reducible exact Below.refl _ _) | (with_reducible refine Below.setCell ?_ ?_ _) | (with_reducible refine Below.alloc ?_ ?_ _) | (with_reducible refine Below.drew ?_) | (with_reducible refine below_drewN ?_ _))) <;> (first | omega | (simp <;> omega))))) hg42.size
      replace HK := Lib.hid ((HK.out.below (by (repeat' (first | (with_reducible exact Below.refl _ _) | (with_reducible refine Below.setCell ?_ ?_ _) | (with_reducible refine Below.alloc ?_ ?_ _) | (with_reducible refine Below.drew ?_) | (with_reducible refine below_drewN ?_ _))) <;> (first | omega | (simp <;> omega)))).tap hg42 (by omega))
      replace HRS := Lib.hid ((HRS.out.below (by (repeat' (first | (with_reducible exact Below.refl _ _) | (with_reducible refine Below.setCell ?_ ?_ _) | (with_reducible refine Below.alloc ?_ ?_ _) | (with_reducible refine Below.drew ?_) | (with_reducible refine below_drewN ?_ _))) <;> (first | omega | (simp <;> omega)))).tap hg42 (by omega))
      replace HRL := Lib.hid ((HRL.out.below (by (repeat' (first | (with_reducible exact Below.refl _ _) | (with_reducible refine Below.setCell ?_ ?_ _) | (with_reducible refine Below.alloc ?_ ?_ _) | (with_reducible refine Below.drew ?_) | (with_reducible refine below_drewN ?_ _))) <;> (first | omega | (simp <;> omega)))).tap hg42 (by omega))
      replace HSD := Lib.hid ((HSD.out.below (by (repeat' (first | (with_reducible exact Below.refl _ _) | (with_reducible refine Below.setCell ?_ ?_ _) | (with_reducible refine Below.alloc ?_ ?_ _) | (with_reducible refine Below.drew ?_) | (with_reducible refine below_drewN ?_ _))) <;> (first | omega | (simp <;> omega)))).tap hg42 (by omega))
      replace HT := Lib.hid ht42
      clear ht42 hg42
      obtain ⟨kk, hkk⟩ : ∃ kk : Nat, 3 + kx = (kk : Int) := ⟨(3 + kx).toNat, by omega⟩
      have k0 : 3 ≤ kk := by omega
      have k1 : kk ≤ mn := by omega
      have wk : IntKind.i64.wrap (3 + kx) = (kk : Int) := by rw [IntWalk.i64_in _ (by omega)]; exact hkk
      obtain ⟨hv, hhv⟩ : ∃ hv, ((kk : Int) + 1).tdiv 2 = hv := ⟨_, rfl⟩
      have hv2 : hv = ((kk : Int) + 1) / 2 := by rw [← hhv, Int.tdiv_eq_ediv_of_nonneg (by omega)]
      have hv0 : 1 ≤ hv := by omega
      have hv1 : 2 * hv ≤ (kk : Int) + 1 := by omega
      have wk1 : IntKind.i64.wrap ((kk : Int) + 1) = (kk : Int) + 1 := IntWalk.i64_in _ (by omega)
      have wk2 : IntKind.i64.wrap hv = hv := IntWalk.i64_in _ (by omega)
      clear hv2 hkk
      go_wp2_with fail
      refine (int_any b hv _ (HT.out.below (by (repeat' (first | (with_reducible exact Below.refl _ _) | (with_reducible refine Below.setCell ?_ ?_ _) | (with_reducible refine Below.alloc ?_ ?_ _) | (with_reducible refine Below.drew ?_) | (with_reducible refine below_drewN ?_ _))) <;> (first | omega | (simp <;> omega)))) (by omega) (by omega)).mono ?_
      rintro e w43 ⟨f, rfl, f0, f1, ht43, hg43⟩
      have Z43 := Nat.le_trans (show w42.heap.size ≤ _ from Below.size (show Below w42.heap.size w42 _ from (by (repeat' (first | (with_reducible exact Below.refl _ _) | (with_reducible refine Below.setCell ?_ ?_ _) | (with_reducible refine Below.alloc ?_ ?_ _) | (with_reducible refine Below.drew ?_) | (with_reducible refine below_drewN ?_ _))) <;> (first | omega | (simp <;> omega))))) hg43.size
      replace HK := Lib.hid ((HK.out.below (by (repeat' (first | (with_reducible exact Below.refl _ _) | (with_reducible refine Below.setCell ?_ ?_ _) | (with_reducible refine Below.alloc ?_ ?_ _) | (with_reducible refine Below.drew ?_) | (with_reducible refine below_drewN ?_ _))) <;> (first | omega | (simp <;> omega)))).tap hg43 (by omega))
      replace HRS := Lib.hid ((HRS.out.below (by (repeat' (first | (with_reducible exact Below.refl _ _) | (with_reducible refine Below.setCell ?_ ?_ _) | (with_reducible refine Below.alloc ?_ ?_ _) | (with_reducible refine Below.drew ?_) | (with_reducible refine below_drewN ?_ _))) <;> (first | omega | (simp <;> omega)))).tap hg43 (by omega))
      replace HRL := Lib.hid ((HRL.out.below (by (repeat' (first | (with_reducible exact Below.refl _ _) | (with_reducible refine Below.setCell ?_ ?_ _) | (with_reducible refine Below.alloc ?_ ?_ _) | (with_reducible refine Below.drew ?_) | (with_reducible refine below_drewN ?_ _))) <;> (first | omega | (simp <;> omega)))).tap hg43 (by omega))
      replace HSD := Lib.hid ((HSD.out.below (by (repeat' (first | (with_reducible exact Below.refl _ _) | (with_reducible refine Below.setCell ?_ ?_ _) | (with_reducible refine Below.alloc ?_ ?_ _) | (with_reducible refine Below.drew ?_) | (with_reducible refine below_drewN ?_ _))) <;> (first | omega | (simp <;> omega)))).tap hg43 (by omega))
      replace HT := Lib.hid ht43
      clear ht43 hg43
      have hfk : 2 * f < (kk : Int) := by omega
      clear wmn hmn wk wk1 wk2 hhv hv0 hv1 f1 kx0 kx1
      have hss : SpansAt w43 A1 ss.length ss := spans_of_row (cap := c1) (by rw [HSL.out]; exact HRS.out) (by rw [HSL.out]; omega)
      rw [HSL.out] at hss
      have HS := Lib.hid hss
      have HL := Lib.hid (RowL.at HRL.out)
      have HSB2 := Lib.hid (show BysAt w43 (some ⟨g1, 0, none⟩) 32 (randS v) from ⟨shaS_len _, shaS_in _, fun _ => ⟨g1, 0, rfl, HSD.out.1⟩⟩)
      clear hss HRS HRL HT HSD
      have hsl : (randS v).length = 32 := shaS_len _
      have hE := drE_ok hsl (show 1 ≤ q by omega) (show q ≤ 4096 by omega) (show kk ≤ q by omega) (show kk ≤ 32 by omega)
      have hdll := drL_len hsl (show 1 ≤ q by omega) (show q ≤ 4096 by omega) (show kk ≤ q by omega) (show kk ≤ 32 by omega)
      have hrng := drL_rng hsl (show 1 ≤ q by omega) (show q ≤ 4096 by omega) (show kk ≤ q by omega) (show kk ≤ 32 by omega)
      obtain ⟨dl, hdl⟩ : ∃ dl, drL (randS v) q kk = dl := ⟨_, rfl⟩
      have RD := Lib.hid (fun W h => hE ▸ hdl ▸ rdraw_any (some ⟨g1, 0, none⟩) 32 c9 (randS v) q kk (by omega) (by omega) W h)
      rw [hdl] at hdll hrng
      have HDL := Lib.hid hdl; have HE := Lib.hid hE; have HDLL := Lib.hid hdll; have HRNG := Lib.hid hrng; have HSLN := Lib.hid hsl
      clear hdl hE hdll hrng hsl
      go_wp2_with fail
      refine (iest_any A1 q c1 ss (some ⟨g1, 0, none⟩) 32 c9 (randS v) kk f (by rw [HSL.out]; omega) (by omega) _ (HS.out.below (by (repeat' (first | (with_reducible exact Below.refl _ _) | (with_reducible refine Below.setCell ?_ ?_ _) | (with_reducible refine Below.alloc ?_ ?_ _) | (with_reducible refine Below.drew ?_) | (with_reducible refine below_drewN ?_ _))) <;> (first | omega | (simp <;> omega)))) (HSB2.out.below (by (repeat' (first | (with_reducible exact Below.refl _ _) | (with_reducible refine Below.setCell ?_ ?_ _) | (with_reducible refine Below.alloc ?_ ?_ _) | (with_reducible refine Below.drew ?_) | (with_reducible refine below_drewN ?_ _))) <;> (first | omega | (simp <;> omega))))).mono ?_
      rintro e w44 ⟨x, y, er, ns, A3, c3, rfl, hex, hn3, hb44⟩
      have S44 : Below w43.heap.size w43 w44 := kept_call hb44 (by (repeat' (first | (with_reducible exact Below.refl _ _) | (with_reducible refine Below.setCell ?_ ?_ _) | (with_reducible refine Below.alloc ?_ ?_ _) | (with_reducible refine Below.drew ?_) | (with_reducible refine below_drewN ?_ _))) <;> (first | omega | (simp <;> omega)))
      have Z44 := S44.size
      have HN1 := Lib.hid (hn3)
      replace HK := Lib.hid (HK.out.below S44)
      replace HS := Lib.hid (HS.out.below S44)
      replace HL := Lib.hid (HL.out.below S44)
      replace HSB2 := Lib.hid (HSB2.out.below S44)
      clear hb44 S44
      have HEX := Lib.hid hex; clear hex hn3
      go_wp2_with fail
      refine (RD.out _ (HSB2.out.below (by (repeat' (first | (with_reducible exact Below.refl _ _) | (with_reducible refine Below.setCell ?_ ?_ _) | (with_reducible refine Below.alloc ?_ ?_ _) | (with_reducible refine Below.drew ?_) | (with_reducible refine below_drewN ?_ _))) <;> (first | omega | (simp <;> omega))))).mono ?_
      rintro e w45 ⟨A4, c4, rfl, hc4, hA4, hn4, hb45⟩
      have S45 : Below w44.heap.size w44 w45 := kept_call hb45 (by (repeat' (first | (with_reducible exact Below.refl _ _) | (with_reducible refine Below.setCell ?_ ?_ _) | (with_reducible refine Below.alloc ?_ ?_ _) | (with_reducible refine Below.drew ?_) | (with_reducible refine below_drewN ?_ _))) <;> (first | omega | (simp <;> omega)))
      have Z45 := S45.size
      have HN2 := Lib.hid (hn4)
      have HBA := Lib.hid (show Blk w45 w44.heap.size 35 #[.int .i64 x, .int .i64 y] from Blk.below (by first | exact Blk.new _ _ _ | exact setAll_blk [.int .i64 x, .int .i64 y] 0 _ #[.int .i64 0, .int .i64 0] (Blk.new _ _ _)) hb45)
      replace HK := Lib.hid (HK.out.below S45)
      replace HS := Lib.hid (HS.out.below S45)
      replace HL := Lib.hid (HL.out.below S45)
      replace HSB2 := Lib.hid (HSB2.out.below S45)
      replace HN1 := Lib.hid (HN1.out.below S45)
      clear hb45 S45
      clear hn4 hA4 hc4
      rw [HDLL.out]
      obtain ⟨ga, hga⟩ : ∃ g, w44.heap.size = g := ⟨_, rfl⟩
      rw [hga] at HBA ⊢
      obtain ⟨w20, rfl⟩ : ∃ x : World, x = w45 := ⟨_, rfl⟩
      go_upto_region 20 with fail
      go_cut [24] (fun v wx => ∃ gh, v = .pointer (some ⟨gh, 0, none⟩) ∧ w20.heap.size ≤ gh ∧ Blk wx gh 35 #[.int .i64 0, .int .i64 0] ∧ Below w20.heap.size w20 wx)
      case first =>
        go_wp2_with fail
        go_meet
        exact ⟨_, rfl, (by first | exact Nat.le_refl _ | simp), Blk.new _ _ _, (by (repeat' (first | (with_reducible exact Below.refl _ _) | (with_reducible refine Below.setCell ?_ ?_ _) | (with_reducible refine Below.alloc ?_ ?_ _) | (with_reducible refine Below.drew ?_) | (with_reducible refine below_drewN ?_ _))) <;> (first | omega | (simp <;> omega)))⟩
      case rest =>
        obtain ⟨gh, rfl, hgh, hbh, KC⟩ := hcut
        have ZC := KC.size
        have lgh := hbh.lt
        obtain ⟨j0, jif, jz0, jz1, jz2⟩ := info_parts infoBool
        have HBH := Lib.hid hbh; have HKC := Lib.hid KC; clear hbh KC
        obtain ⟨w21, rfl⟩ : ∃ x : World, x = wc := ⟨_, rfl⟩
        go_wp2_with (at_make; refine wpList_make_full _ rfl _ _ 87 rfl w21.heap.size 4 j0 (.bool false) 1 Try.underlying87 jif jz0 jz1 .i64 .i64 _ _ q rfl rfl (by first | rfl | omega) (by first | rfl | omega) (by rw [jz2]; omega) (by unfold maxLen; omega) (Nat.le_refl _) ?_)
        intro w22 hown hgrow
        have K22 : Below w21.heap.size w21 w22 := (Below.refl _ _).grown hgrow (Nat.le_refl _) (fun k hk => by cases hk)
        have hrow := hown
        rw [show (madeCells _ _).toList = (List.replicate q false).map Value.bool from by first | exact zeros_bools q | (rw [Nat.mul_one]; exact zeros_bools q)] at hrow
        obtain ⟨gi, e, hgi, lgi, hib⟩ := own_ibat hrow (by simp) (by omega)
        obtain rfl : gi = w21.heap.size := by injection e with e; injection e with e; first | exact e.symm | exact e
        obtain ⟨gi, hgi2⟩ : ∃ g, w21.heap.size = g := ⟨_, rfl⟩
        rw [hgi2] at hib lgi lgh ⊢
        have HIB := Lib.hid hib; have HBH2 := Lib.hid (HBH.out.below K22); have HK22 := Lib.hid (kept_call K22 HKC.out)
        have Z22 := K22.size
        have ZG2 : w20.heap.size ≤ gi := by omega
        clear hown hgrow hrow e hib K22 HBH HKC hgi
        clear hgi2
        go_wp2
        go_loopg [22, 23, 26] kk (fun G v22 v23 i wr => HuRel w20 gh gi q kk ss dl tr v22 v23 i G wr)
        case atStart => exact ⟨0, 0, true, 0, 0, List.replicate q false, by omega, by omega, rfl, rfl, rfl, HBH2.out, HIB.out, by simp, fun j hj => by omega, HullI.nil tr, HK22.out⟩
        case round =>
          obtain ⟨p, bad, first, lo, hi, bs, hp, rfl, rfl, rfl, rfl, hbh, hib, hbl, hall, hin, KR⟩ := hrel
          have ZR := KR.size
          clear HBH2 HIB HK22
          have HBH := Lib.hid hbh; have HIB := Lib.hid hib; have HKR := Lib.hid KR; have HALL := Lib.hid hall; have HIN := Lib.hid hin; have HBL := Lib.hid hbl
          have lgh := hbh.lt
          by_cases hlt : p < kk
          · have gp : decide ((p : Int) < (kk : Int)) = true := decide_eq_true (by omega)
            have gpn : decide (p < kk) = true := decide_eq_true hlt
            have wp : IntKind.i64.wrap ((p : Int) + 1) = ((p + 1 : Nat) : Int) := by rw [IntWalk.i64_in _ (by omega)]; omega
            obtain ⟨g4, o4, rfl, lg4, hc4⟩ := HN2.out (by rw [HDLL.out]; omega)
            have e4 := hc4 p (by rw [HDLL.out]; omega)
            obtain ⟨hr0, hr1⟩ := HRNG.out p hlt
            have hst := chS_next ss dl p (by rw [HDLL.out]; omega)
            obtain ⟨d, hd⟩ : ∃ d : Nat, dl.getD p 0 = (d : Int) := ⟨(dl.getD p 0).toNat, by omega⟩
            rw [hd] at e4 hr1 hst
            rw [Int.toNat_natCast] at hst
            have hdq : d < q := by omega
            have gd : decide ((d : Int) < (q : Int)) = true := decide_eq_true (by omega)
            have gdn : decide (d < q) = true := decide_eq_true hdq
            obtain ⟨bl, off, rfl, lbl, hcs⟩ := HS.out.2.2 (by omega)
            obtain ⟨e0, e1⟩ := hcs d hdq
            obtain ⟨g2, o2, rfl, lg2, hcl⟩ := HL.out (by rw [HLL.out]; omega)
            have e2 := hcl d (by rw [HLL.out]; omega)
            have hsp := HSB.out.2 d (by rw [HSL.out]; omega)
            obtain ⟨l, hl⟩ : ∃ l, ls.getD d true = l := ⟨_, rfl⟩
            rw [hl] at e2 hsp
            obtain ⟨z, hz⟩ : ∃ z, ss.getD d (0, 0) = z := ⟨_, rfl⟩
            rw [hz] at e0 e1 hsp hst
            obtain ⟨zl, zh⟩ := z
            dsimp only at e0 e1 hsp
            obtain ⟨hs1, hs2, hs3, hs4⟩ := hsp
            have HST := Lib.hid hst; have HDD := Lib.hid hd; have HS4 := Lib.hid hs4
            have E := Lib.hid (show ∀ W : World, Below w20.heap.size w20 W → bl < W.heap.size ∧ g2 < W.heap.size ∧ g4 < W.heap.size ∧ W.cell? ⟨bl, off + d * 2, none⟩ = some (.int .i64 zl) ∧ W.cell? ⟨bl, off + d * 2 + 1, none⟩ = some (.int .i64 zh) ∧ W.cell? ⟨g2, o2 + d, none⟩ = some (.bool l) ∧ W.cell? ⟨g4, o4 + p, none⟩ = some (.int .i64 d) from fun W hW => ⟨Nat.lt_of_lt_of_le lbl hW.size, Nat.lt_of_lt_of_le lg2 hW.size, Nat.lt_of_lt_of_le lg4 hW.size, cell_below hW e0, cell_below hW e1, cell_below hW e2, cell_below hW e4⟩)
            have hwl : bl < w20.heap.size ∧ g2 < w20.heap.size ∧ g4 < w20.heap.size := ⟨lbl, lg2, lg4⟩
            clear hc4 hcs hcl hl hz hst hd hs4 e0 e1 e2 e4 hr0 hr1 hbh hib hall hin hbl KR lbl lg2 lg4
            obtain ⟨x1, x2, x3, y0, y1, y2, y3⟩ := E.out _ HKR.out
            obtain ⟨i1, i2, i3⟩ := HIB.out.cells d (by rw [HBL.out]; exact hdq)
            go_upto_region 26 with fail
            go_cut [27] (fun v wx => ∃ gx, v = .pointer (some ⟨gx, 0, none⟩) ∧ wr.heap.size ≤ gx ∧ Blk wx gx 35 #[.int .i64 zl, .int .i64 zh] ∧ IbAt wx gi (bs.set d true) ∧ Blk wx gh 35 #[.int .i64 lo, .int .i64 hi] ∧ Below w20.heap.size w20 wx)
            case first =>
              have hset := HIB.out.set d true (by rw [HBL.out]; exact hdq)
              have hfar := Blk.far HBH.out (p := ⟨gi, d, none⟩) (by simp only; omega) (.bool true)
              have HSET := Lib.hid hset; have HFAR := Lib.hid hfar; clear hset hfar
              go_wp2_with fail
              go_meet
              exact ⟨wr.heap.size, (by first | rfl | simp [World.setCell]), Nat.le_refl _, (by first | exact Blk.newE (by simp [World.setCell]) | exact setAll_blk [.int .i64 zl, .int .i64 zh] 0 _ #[.int .i64 0, .int .i64 0] (Blk.newE (by simp [World.setCell]))), IbAt.below HSET.out (by (repeat' (first | (with_reducible exact Below.refl _ _) | (with_reducible refine Below.setCell ?_ ?_ _) | (with_reducible refine Below.alloc ?_ ?_ _) | (with_reducible refine Below.drew ?_) | (with_reducible refine below_drewN ?_ _))) <;> (first | omega | (simp <;> omega))), Blk.below HFAR.out (by (repeat' (first | (with_reducible exact Below.refl _ _) | (with_reducible refine Below.setCell ?_ ?_ _) | (with_reducible refine Below.alloc ?_ ?_ _) | (with_reducible refine Below.drew ?_) | (with_reducible refine below_drewN ?_ _))) <;> (first | omega | (simp <;> omega))), (by (repeat' (first | (with_reducible exact HKR.out) | (with_reducible refine Below.setCell ?_ ?_ _) | (with_reducible refine Below.alloc ?_ ?_ _) | (with_reducible refine Below.drew ?_) | (with_reducible refine below_drewN ?_ _))) <;> (first | omega | (simp <;> omega)))⟩
            case rest =>
              obtain ⟨gx, rfl, hgx, hbx, hib2, hbh2, KX⟩ := hcut
              clear x1 x2 x3 y0 y1 y2 y3 i1 i2 i3
              obtain ⟨x1, x2, x3, y0, y1, y2, y3⟩ := E.out _ KX
              have ZX := KX.size
              have lgx := hbx.lt; have lgh2 := hbh2.lt
              have hall2 : ∀ j, j < p + 1 → (bs.set d true).getD (dl.getD j 0).toNat true = true := fun j hj => by
                rw [getD_set _ _ _ _ _ (by rw [HBL.out]; exact hdq)]
                by_cases hne : d = (dl.getD j 0).toNat
                · rw [if_pos hne]
                · rw [if_neg hne]
                  refine HALL.out j ?_
                  rcases Nat.lt_or_ge j p with h | h
                  · exact h
                  · obtain rfl : j = p := by omega
                    rw [HDD.out, Int.toNat_natCast] at hne
                    exact absurd rfl hne
              have hbl2 : (bs.set d true).length = q := by rw [List.length_set]; exact HBL.out
              have hb9 : 0 ≤ bad ∧ bad ≤ 9 := by
                have h1 := HIN.out.2.1; have h2 := HIN.out.2.2.1
                rw [chS_len, List.length_take] at h2; omega
              have HALL2 := Lib.hid hall2; have HBL2 := Lib.hid hbl2
              have HBX := Lib.hid hbx; have HIB2 := Lib.hid hib2; have HBH2 := Lib.hid hbh2; have HKX := Lib.hid KX
              clear hall2 hbl2 hbx hib2 hbh2 KX HIB HBH HKR HALL
              cases l with
              | true =>
                have wb : IntKind.i64.wrap (bad + 1) = bad + 1 := IntWalk.i64_in _ (by omega)
                go_wp2
                go_roundg (kk - (p + 1))
                case measure => omega
                case rel => exact ⟨p + 1, bad + 1, first, lo, hi, bs.set d true, by omega, by omega, by go_num, rfl, rfl, HBH2.out, HIB2.out, HBL2.out, HALL2.out, by rw [HST.out]; exact HIN.out.lie (zl, zh), HKX.out⟩
              | false =>
                have hz4 := HS4.out rfl
                cases first with
                | true =>
                  obtain ⟨cx, fx, -, -, -⟩ := Blk.facts HBX.out
                  obtain ⟨ch, fh, -, -, -⟩ := Blk.facts HBH2.out
                  go_wp2
                  go_roundg (kk - (p + 1))
                  case measure => omega
                  case rel => exact ⟨p + 1, bad, false, zl, zh, bs.set d true, by omega, by omega, by go_num, rfl, rfl, setAll_blk [.int .i64 zl, .int .i64 zh] 0 _ #[.int .i64 lo, .int .i64 hi] HBH2.out, IbAt.far (IbAt.far HIB2.out (by simp only; omega) _) (by simp only; omega) _, HBL2.out, HALL2.out, by rw [HST.out]; exact HIN.out.one (zl, zh) hz4 ⟨hs1, hs3⟩, (by (repeat' (first | (with_reducible exact HKX.out) | (with_reducible refine Below.setCell ?_ ?_ _) | (with_reducible refine Below.alloc ?_ ?_ _) | (with_reducible refine Below.drew ?_) | (with_reducible refine below_drewN ?_ _))) <;> (first | omega | (simp <;> omega)))⟩
                | false =>
                  go_wp2_with fail
                  obtain ⟨w23, rfl⟩ : ∃ x : World, x = wc := ⟨_, rfl⟩
                  refine' wp_region_calm (by kernel_rfl) (fun n _ w' => Below w20.heap.size w20 w' ∧ IbAt w' gi (bs.set d true) ∧ Blk w' gx 35 #[.int .i64 zl, .int .i64 zh] ∧ (n = 0 → Blk w' gh 35 #[.int .i64 lo, .int .i64 hi]) ∧ (n = 1 → Blk w' gh 35 #[.int .i64 (min lo zl), .int .i64 hi]) ∧ (n = 2 → Blk w' gh 35 #[.int .i64 (min lo zl), .int .i64 (max hi zh)])) (fun _ _ => True) [(Is _), (Is _), (Is _), (Is _), (Is _), (Is _), (Is _), (Is _), (Is _), (Is _), (Is _), (fun _ _ _ => True), (Is _), (fun _ _ _ => True)] [[], [0], [], [2], [1, 3], [], [5], [], [7], [6, 8], [], [10, 4], [], [12, 9]] [11, 13] [] rfl (by kernel_rfl) (fun u => by (simp only [calmPut, Act.put, List.setIfInBounds_toArray, List.set_cons_zero, List.set_cons_succ, Nat.zero_add, Nat.reduceAdd]; rfl)) ?_ (calmKeep_cons keep_is' (calmKeep_cons keep_is' (calmKeep_cons keep_is' (calmKeep_cons keep_is' (calmKeep_cons keep_is' (calmKeep_cons keep_is' (calmKeep_cons keep_is' (calmKeep_cons keep_is' (calmKeep_cons keep_is' (calmKeep_cons keep_is' (calmKeep_cons keep_is' (calmKeep_cons keep_triv (calmKeep_cons keep_is' (calmKeep_cons keep_triv (calmKeep_nil))))))))))))))) ?_ ?_
                  · intro _
                    exact ⟨(by first | exact HKX.out | exact HKX.out.drew), IbAt.below HIB2.out (by (repeat' (first | (with_reducible exact Below.refl _ _) | (with_reducible refine Below.setCell ?_ ?_ _) | (with_reducible refine Below.alloc ?_ ?_ _) | (with_reducible refine Below.drew ?_) | (with_reducible refine below_drewN ?_ _))) <;> (first | omega | (simp <;> omega))), Blk.below HBX.out (by (repeat' (first | (with_reducible exact Below.refl _ _) | (with_reducible refine Below.setCell ?_ ?_ _) | (with_reducible refine Below.alloc ?_ ?_ _) | (with_reducible refine Below.drew ?_) | (with_reducible refine below_drewN ?_ _))) <;> (first | omega | (simp <;> omega))), (fun _ => Blk.below HBH2.out (by (repeat' (first | (with_reducible exact Below.refl _ _) | (with_reducible refine Below.setCell ?_ ?_ _) | (with_reducible refine Below.alloc ?_ ?_ _) | (with_reducible refine Below.drew ?_) | (with_reducible refine below_drewN ?_ _))) <;> (first | omega | (simp <;> omega)))), (fun h => absurd h (by decide)), (fun h => absurd h (by decide))⟩
                  rotate_left 12
                  · skip
                    refine calmSteps_cons (fun u wq n hn hn2 hC hk K hK => ?_) ?_
                    · obtain ⟨hP, hI, hX, h0, h1, h2⟩ := hC
                      clear hk
                      go_simp
                      exact hK _ _ _ rfl ⟨hP, hI, hX, h0, h1, h2⟩ trivial rfl
                    refine calmSteps_cons (fun u wq n hn hn2 hC hk K hK => ?_) ?_
                    · obtain ⟨hP, hI, hX, h0, h1, h2⟩ := hC
                      simp only [calmKnown, List.getElem?_cons_zero, List.getElem?_cons_succ, and_true, Is, Pure, Option.some.injEq, List.getD_cons_zero, List.getD_cons_succ, List.map_cons, List.map_nil] at hk
                      have h0 := hk; clear hk
                      simp only [h0] at hK ⊢
                      have H0 := Lib.hid h0; clear h0
                      have hn0 : n = 0 := Nat.le_zero.1 (hn2 0 11 rfl (by kernel_rfl))
                      have hH := h0 hn0
                      have cH := hH.cell; have lH := hH.lt
                      go_simp
                      exact hK _ _ _ rfl ⟨hP, hI, hX, h0, h1, h2⟩ trivial rfl
                    refine calmSteps_cons (fun u wq n hn hn2 hC hk K hK => ?_) ?_
                    · obtain ⟨hP, hI, hX, h0, h1, h2⟩ := hC
                      clear hk
                      go_simp
                      exact hK _ _ _ rfl ⟨hP, hI, hX, h0, h1, h2⟩ trivial rfl
                    refine calmSteps_cons (fun u wq n hn hn2 hC hk K hK => ?_) ?_
                    · obtain ⟨hP, hI, hX, h0, h1, h2⟩ := hC
                      simp only [calmKnown, List.getElem?_cons_zero, List.getElem?_cons_succ, and_true, Is, Pure, Option.some.injEq, List.getD_cons_zero, List.getD_cons_succ, List.map_cons, List.map_nil] at hk
                      have h2 := hk; clear hk
                      simp only [h2] at hK ⊢
                      have H2 := Lib.hid h2; clear h2
                      have cX := hX.cell; have lX := hX.lt
                      go_simp
                      exact hK _ _ _ rfl ⟨hP, hI, hX, h0, h1, h2⟩ trivial rfl
                    refine calmSteps_cons (fun u wq n hn hn2 hC hk K hK => ?_) ?_
                    · obtain ⟨hP, hI, hX, h0, h1, h2⟩ := hC
                      simp only [calmKnown, List.getElem?_cons_zero, List.getElem?_cons_succ, and_true, Is, Pure, Option.some.injEq, List.getD_cons_zero, List.getD_cons_succ, List.map_cons, List.map_nil] at hk
                      obtain ⟨h1, h3⟩ := hk
                      simp only [h1, h3] at hK ⊢
                      have H1 := Lib.hid h1; clear h1; have H3 := Lib.hid h3; clear h3
                      go_simp
                      exact hK _ _ _ rfl ⟨hP, hI, hX, h0, h1, h2⟩ trivial rfl
                    refine calmSteps_cons (fun u wq n hn hn2 hC hk K hK => ?_) ?_
                    · obtain ⟨hP, hI, hX, h0, h1, h2⟩ := hC
                      clear hk
                      go_simp
                      exact hK _ _ _ rfl ⟨hP, hI, hX, h0, h1, h2⟩ trivial rfl
                    refine calmSteps_cons (fun u wq n hn hn2 hC hk K hK => ?_) ?_
                    · obtain ⟨hP, hI, hX, h0, h1, h2⟩ := hC
                      simp only [calmKnown, List.getElem?_cons_zero, List.getElem?_cons_succ, and_true, Is, Pure, Option.some.injEq, List.getD_cons_zero, List.getD_cons_succ, List.map_cons, List.map_nil] at hk
                      have h5 := hk; clear hk
                      simp only [h5] at hK ⊢
                      have H5 := Lib.hid h5; clear h5
                      have hn1 : n ≤ 1 := hn2 1 13 rfl (by kernel_rfl)
                      have cH : gh < wq.heap.size ∧ wq.cell? ⟨gh, 1, none⟩ = some (.int .i64 hi) := by
                        obtain rfl | rfl : n = 0 ∨ n = 1 := by omega
                        · exact ⟨(h0 rfl).lt, (h0 rfl).cell 1⟩
                        · exact ⟨(h1 rfl).lt, (h1 rfl).cell 1⟩
                      obtain ⟨lH, cH⟩ := cH
                      go_simp
                      exact hK _ _ _ rfl ⟨hP, hI, hX, h0, h1, h2⟩ trivial rfl
                    refine calmSteps_cons (fun u wq n hn hn2 hC hk K hK => ?_) ?_
                    · obtain ⟨hP, hI, hX, h0, h1, h2⟩ := hC
                      clear hk
                      go_simp
                      exact hK _ _ _ rfl ⟨hP, hI, hX, h0, h1, h2⟩ trivial rfl
                    refine calmSteps_cons (fun u wq n hn hn2 hC hk K hK => ?_) ?_
                    · obtain ⟨hP, hI, hX, h0, h1, h2⟩ := hC
                      simp only [calmKnown, List.getElem?_cons_zero, List.getElem?_cons_succ, and_true, Is, Pure, Option.some.injEq, List.getD_cons_zero, List.getD_cons_succ, List.map_cons, List.map_nil] at hk
                      have h7 := hk; clear hk
                      simp only [h7] at hK ⊢
                      have H7 := Lib.hid h7; clear h7
                      have cX := hX.cell; have lX := hX.lt
                      go_simp
                      exact hK _ _ _ rfl ⟨hP, hI, hX, h0, h1, h2⟩ trivial rfl
                    refine calmSteps_cons (fun u wq n hn hn2 hC hk K hK => ?_) ?_
                    · obtain ⟨hP, hI, hX, h0, h1, h2⟩ := hC
                      simp only [calmKnown, List.getElem?_cons_zero, List.getElem?_cons_succ, and_true, Is, Pure, Option.some.injEq, List.getD_cons_zero, List.getD_cons_succ, List.map_cons, List.map_nil] at hk
                      obtain ⟨h6, h8⟩ := hk
                      simp only [h6, h8] at hK ⊢
                      have H6 := Lib.hid h6; clear h6; have H8 := Lib.hid h8; clear h8
                      go_simp
                      exact hK _ _ _ rfl ⟨hP, hI, hX, h0, h1, h2⟩ trivial rfl
                    refine calmSteps_cons (fun u wq n hn hn2 hC hk K hK => ?_) ?_
                    · obtain ⟨hP, hI, hX, h0, h1, h2⟩ := hC
                      clear hk
                      go_simp
                      exact hK _ _ _ rfl ⟨hP, hI, hX, h0, h1, h2⟩ trivial rfl
                    refine calmSteps_cons (fun u wq n hn hn2 hC hk K hK => ?_) ?_
                    · obtain ⟨hP, hI, hX, h0, h1, h2⟩ := hC
                      simp only [calmKnown, List.getElem?_cons_zero, List.getElem?_cons_succ, and_true, Is, Pure, Option.some.injEq, List.getD_cons_zero, List.getD_cons_succ, List.map_cons, List.map_nil] at hk
                      obtain ⟨h10, h4⟩ := hk
                      simp only [h10, h4] at hK ⊢
                      have H10 := Lib.hid h10; clear h10; have H4 := Lib.hid h4; clear h4
                      obtain rfl := hn 0 rfl
                      have hH := h0 rfl
                      clear h0 h1 h2
                      have cH := hH.cell; have lH := hH.lt; have fH := hH.frozen
                      have hH2 := hH.set_ 0 (.int .i64 (min lo zl))
                      simp only [List.setIfInBounds_toArray, List.set_cons_zero, List.set_cons_succ] at hH2
                      have hI2 := IbAt.far hI (p := ⟨gh, 0, none⟩) (by simp only; omega) (.int .i64 (min lo zl))
                      have hX2 := Blk.far hX (p := ⟨gh, 0, none⟩) (by simp only; omega) (.int .i64 (min lo zl))
                      go_simp
                      exact hK _ undef _ rfl ⟨hP.setCell hgh _, hI2, hX2, (fun h => absurd h (by decide)), (fun _ => hH2), (fun h => absurd h (by decide))⟩ trivial trivial
                    refine calmSteps_cons (fun u wq n hn hn2 hC hk K hK => ?_) ?_
                    · obtain ⟨hP, hI, hX, h0, h1, h2⟩ := hC
                      clear hk
                      go_simp
                      exact hK _ _ _ rfl ⟨hP, hI, hX, h0, h1, h2⟩ trivial rfl
                    refine calmSteps_cons (fun u wq n hn hn2 hC hk K hK => ?_) ?_
                    · obtain ⟨hP, hI, hX, h0, h1, h2⟩ := hC
                      simp only [calmKnown, List.getElem?_cons_zero, List.getElem?_cons_succ, and_true, Is, Pure, Option.some.injEq, List.getD_cons_zero, List.getD_cons_succ, List.map_cons, List.map_nil] at hk
                      obtain ⟨h12, h9⟩ := hk
                      simp only [h12, h9] at hK ⊢
                      have H12 := Lib.hid h12; clear h12; have H9 := Lib.hid h9; clear h9
                      obtain rfl := hn 1 rfl
                      have hH := h1 rfl
                      clear h0 h1 h2
                      have cH := hH.cell; have lH := hH.lt; have fH := hH.frozen
                      have hH2 := hH.set_ 1 (.int .i64 (max hi zh))
                      simp only [List.setIfInBounds_toArray, List.set_cons_zero, List.set_cons_succ] at hH2
                      have hI2 := IbAt.far hI (p := ⟨gh, 1, none⟩) (by simp only; omega) (.int .i64 (max hi zh))
                      have hX2 := Blk.far hX (p := ⟨gh, 1, none⟩) (by simp only; omega) (.int .i64 (max hi zh))
                      go_simp
                      exact hK _ undef _ rfl ⟨hP.setCell hgh _, hI2, hX2, (fun h => absurd h (by decide)), (fun h => absurd h (by decide)), (fun _ => hH2)⟩ trivial trivial
                    exact calmSteps_nil
                  · intro u w24 hC hF
                    obtain ⟨hP, hI, hX, -, -, h2⟩ := hC
                    have H24 := Lib.hid (And.intro hP (And.intro hI (h2 rfl)))
                    clear hF h2 hP hI hX
                    go_wp2
                    go_roundg (kk - (p + 1))
                    case measure => omega
                    case rel => exact ⟨p + 1, bad, false, min lo zl, max hi zh, bs.set d true, by omega, by omega, by go_num, rfl, rfl, H24.out.2.2, H24.out.2.1, HBL2.out, HALL2.out, by rw [HST.out]; exact HIN.out.more (zl, zh) hz4 ⟨hs1, hs3⟩, H24.out.1⟩
          · obtain rfl : p = kk := by omega
            have gp : decide ((p : Int) < (p : Int)) = false := decide_eq_false (by omega)
            have htk : dl.take p = dl := List.take_of_length_le (by rw [HDLL.out]; exact Nat.le_refl _)
            rw [htk] at HIN
            have lgi := (HIB.out.cells 0 (by rw [HBL.out]; omega)).1
            clear htk hbh hib hall hin hbl KR
            obtain ⟨w25, rfl⟩ : ∃ x : World, x = wr := ⟨_, rfl⟩
            replace HK := Lib.hid (HK.out.below HKR.out)
            replace HS := Lib.hid (HS.out.below HKR.out); replace HN1 := Lib.hid (HN1.out.below HKR.out); replace HN2 := Lib.hid (HN2.out.below HKR.out); replace HSB2 := Lib.hid (HSB2.out.below HKR.out)
            replace HBA := Lib.hid (Blk.below HBA.out HKR.out)
            clear HL
            by_cases hbf : f < bad
            · have gb : decide (f < bad) = true := decide_eq_true hbf
              go_wp2_with fail
              refine (known36_any _).mono ?_
              rintro e w61 ⟨rfl, hb61⟩
              have S61 : Below w25.heap.size w25 w61 := kept_call hb61 (by (repeat' (first | (with_reducible exact Below.refl _ _) | (with_reducible refine Below.setCell ?_ ?_ _) | (with_reducible refine Below.alloc ?_ ?_ _) | (with_reducible refine Below.drew ?_) | (with_reducible refine below_drewN ?_ _))) <;> (first | omega | (simp <;> omega)))
              have Z61 := S61.size
              replace HK := Lib.hid (HK.out.below S61)
              replace HS := Lib.hid (HS.out.below S61)
              replace HN1 := Lib.hid (HN1.out.below S61)
              replace HN2 := Lib.hid (HN2.out.below S61)
              replace HSB2 := Lib.hid (HSB2.out.below S61)
              replace HBA := Lib.hid (HBA.out.below S61)
              replace HBH := Lib.hid (HBH.out.below S61)
              replace HIB := Lib.hid (HIB.out.below S61)
              clear hb61 S61
              go_wp2
              go_ret
              exact ⟨rfl, HK.out.below (by (repeat' (first | (with_reducible exact Below.refl _ _) | (with_reducible refine Below.setCell ?_ ?_ _) | (with_reducible refine Below.alloc ?_ ?_ _) | (with_reducible refine Below.drew ?_) | (with_reducible refine below_drewN ?_ _))) <;> (first | omega | (simp <;> omega)))⟩
            · have gb : decide (f < bad) = false := decide_eq_false hbf
              obtain ⟨bl, off, rfl, lbl, hcs⟩ := HS.out.2.2 (by omega)
              have hcsA := cellsS_at (zs := ss) (w := w25) (bl := bl) (off := off) (fun j hj => hcs j (by rw [HSL.out] at hj; exact hj))
              have HCS := Lib.hid hcsA; clear hcs hcsA
              obtain ⟨i0, hif, hz0, hz1, hz2⟩ := info_parts infoSpan
              go_wp2_with (at_builtin; refine wpList_append_lies _ rfl _ _ 43 rfl w25.heap.size 35 i0 (.agg #[.int .i64 0, .int .i64 0]) 2 16 Try.underlying43 hif hz0 hz1 hz2 rfl (by decide) (.slice none 0 0) 0 [] rfl (World.ownsRow_nil _ _ _ _) ⟨bl, off, none⟩ q c1 (cellsS ss) rfl (by rw [cellsS_length, HSL.out]) HCS.out cellsS_one (by omega) (by unfold maxLen; omega) (by omega) (Nat.le_refl _) _ rfl ?_)
              intro g9 cp9 w26 hown hgrow hlie hglt
              have K26 : Below w25.heap.size w25 w26 := (Below.refl _ _).grown hgrow (Nat.le_refl _) (fun k hk => by simp [Value.ownBlock] at hk)
              have hrow : RowS w26 w25.heap.size (.slice (some ⟨g9, 0, none⟩) ss.length cp9) ss := by
                unfold RowS
                rw [HSL.out]; simpa using hown
              obtain ⟨gz, ez, hg9, lg9, hos⟩ := os_of_row hrow (by rw [HSL.out]; omega)
              obtain rfl : g9 = gz := by simpa using ez
              have HOS := Lib.hid hos; have Z26 := K26.size
              clear hown hgrow hlie hglt hrow ez hos
              have HK26 := Lib.hid K26; clear K26
              try simp only [Nat.zero_add]
              go_wp2
              go_loopg [29] q (fun G i wr => OrRel w25 g9 gi q bs ss i G wr)
              case atStart => exact ⟨0, ss, by omega, by omega, rfl, HOS.out, HSL.out, fun j _ _ => rfl, HK26.out⟩
              case round =>
                obtain ⟨p2, os, hp2, rfl, rfl, hos, hol, hoe, KR⟩ := hrel
                have ZR2 := KR.size
                clear HOS HK26
                have HOS := Lib.hid hos; have HKR2 := Lib.hid KR; have HOL := Lib.hid hol; have HOE := Lib.hid hoe
                have HIBr := Lib.hid (IbAt.below HIB.out KR)
                clear hos hol hoe KR
                by_cases hlt2 : p2 < q
                · have gq2 : decide ((p2 : Int) < (q : Int)) = true := decide_eq_true (by omega)
                  have gq2n : decide (p2 < q) = true := decide_eq_true hlt2
                  have wp2 : IntKind.i64.wrap ((p2 : Int) + 1) = ((p2 + 1 : Nat) : Int) := by rw [IntWalk.i64_in _ (by omega)]; omega
                  obtain ⟨i1, i2, -⟩ := HIBr.out.cells p2 (by rw [HBL.out]; exact hlt2)
                  obtain ⟨o1, o2, o3, o4⟩ := HOS.out.cells p2 (by rw [HOL.out]; exact hlt2)
                  obtain ⟨bv, hbv⟩ : ∃ bv, bs.getD p2 true = bv := ⟨_, rfl⟩
                  rw [hbv] at i2
                  have HBV := Lib.hid hbv; clear hbv
                  cases bv with
                  | true =>
                    go_wp2
                    go_roundg (q - (p2 + 1))
                    case measure => omega
                    case rel => exact ⟨p2 + 1, os, by omega, by omega, by go_num, HOS.out, HOL.out, HOE.out, HKR2.out⟩
                  | false =>
                    have hset := HOS.out.set p2 (-1000, -900) (by rw [HOL.out]; exact hlt2)
                    have hk2 : Below w25.heap.size w25 ((wr.setCell ⟨g9, p2 * 2, none⟩ (.int .i64 (-1000))).setCell ⟨g9, p2 * 2 + 1, none⟩ (.int .i64 (-900))) := (HKR2.out.setCell hg9 _).setCell hg9 _
                    have hoe2 : ∀ j, j < q → bs.getD j true = true → (os.set p2 (-1000, -900)).getD j (0, 0) = ss.getD j (0, 0) := fun j hj hb => by
                      rw [getD_set _ _ _ _ _ (by rw [HOL.out]; exact hlt2)]
                      split
                      · rename_i e; subst e; rw [HBV.out] at hb; exact absurd hb (by decide)
                      · exact HOE.out j hj hb
                    have HSET := Lib.hid hset; have HK2 := Lib.hid hk2; have HOE2 := Lib.hid hoe2; clear hset hk2 hoe2
                    go_wp2
                    go_roundg (q - (p2 + 1))
                    case measure => omega
                    case rel => exact ⟨p2 + 1, os.set p2 (-1000, -900), by omega, by omega, by go_num, HSET.out, by rw [List.length_set]; exact HOL.out, HOE2.out, HK2.out⟩
                · obtain rfl : p2 = q := by omega
                  have gq2 : decide ((p2 : Int) < (p2 : Int)) = false := decide_eq_false (by omega)
                  have hosp := HOS.out.spans (by rw [HOL.out]; omega)
                  rw [HOL.out] at hosp
                  have hch : chS os dl = chS ss dl := by
                    unfold chS
                    refine List.map_congr_left (fun i hi => ?_)
                    obtain ⟨j, hj, rfl⟩ := List.getElem_of_mem hi
                    have h1 := HRNG.out j (by rw [HDLL.out] at hj; exact hj)
                    have h2 := HALL.out j (by rw [HDLL.out] at hj; exact hj)
                    have e : dl.getD j 0 = dl[j] := by rw [List.getD_eq_getElem?_getD, List.getElem?_eq_getElem hj]; rfl
                    rw [e] at h1 h2
                    exact HOE.out _ (by omega) h2
                  have HO := Lib.hid hosp; have HCH := Lib.hid hch
                  replace HK := Lib.hid (HK.out.below HKR2.out)
                  replace HN1 := Lib.hid (HN1.out.below HKR2.out); replace HN2 := Lib.hid (HN2.out.below HKR2.out); replace HSB2 := Lib.hid (HSB2.out.below HKR2.out)
                  replace HBA := Lib.hid (Blk.below HBA.out HKR2.out); replace HBH := Lib.hid (Blk.below HBH.out HKR2.out)
                  clear hosp hch HOS HIBr HIB HS
                  go_wp2_with fail
                  refine (iest_any (some ⟨g9, 0, none⟩) p2 cp9 os (some ⟨g1, 0, none⟩) 32 c9 (randS v) p f (by rw [HOL.out]; omega) (by omega) _ (HO.out.below (by (repeat' (first | (with_reducible exact Below.refl _ _) | (with_reducible refine Below.setCell ?_ ?_ _) | (with_reducible refine Below.alloc ?_ ?_ _) | (with_reducible refine Below.drew ?_) | (with_reducible refine below_drewN ?_ _))) <;> (first | omega | (simp <;> omega)))) (HSB2.out.below (by (repeat' (first | (with_reducible exact Below.refl _ _) | (with_reducible refine Below.setCell ?_ ?_ _) | (with_reducible refine Below.alloc ?_ ?_ _) | (with_reducible refine Below.drew ?_) | (with_reducible refine below_drewN ?_ _))) <;> (first | omega | (simp <;> omega))))).mono ?_
                  rintro e w71 ⟨x2, y2, er2, ns2, A6, c6, rfl, hex2, -, hb71⟩
                  have S71 : Below wr.heap.size wr w71 := kept_call hb71 (by (repeat' (first | (with_reducible exact Below.refl _ _) | (with_reducible refine Below.setCell ?_ ?_ _) | (with_reducible refine Below.alloc ?_ ?_ _) | (with_reducible refine Below.drew ?_) | (with_reducible refine below_drewN ?_ _))) <;> (first | omega | (simp <;> omega)))
                  have Z71 := S71.size
                  replace HK := Lib.hid (HK.out.below S71)
                  replace HN1 := Lib.hid (HN1.out.below S71)
                  replace HN2 := Lib.hid (HN2.out.below S71)
                  replace HSB2 := Lib.hid (HSB2.out.below S71)
                  replace HBA := Lib.hid (HBA.out.below S71)
                  replace HBH := Lib.hid (HBH.out.below S71)
                  replace HO := Lib.hid (HO.out.below S71)
                  clear hb71 S71
                  have hE0 : drE (randS v).length (ss.length : Int) (p : Int) = 0 := by rw [HSL.out]; exact HE.out
                  have hD0 : drL (randS v) (ss.length : Int) (p : Int) = dl := by rw [HSL.out]; exact HDL.out
                  have hx2 := EstX.same (ss := ss) (by rw [HOL.out, HSL.out]) (by rw [hD0]; exact HCH.out) hex2
                  obtain ⟨rfl, rfl, rfl, rfl⟩ := EstX_uniq HEX.out hx2
                  have hck := SpanB.ck HSB.out dl (by rw [HDLL.out]; omega) (fun j hj => by rw [HSL.out]; exact HRNG.out j (by rw [HDLL.out] at hj; exact hj))
                  have hfin : er = 0 ∧ ns = dl ∧ x ≤ tr ∧ tr ≤ y ∧ first = false ∧ lo ≤ x ∧ y ≤ hi ∧ vS x y = true := by
                    have hX := HEX.out
                    unfold EstX at hX
                    rw [hE0, hD0] at hX
                    rcases hX with ⟨h, -⟩ | ⟨-, x', y', e', hA, h⟩
                    · exact absurd rfl h
                    · obtain ⟨r1, r2, r3, r4, r5, r6, r7⟩ := HIN.out.law (by omega) (by rw [chS_len, HDLL.out]; exact hfk) hck hA
                      rcases h with ⟨h, -⟩ | ⟨-, rfl, rfl, rfl, rfl⟩
                      · exact absurd r1 h
                      · exact ⟨rfl, rfl, r2, r3, r4, r5, r6, r7⟩
                  obtain ⟨rfl, rfl, f1', f2', rfl, f3', f4', f5'⟩ := hfin
                  have hb5 := HIN.out.2.2.2.2 rfl
                  have hv2 : vS lo hi = true := vS_true.2 (by omega)
                  have hhd : hdB x y tr = true := by simp [hdB, f5', f1', f2']
                  have hin' : insB x y lo hi = true := by simp [insB, f5', hv2, f3', f4']
                  have RHD := Lib.hid (fun W => hhd ▸ rholds_all x y tr W)
                  have RIN := Lib.hid (fun W => hin' ▸ rinside_all x y lo hi W)
                  have hnl := HDLL.out
                  clear hx2 hex2 hck hb5 hv2 hhd hin' hE0 hD0
                  go_wp2_with fail
                  refine (known36_any _).mono ?_
                  rintro e w72 ⟨rfl, hb72⟩
                  have S72 : Below w71.heap.size w71 w72 := kept_call hb72 (by (repeat' (first | (with_reducible exact Below.refl _ _) | (with_reducible refine Below.setCell ?_ ?_ _) | (with_reducible refine Below.alloc ?_ ?_ _) | (with_reducible refine Below.drew ?_) | (with_reducible refine below_drewN ?_ _))) <;> (first | omega | (simp <;> omega)))
                  have Z72 := S72.size
                  have HBB := Lib.hid (show Blk w72 w71.heap.size 35 #[.int .i64 x, .int .i64 y] from Blk.below (by first | exact Blk.new _ _ _ | exact setAll_blk [.int .i64 x, .int .i64 y] 0 _ #[.int .i64 0, .int .i64 0] (Blk.new _ _ _)) hb72)
                  replace HK := Lib.hid (HK.out.below S72)
                  replace HN1 := Lib.hid (HN1.out.below S72)
                  replace HN2 := Lib.hid (HN2.out.below S72)
                  replace HSB2 := Lib.hid (HSB2.out.below S72)
                  replace HBA := Lib.hid (HBA.out.below S72)
                  replace HBH := Lib.hid (HBH.out.below S72)
                  replace HO := Lib.hid (HO.out.below S72)
                  clear hb72 S72
                  (try rw [hnl])
                  clear hnl
                  obtain ⟨ca, fa, la, ea, ka⟩ := Blk.facts HBA.out
                  obtain ⟨cb, fb, lb, eb, kb⟩ := Blk.facts HBB.out
                  go_wp2_with fail
                  refine (nsame_yes _ _ _ _ ns (by rw [HDLL.out]; omega) p HDLL.out _ (HN1.out.below (by (repeat' (first | (with_reducible exact Below.refl _ _) | (with_reducible refine Below.setCell ?_ ?_ _) | (with_reducible refine Below.alloc ?_ ?_ _) | (with_reducible refine Below.drew ?_) | (with_reducible refine below_drewN ?_ _))) <;> (first | omega | (simp <;> omega)))) (HN2.out.below (by (repeat' (first | (with_reducible exact Below.refl _ _) | (with_reducible refine Below.setCell ?_ ?_ _) | (with_reducible refine Below.alloc ?_ ?_ _) | (with_reducible refine Below.drew ?_) | (with_reducible refine below_drewN ?_ _))) <;> (first | omega | (simp <;> omega))))).mono ?_
                  rintro e w73 ⟨rfl, hb73⟩
                  have S73 : Below w72.heap.size w72 w73 := kept_call hb73 (by (repeat' (first | (with_reducible exact Below.refl _ _) | (with_reducible refine Below.setCell ?_ ?_ _) | (with_reducible refine Below.alloc ?_ ?_ _) | (with_reducible refine Below.drew ?_) | (with_reducible refine below_drewN ?_ _))) <;> (first | omega | (simp <;> omega)))
                  have Z73 := S73.size
                  replace HK := Lib.hid (HK.out.below S73)
                  replace HN1 := Lib.hid (HN1.out.below S73)
                  replace HN2 := Lib.hid (HN2.out.below S73)
                  replace HSB2 := Lib.hid (HSB2.out.below S73)
                  replace HBA := Lib.hid (HBA.out.below S73)
                  replace HBH := Lib.hid (HBH.out.below S73)
                  replace HO := Lib.hid (HO.out.below S73)
                  replace HBB := Lib.hid (HBB.out.below S73)
                  clear hb73 S73
                  clear ca fa la ea ka cb fb lb eb kb
                  obtain ⟨ca, fa, la, ea, ka⟩ := Blk.facts HBA.out
                  go_wp2_with fail
                  refine (RHD.out _).mono ?_
                  rintro e w74 ⟨rfl, hb74⟩
                  have S74 : Below w73.heap.size w73 w74 := kept_call hb74 (by (repeat' (first | (with_reducible exact Below.refl _ _) | (with_reducible refine Below.setCell ?_ ?_ _) | (with_reducible refine Below.alloc ?_ ?_ _) | (with_reducible refine Below.drew ?_) | (with_reducible refine below_drewN ?_ _))) <;> (first | omega | (simp <;> omega)))
                  have Z74 := S74.size
                  replace HK := Lib.hid (HK.out.below S74)
                  replace HN1 := Lib.hid (HN1.out.below S74)
                  replace HN2 := Lib.hid (HN2.out.below S74)
                  replace HSB2 := Lib.hid (HSB2.out.below S74)
                  replace HBA := Lib.hid (HBA.out.below S74)
                  replace HBH := Lib.hid (HBH.out.below S74)
                  replace HO := Lib.hid (HO.out.below S74)
                  replace HBB := Lib.hid (HBB.out.below S74)
                  clear hb74 S74
                  clear ca fa la ea ka
                  obtain ⟨ca, fa, la, ea, ka⟩ := Blk.facts HBA.out
                  obtain ⟨ch, fh, lh, eh, kh⟩ := Blk.facts HBH.out
                  go_wp2_with fail
                  refine (RIN.out _).mono ?_
                  rintro e w75 ⟨rfl, hb75⟩
                  have S75 : Below w74.heap.size w74 w75 := kept_call hb75 (by (repeat' (first | (with_reducible exact Below.refl _ _) | (with_reducible refine Below.setCell ?_ ?_ _) | (with_reducible refine Below.alloc ?_ ?_ _) | (with_reducible refine Below.drew ?_) | (with_reducible refine below_drewN ?_ _))) <;> (first | omega | (simp <;> omega)))
                  have Z75 := S75.size
                  replace HK := Lib.hid (HK.out.below S75)
                  replace HN1 := Lib.hid (HN1.out.below S75)
                  replace HN2 := Lib.hid (HN2.out.below S75)
                  replace HSB2 := Lib.hid (HSB2.out.below S75)
                  replace HBA := Lib.hid (HBA.out.below S75)
                  replace HBH := Lib.hid (HBH.out.below S75)
                  replace HO := Lib.hid (HO.out.below S75)
                  replace HBB := Lib.hid (HBB.out.below S75)
                  clear hb75 S75
                  go_wp2
                  go_ret
                  exact ⟨rfl, HK.out.below (by (repeat' (first | (with_reducible exact Below.refl _ _) | (with_reducible refine Below.setCell ?_ ?_ _) | (with_reducible refine Below.alloc ?_ ?_ _) | (with_reducible refine Below.drew ?_) | (with_reducible refine below_drewN ?_ _))) <;> (first | omega | (simp <;> omega)))⟩
theorem bounds_row (A : Option Addr) (len cap : Nat) (zs : List Int) {w : World} (k : IntsAt w A len zs) (v : Int) (hv : IntIn v) (tr : Int) (ht : IntIn tr) (W : World) (hw : W = w) :
    Walked 13 #[.slice A len cap, .int .i64 v, .int .i64 tr] W := by
  subst hw; exact bounds_walk A len cap zs v tr W k
end Go.Proofs.Ytlfkkfdolnkjfaa
