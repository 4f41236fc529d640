/- world.Leaps, world.NearLeap: the tables and the instants of the laws. -/
import Derived.Test.YtmebkbnildjfhaaLeapQ
import Derived.Test.YtmebkbnildjfhaaWorld
import Derived.Test.YtmebkbnildjfhaaKitT
import Derived.OwnWalk
import Derived.Deep.AppendLies
import Derived.Deep.LoopGhost
import Derived.Deep.RegionWith
namespace Go.Proofs.Ytmebkbnildjfhaa
open Go.RowKit
set_option linter.unusedSimpArgs false
set_option linter.unusedVariables false

def prC (zs : List (Int × Int)) : List Value := zs.flatMap fun z => [.int .i64 z.1, .int .i64 z.2]
theorem prC_length (zs : List (Int × Int)) : (prC zs).length = zs.length * 2 := by
  induction zs with
  | nil => rfl
  | cons z zs ih => simp only [prC, List.flatMap_cons, List.length_append, List.length_cons, List.length_nil] at *; omega
theorem prC_snoc (zs : List (Int × Int)) (z : Int × Int) : prC (zs ++ [z]) = prC zs ++ [.int .i64 z.1, .int .i64 z.2] := by simp [prC]
theorem prC_get (zs : List (Int × Int)) : ∀ j, j < zs.length → (prC zs)[j * 2]? = some (.int .i64 (zs.getD j (0, 0)).1) ∧ (prC zs)[j * 2 + 1]? = some (.int .i64 (zs.getD j (0, 0)).2) := by
  induction zs with
  | nil => intro j hj; simp at hj
  | cons z zs ih =>
    intro j hj
    cases j with
    | zero => simp [prC]
    | succ j =>
      have := ih j (by simpa using hj)
      have e : prC (z :: zs) = .int .i64 z.1 :: .int .i64 z.2 :: prC zs := by simp [prC]
      rw [e, show (j + 1) * 2 = j * 2 + 1 + 1 by omega]
      simpa using this
theorem pr_of_own {w : World} {base : Nat} {A : Option Addr} {cap : Nat} {zs : List (Int × Int)} (h : w.ownsRow base 67 2 (.slice A zs.length cap) zs.length (prC zs)) (hm : zs.length ≤ 9223372036854775807) : PrAt w A zs.length zs := by
  refine ⟨rfl, hm, fun hl => ?_⟩
  obtain ⟨g, c, e, _, hg⟩ := h.form hl
  cases e
  refine ⟨g, 0, rfl, hg, fun j hj => ?_⟩
  obtain ⟨h1, h2⟩ := prC_get zs j hj
  refine ⟨?_, ?_⟩
  · rw [Nat.zero_add, h.cellAt _ (by omega)]; exact h1
  · rw [Nat.zero_add, h.cellAt _ (by omega)]; exact h2
/-- A table that world.Leaps makes. -/
def wAt (ls : List (Int × Int)) : Int := if ls.length = 0 then 1728000 else (ls.getD (ls.length - 1) (0, 0)).1
def WTab (ls : List (Int × Int)) : Prop := LVal 10 ls ∧ ls.length ≤ 4 ∧ wAt ls % 86400 = 0 ∧ 1728000 ≤ wAt ls ∧ wAt ls ≤ 1728000 + 26006400 * ls.length ∧ ∀ z ∈ ls, 1900800 ≤ z.1 ∧ z.1 ≤ 105753600 ∧ -64 ≤ z.2 ∧ z.2 ≤ 164
theorem WTab.nil : WTab [] := ⟨⟨by omega, by omega, by simp, by simp⟩, by simp, by simp [wAt], by simp [wAt], by simp [wAt], by simp⟩
theorem getD_snoc_lt {ls : List (Int × Int)} {z : Int × Int} {i : Nat} (h : i < ls.length) : (ls ++ [z]).getD i (0, 0) = ls.getD i (0, 0) := by
  simp only [List.getD_eq_getElem?_getD, List.getElem?_append_left h]
theorem getD_snoc_eq (ls : List (Int × Int)) (z : Int × Int) : (ls ++ [z]).getD ls.length (0, 0) = z := by
  simp [List.getD_eq_getElem?_getD]
theorem oldL_snoc {f : Int} {ls : List (Int × Int)} {z : Int × Int} {i : Nat} (h : i ≤ ls.length) : oldL f (ls ++ [z]) i = oldL f ls i := by
  unfold oldL
  split
  · rfl
  · rw [getD_snoc_lt (by omega)]
theorem prevL_snoc {ls : List (Int × Int)} {z : Int × Int} {i : Nat} (h : i ≤ ls.length) : prevL (ls ++ [z]) i = prevL ls i := by
  unfold prevL
  split
  · rfl
  · rw [getD_snoc_lt (by omega)]
theorem WTab.snoc {ls : List (Int × Int)} (h : WTab ls) (hl : ls.length < 4) {m a o : Int} (m0 : 0 ≤ m) (m1 : m < 300) (ha : a = wAt ls + 86400 * (2 + m)) (ho : o = oldL 10 ls ls.length + 1 ∨ o = oldL 10 ls ls.length - 1) :
    WTab (ls ++ [(a, o)]) ∧ wAt (ls ++ [(a, o)]) = a ∧ oldL 10 (ls ++ [(a, o)]) (ls ++ [(a, o)]).length = o := by
  obtain ⟨hv, h4, hm, w0, w1, hz⟩ := h
  have hb := old_bound (first := 10) (zs := ls) (q := ls.length) (fun j hj => hv.2.2.2 j hj)
  have e1 : wAt (ls ++ [(a, o)]) = a := by
    unfold wAt
    rw [if_neg (by simp), List.length_append, List.length_singleton, Nat.add_sub_cancel, getD_snoc_eq]
  have e2 : oldL 10 (ls ++ [(a, o)]) (ls ++ [(a, o)]).length = o := by
    rw [List.length_append, List.length_singleton, oldL_succ, getD_snoc_eq]
  refine ⟨⟨⟨by omega, by omega, by simp; omega, fun i hi => ?_⟩, by simp; omega, by rw [e1]; omega, by rw [e1]; omega, by rw [e1, List.length_append, List.length_singleton]; omega, fun z hzz => ?_⟩, e1, e2⟩
  · rw [List.length_append, List.length_singleton] at hi
    by_cases e : i = ls.length
    · subst e
      unfold chkL
      rw [getD_snoc_eq, prevL_snoc (Nat.le_refl _), oldL_snoc (Nat.le_refl _)]
      have hp : prevL ls ls.length ≤ wAt ls := by
        unfold prevL wAt
        split <;> omega
      simp only
      omega
    · have := hv.2.2.2 i (by omega)
      unfold chkL at this ⊢
      rw [getD_snoc_lt (by omega), prevL_snoc (by omega), oldL_snoc (by omega)]
      exact this
  · rcases List.mem_append.1 hzz with hzz | hzz
    · exact hz z hzz
    · rw [List.mem_singleton.1 hzz]; simp only; omega
theorem WTab.in_ {ls : List (Int × Int)} (h : WTab ls) : ∀ z ∈ ls, IntIn z.1 ∧ IntIn z.2 := fun z hz => by
  have := h.2.2.2.2.2 z hz
  unfold IntIn; omega
theorem infoLS : (Try.prog.info? 67).map (fun i => (i.zero, i.size, i.bytes)) = some (some (.agg #[.int .i64 0, .int .i64 0]), 2, 16) := by kernel_rfl
theorem PrAt.setO {w : World} {A : Option Addr} {len : Nat} {zs : List (Int × Int)} (h : PrAt w A len zs) {p : Addr} (hp : ∀ b off, A = some ⟨b, off, none⟩ → b ≠ p.block) (v : Value) : PrAt (w.setCell p v) A len zs := by
  obtain ⟨h1, h2, h3⟩ := h
  refine ⟨h1, h2, fun hl => ?_⟩
  obtain ⟨b, off, rfl, hlt, hc⟩ := h3 hl
  have hne := hp b off rfl
  have e : ∀ o, (w.setCell p v).cell? ⟨b, o, none⟩ = w.cell? ⟨b, o, none⟩ := fun o => by
    have := Below.heap_setCell w p v b hne
    simp only [World.cell?, this]
  exact ⟨b, off, rfl, by simp; exact hlt, fun j hj => ⟨(e _).trans (hc j hj).1, (e _).trans (hc j hj).2⟩⟩
def LRel (w : World) (zs : List Int) (G : Nat) (a o i : Value) (wr : World) : Prop :=
  ∃ (q : Nat) (A : Option Addr) (cap : Nat) (ls : List (Int × Int)), q ≤ 4 ∧ G = 4 - q ∧ i = .int .i64 ((2 * q : Nat) : Int) ∧ a = .int .i64 (wAt ls) ∧ o = .int .i64 (oldL 10 ls q) ∧ ls.length = q ∧ WTab ls ∧
    wr.ownsRow (w.heap.size + 2) 67 2 (.slice A q cap) q (prC ls) ∧ Blk wr (w.heap.size + 1) 25 #[.int .i64 10, .slice A q cap] ∧ Blk wr w.heap.size 25 #[.int .i64 0, .slice none 0 0] ∧ Below w.heap.size w wr
def WLeaps (w : World) (e : Ending) (w' : World) : Prop := ∃ (A : Option Addr) (cap : Nat) (ls : List (Int × Int)), e = .returned (.agg #[.int .i64 10, .slice A ls.length cap]) ∧ WTab ls ∧ PrAt w' A ls.length ls ∧ Below w.heap.size w w'
set_option maxRecDepth 100000 in
set_option maxHeartbeats 2000000 in
theorem wleaps_any (A : Option Addr) (len cap : Nat) (zs : List Int) (w : World) (h : IntsAt w A len zs) :
    Calls Try.prog 12 #[.slice A len cap] w (WLeaps w) := by
  have hlm := h.2.1
  have H := Lib.hid h; clear h
  go_enter Try.func12, Try.ntmps12
  go_wp2
  go_loopg [4, 5, 6] 4 (fun G a o i wr => LRel w zs G a o i wr)
  case atStart => exact ⟨0, none, 0, [], by omega, by omega, rfl, rfl, rfl, rfl, WTab.nil, World.ownsRow_nil _ _ _ _, by (repeat' (first | ((with_reducible refine' Blk.newE ?_); first | rfl | (simp; done)) | (with_reducible refine' Blk.alloc ?_ _) | (with_reducible refine' Blk.drew ?_) | (with_reducible refine' Blk.drewN ?_ _) | (with_reducible refine' Blk.put ?_ ?_) | (with_reducible refine' Blk.far ?_ ?_ _) | exact rfl)) <;> (first | omega | (simp <;> omega)), by (repeat' (first | ((with_reducible refine' Blk.newE ?_); first | rfl | (simp; done)) | (with_reducible refine' Blk.alloc ?_ _) | (with_reducible refine' Blk.drew ?_) | (with_reducible refine' Blk.drewN ?_ _) | (with_reducible refine' Blk.put ?_ ?_) | (with_reducible refine' Blk.far ?_ ?_ _) | exact rfl)) <;> (first | omega | (simp <;> omega)), by (repeat' (first | (with_reducible exact Below.refl _ _) | (with_reducible refine Below.setCell ?_ ?_ _) | (with_reducible refine Below.alloc ?_ ?_ _) | (with_reducible refine Below.drew ?_) | (with_reducible refine below_drewN ?_ _))) <;> (first | omega | (simp <;> omega))⟩
  case round =>
    obtain ⟨q, A0, c0, ls, hq, rfl, rfl, rfl, rfl, hll, hT, hrow, bO, bR, KR⟩ := hrel
    have ZR := KR.size
    have HT := Lib.hid hT; clear hT
    obtain ⟨cO, fO, lO, eO, kO⟩ := Blk.facts bO
    obtain ⟨cR, fR, lR, eR, kR⟩ := Blk.facts bR
    obtain ⟨p, hp⟩ : ∃ p, 2 * q = p := ⟨_, rfl⟩
    rw [hp]
    have wp1 : IntKind.i64.wrap ((p : Int) + 1) = ((p + 1 : Nat) : Int) := by rw [IntWalk.i64_in _ (by omega)]; omega
    have wp2 : IntKind.i64.wrap ((p : Int) + 2) = ((p + 2 : Nat) : Int) := by rw [IntWalk.i64_in _ (by omega)]; omega
    by_cases hlt : p + 1 < len ∧ p < 8
    · have g1 : decide (((p + 1 : Nat) : Int) < (len : Int)) = true := decide_eq_true (by omega)
      have g2 : decide ((p : Int) < 8) = true := decide_eq_true (by omega)
      obtain ⟨bl, off, rfl, hb, hcs⟩ := H.out.2.2.2 (by omega)
      have e0 := hcs p (by omega)
      have e1 := hcs (p + 1) (by omega)
      clear hcs
      have e0 := (KR.cell (p := ⟨bl, off + p, none⟩) hb).trans e0
      have e1 := (KR.cell (p := ⟨bl, off + (p + 1), none⟩) hb).trans e1
      have gb : bl < wr.heap.size := by omega
      have m0 : 0 ≤ zs.getD p 0 % 300 ∧ zs.getD p 0 % 300 < 300 := by omega
      have wt := HT.out.2.2.2.1
      have wt1 := HT.out.2.2.2.2.1
      have wo := HT.out.1.off (i := q) (by omega)
      have sn1 := fun (o : Int) ho => HT.out.snoc (by omega) (m := zs.getD p 0 % 300) (o := o) (by omega) (by omega) rfl ho
      have SN := Lib.hid sn1; clear sn1
      have HLL := Lib.hid hll
      rw [hll] at wt1 SN
      clear hll
      have R1 := Lib.hid (fun W => wwithinW (zs.getD p 0) 300 W (by omega) (by omega))
      have R2 := Lib.hid (fun W => wwithinW (zs.getD (p + 1) 0) 3 W (by omega) (by omega))
      generalize zs.getD p 0 = x at *
      generalize zs.getD (p + 1) 0 = y at *
      generalize x % 300 = m at *
      generalize y % 3 = r at *
      obtain ⟨at1, hat⟩ : ∃ a, a = wAt ls + 86400 * (2 + m) := ⟨_, rfl⟩
      rw [← hat] at SN
      have v1 : IntKind.i64.wrap (2 + m) = 2 + m := IntWalk.i64_in _ (by omega)
      have v2 : IntKind.i64.wrap (86400 * (2 + m)) = 86400 * (2 + m) := IntWalk.i64_in _ (by omega)
      have v3 : IntKind.i64.wrap (wAt ls + 86400 * (2 + m)) = at1 := by rw [IntWalk.i64_in _ (by omega)]; exact hat.symm
      have HP := Lib.hid hp; have HAT := Lib.hid hat; clear hp hat
      generalize wAt ls = wa at *
      generalize ho : oldL 10 ls q = ov at *
      have v4 : IntKind.i64.wrap (ov + 1) = ov + 1 := IntWalk.i64_in _ (by omega)
      have v5 : IntKind.i64.wrap (ov - 1) = ov - 1 := IntWalk.i64_in _ (by omega)
      clear ho
      obtain ⟨i0, hi, hz0, hz1, hz2⟩ := info_parts infoLS
      generalize hX : (Value.slice A0 q c0).ownBlock = X
      have hXl : ∀ k, X = some k → w.heap.size + 2 ≤ k ∧ k < wr.heap.size := fun k hk => hrow.lt k (hX.trans hk)
      have HX := Lib.hid hX; clear hX
      have hcell : ∀ o : Int, prC (ls ++ [(at1, o)]) = prC ls ++ [.int .i64 at1, .int .i64 o] := fun o => prC_snoc _ _
      have HC := Lib.hid hcell; clear hcell
      generalize prC ls = xs at *
      have HROW := Lib.hid hrow; clear hrow
      go_wp2_with fail
      refine (R1.out _).mono ?_
      rintro e wq1 ⟨rfl, rfl⟩
      go_wp2_with fail
      refine (R2.out _).mono ?_
      rintro e wq2 ⟨rfl, rfl⟩
      by_cases hr0 : r = 0
      · have g3 : decide (r = 0) = true := decide_eq_true hr0
        have hs : WTab _ ∧ _ := SN.out (ov - 1) (by omega)
        have HS := Lib.hid hs; clear hs
        go_wp2_with (at_builtin; refine wpList_append_lies _ rfl _ _ 23 rfl (w.heap.size + 2) 67 i0 (.agg #[.int .i64 0, .int .i64 0]) 2 16 Try.underlying23 hi hz0 hz1 hz2 rfl (by decide) _ q xs rfl (HROW.out.alloc _) ⟨wr.heap.size, 0, none⟩ 1 1 [.int .i64 at1, .int .i64 (ov - 1)] rfl rfl (World.news_of_block (t := 67) (fr := (0, 0)) (Blk.new _ _ _)) ?c2 (by decide) ?c3 ?c4 ?c5 _ rfl ?_)
        case c2 => intro u hu; simp at hu; rcases hu with rfl | rfl <;> rfl
        case c3 => unfold maxLen; omega
        case c4 => omega
        case c5 => simp; omega
        intro g cp w2 hown hgrow hlie hglt
        rw [HX.out] at hgrow hlie
        have bO2 : Blk w2 (w.heap.size + 1) 25 #[.int .i64 10, .slice A0 q c0] := (hgrow.block _ (by simp; omega) (fun e => by have := hXl _ e.symm; omega)).trans (bO.alloc _)
        have bR2 : Blk w2 w.heap.size 25 #[.int .i64 0, .slice none 0 0] := (hgrow.block _ (by simp; omega) (fun e => by have := hXl _ e.symm; omega)).trans (bR.alloc _)
        have K2 : Below w.heap.size w w2 := (KR.alloc (by omega) _).grown hgrow (by simp; omega) (fun k hk => by have := hXl _ hk; omega)
        have Z2 := K2.size
        have hg1 : w.heap.size + 2 ≤ g := by rcases hlie with e | e; (have := hXl _ e; omega); (first | omega | (simp at e; omega))
        clear hgrow hlie bO cO fO lO eO kO bR cR fR lR eR kR HROW e0 e1
        obtain ⟨cO2, fO2, lO2, eO2, kO2⟩ := Blk.facts bO2
        obtain ⟨cR2, fR2, lR2, eR2, kR2⟩ := Blk.facts bR2
        have HOWN := Lib.hid hown; clear hown
        go_wp2
        go_roundg (4 - (q + 1))
        case measure => have := HP.out; omega
        case rel => exact ⟨q + 1, some ⟨g, 0, none⟩, cp, ls ++ [(at1, ov - 1)], by have := HP.out; omega, by have := HP.out; omega, by rw [show (2 * (q + 1) : Nat) = p + 2 by have := HP.out; omega]; go_num, by rw [HS.out.2.1], by have := HS.out.2.2; rw [List.length_append, List.length_singleton, HLL.out] at this; rw [this], by rw [List.length_append, List.length_singleton, HLL.out], HS.out.1, (by rw [HC.out]; exact HOWN.out.kept (row := some (w.heap.size + 1)) ⟨rfl, rfl, rfl, by simp [World.setCell], fun kk hk hn => Below.heap_setCell _ _ _ _ (fun e => hn (by rw [e]))⟩ (.inr (by simp [Value.ownBlock]; omega))), by (repeat' (first | (with_reducible refine' Blk.alloc ?_ _) | (with_reducible refine' Blk.drew ?_) | (with_reducible refine' Blk.drewN ?_ _) | (with_reducible refine' Blk.put ?_ ?_) | (with_reducible refine' Blk.far ?_ ?_ _) | exact bO2 | exact rfl)) <;> (first | omega | (simp <;> omega)), by (repeat' (first | (with_reducible refine' Blk.alloc ?_ _) | (with_reducible refine' Blk.drew ?_) | (with_reducible refine' Blk.drewN ?_ _) | (with_reducible refine' Blk.put ?_ ?_) | (with_reducible refine' Blk.far ?_ ?_ _) | exact bR2 | exact rfl)) <;> (first | omega | (simp <;> omega)), by (repeat' (first | (with_reducible exact K2) | (with_reducible refine Below.setCell ?_ ?_ _) | (with_reducible refine Below.alloc ?_ ?_ _) | (with_reducible refine Below.drew ?_) | (with_reducible refine below_drewN ?_ _))) <;> (first | omega | (simp <;> omega))⟩
      · have g3 : decide (r = 0) = false := decide_eq_false hr0
        have hs : WTab _ ∧ _ := SN.out (ov + 1) (by omega)
        have HS := Lib.hid hs; clear hs
        go_wp2_with (at_builtin; refine wpList_append_lies _ rfl _ _ 23 rfl (w.heap.size + 2) 67 i0 (.agg #[.int .i64 0, .int .i64 0]) 2 16 Try.underlying23 hi hz0 hz1 hz2 rfl (by decide) _ q xs rfl (HROW.out.alloc _) ⟨wr.heap.size, 0, none⟩ 1 1 [.int .i64 at1, .int .i64 (ov + 1)] rfl rfl (World.news_of_block (t := 67) (fr := (0, 0)) (Blk.new _ _ _)) ?c2 (by decide) ?c3 ?c4 ?c5 _ rfl ?_)
        case c2 => intro u hu; simp at hu; rcases hu with rfl | rfl <;> rfl
        case c3 => unfold maxLen; omega
        case c4 => omega
        case c5 => simp; omega
        intro g cp w2 hown hgrow hlie hglt
        rw [HX.out] at hgrow hlie
        have bO2 : Blk w2 (w.heap.size + 1) 25 #[.int .i64 10, .slice A0 q c0] := (hgrow.block _ (by simp; omega) (fun e => by have := hXl _ e.symm; omega)).trans (bO.alloc _)
        have bR2 : Blk w2 w.heap.size 25 #[.int .i64 0, .slice none 0 0] := (hgrow.block _ (by simp; omega) (fun e => by have := hXl _ e.symm; omega)).trans (bR.alloc _)
        have K2 : Below w.heap.size w w2 := (KR.alloc (by omega) _).grown hgrow (by simp; omega) (fun k hk => by have := hXl _ hk; omega)
        have Z2 := K2.size
        have hg1 : w.heap.size + 2 ≤ g := by rcases hlie with e | e; (have := hXl _ e; omega); (first | omega | (simp at e; omega))
        clear hgrow hlie bO cO fO lO eO kO bR cR fR lR eR kR HROW e0 e1
        obtain ⟨cO2, fO2, lO2, eO2, kO2⟩ := Blk.facts bO2
        obtain ⟨cR2, fR2, lR2, eR2, kR2⟩ := Blk.facts bR2
        have HOWN := Lib.hid hown; clear hown
        go_wp2
        go_roundg (4 - (q + 1))
        case measure => have := HP.out; omega
        case rel => exact ⟨q + 1, some ⟨g, 0, none⟩, cp, ls ++ [(at1, ov + 1)], by have := HP.out; omega, by have := HP.out; omega, by rw [show (2 * (q + 1) : Nat) = p + 2 by have := HP.out; omega]; go_num, by rw [HS.out.2.1], by have := HS.out.2.2; rw [List.length_append, List.length_singleton, HLL.out] at this; rw [this], by rw [List.length_append, List.length_singleton, HLL.out], HS.out.1, (by rw [HC.out]; exact HOWN.out.kept (row := some (w.heap.size + 1)) ⟨rfl, rfl, rfl, by simp [World.setCell], fun kk hk hn => Below.heap_setCell _ _ _ _ (fun e => hn (by rw [e]))⟩ (.inr (by simp [Value.ownBlock]; omega))), by (repeat' (first | (with_reducible refine' Blk.alloc ?_ _) | (with_reducible refine' Blk.drew ?_) | (with_reducible refine' Blk.drewN ?_ _) | (with_reducible refine' Blk.put ?_ ?_) | (with_reducible refine' Blk.far ?_ ?_ _) | exact bO2 | exact rfl)) <;> (first | omega | (simp <;> omega)), by (repeat' (first | (with_reducible refine' Blk.alloc ?_ _) | (with_reducible refine' Blk.drew ?_) | (with_reducible refine' Blk.drewN ?_ _) | (with_reducible refine' Blk.put ?_ ?_) | (with_reducible refine' Blk.far ?_ ?_ _) | exact bR2 | exact rfl)) <;> (first | omega | (simp <;> omega)), by (repeat' (first | (with_reducible exact K2) | (with_reducible refine Below.setCell ?_ ?_ _) | (with_reducible refine Below.alloc ?_ ?_ _) | (with_reducible refine Below.drew ?_) | (with_reducible refine below_drewN ?_ _))) <;> (first | omega | (simp <;> omega))⟩
    · have hs := pr_of_own (A := A0) (cap := c0) (zs := ls) (by rw [hll]; exact hrow) (by omega)
      rw [hll] at hs
      have hgA : ∀ b off, A0 = some ⟨b, off, none⟩ → w.heap.size + 2 ≤ b := fun b off e => (hrow.lt b (by rw [e]; simp [Value.ownBlock])).1
      have HGA := Lib.hid hgA; clear hgA
      have HS := Lib.hid hs; have HLL := Lib.hid hll; clear hs hll hrow hp
      by_cases h1 : p + 1 < len
      · have g2 : decide ((p : Int) < 8) = false := decide_eq_false (by omega)
        have g1 : decide (((p + 1 : Nat) : Int) < (len : Int)) = true := decide_eq_true (by omega)
        go_wp2
        exact bodyPost_ret (v := .agg #[.int .i64 10, .slice A0 q c0]) (by simp [results, Try.results12, go_sem, *]) rfl ⟨A0, c0, ls, by rw [HLL.out], HT.out, (by rw [HLL.out]; exact (HS.out.setO (fun b off e => by have := HGA.out b off e; simp; omega) _).setO (fun b off e => by have := HGA.out b off e; simp; omega) _), by (repeat' (first | (with_reducible exact KR) | (with_reducible refine Below.setCell ?_ ?_ _) | (with_reducible refine Below.alloc ?_ ?_ _) | (with_reducible refine Below.drew ?_) | (with_reducible refine below_drewN ?_ _))) <;> (first | omega | (simp <;> omega))⟩
      · have g1 : decide (((p + 1 : Nat) : Int) < (len : Int)) = false := decide_eq_false (by omega)
        go_wp2
        exact bodyPost_ret (v := .agg #[.int .i64 10, .slice A0 q c0]) (by simp [results, Try.results12, go_sem, *]) rfl ⟨A0, c0, ls, by rw [HLL.out], HT.out, (by rw [HLL.out]; exact (HS.out.setO (fun b off e => by have := HGA.out b off e; simp; omega) _).setO (fun b off e => by have := HGA.out b off e; simp; omega) _), by (repeat' (first | (with_reducible exact KR) | (with_reducible refine Below.setCell ?_ ?_ _) | (with_reducible refine Below.alloc ?_ ?_ _) | (with_reducible refine Below.drew ?_) | (with_reducible refine below_drewN ?_ _))) <;> (first | omega | (simp <;> omega))⟩
end Go.Proofs.Ytmebkbnildjfhaa
