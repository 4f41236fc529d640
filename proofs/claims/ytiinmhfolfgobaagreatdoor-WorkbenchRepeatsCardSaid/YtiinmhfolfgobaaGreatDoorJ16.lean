/- Texts joined: SweepW, SweepX -/
import Derived.Deep.AppendLies
import Derived.Deep.LoopGhost
import Derived.BigQuiet
import Derived.Deep.QuietTactic
import Derived.Test.YtiinmhfolfgobaaGreatDoorRUnW
import Derived.Test.YtiinmhfolfgobaaGreatDoorJ14
namespace Go.Proofs.YtiinmhfolfgobaaGreatDoor
open Go.RowKit Go.Shelf Go.Sort
set_option linter.unusedSimpArgs false
set_option linter.unusedVariables false

def ckE (zs : List (Int × Int)) : Int := if 64 < zs.length then 8 else if badS zs = true then 3 else 0
theorem ckE_8 {zs : List (Int × Int)} (h : 64 < zs.length) : ckE zs = 8 := if_pos h
theorem ckE_3 {zs : List (Int × Int)} (h : ¬ 64 < zs.length) (h2 : badS zs = true) : ckE zs = 3 := by unfold ckE; rw [if_neg h, if_pos h2]
theorem ckE_0 {zs : List (Int × Int)} (h : ¬ 64 < zs.length) (h2 : badS zs = false) : ckE zs = 0 := by unfold ckE; rw [if_neg h, if_neg (by rw [h2]; simp)]
theorem valid_of {zs : List (Int × Int)} (h : badS zs = false) : ∀ z ∈ zs, vS z.1 z.2 = true := fun z hz' => by have h1 := List.any_eq_false.1 h z hz'; simpa using h1
theorem bad_of {zs : List (Int × Int)} (h : ∀ z ∈ zs, vS z.1 z.2 = true) : badS zs = false := by
  unfold badS anyS; rw [List.any_eq_false]; intro z hz; simp [h z hz]
set_option maxHeartbeats 400000 in
theorem swcheck1_any (lo hi : Int) (w : World) :
    Calls Tryz.prog 185 #[.agg #[.int .i64 lo, .int .i64 hi]] w (RB w (.bool (!vS lo hi))) := by
  have H := Lib.hid (fun W' => svalid_any lo hi W')
  go_enter Tryz.func185, Tryz.ntmps185
  go_wp2_with fail
  refine (H.out _).mono ?_
  rintro e w' ⟨rfl, rfl⟩
  go_wp2
  go_ret
  exact ⟨by simp, by (repeat' (first | (with_reducible exact Below.refl _ _) | (with_reducible refine Below.setCell ?_ ?_ _) | (with_reducible refine Below.alloc ?_ ?_ _) | (with_reducible refine Below.drew ?_) | (with_reducible refine below_drewN ?_ _))) <;> (first | omega | (simp <;> omega))⟩
set_option maxHeartbeats 1000000 in
theorem swcheck_any (A : Option Addr) (len cap : Nat) (zs : List (Int × Int)) (w : World) (h : SpansAt w A len zs) :
    Calls Tryz.prog 147 #[.slice A len cap] w (RB w (.int .i64 (ckE zs))) := by
  have hz := h.1
  have hlm := h.2.1
  subst hz
  have hc := contS 185 (enters_of Tryz.func185 (by kernel_rfl) rfl) (fun lo hi => !vS lo hi) swcheck1_any A zs.length cap zs w h
  rw [show anyS (fun lo hi => !vS lo hi) zs = badS zs from rfl] at hc
  clear h
  by_cases h64 : 64 < zs.length
  · rw [ckE_8 h64]
    have g0 : decide (64 < (zs.length : Int)) = true := decide_eq_true (by omega)
    have g0n : decide (64 < zs.length) = true := decide_eq_true h64
    clear hc
    go_enter Tryz.func147, Tryz.ntmps147
    go_wp2
    go_ret
    exact ⟨rfl, (by (repeat' (first | (with_reducible exact Below.refl _ _) | (with_reducible refine Below.setCell ?_ ?_ _) | (with_reducible refine Below.alloc ?_ ?_ _) | (with_reducible refine Below.drew ?_) | (with_reducible refine below_drewN ?_ _))) <;> (first | omega | (simp <;> omega)))⟩
  · have g0 : decide (64 < (zs.length : Int)) = false := decide_eq_false (by omega)
    have g0n : decide (64 < zs.length) = false := decide_eq_false h64
    cases hb : badS zs with
    | true =>
      rw [ckE_3 h64 hb]
      rw [hb] at hc
      have HC := Lib.hid hc; clear hc hb
      go_enter Tryz.func147, Tryz.ntmps147
      go_wp2_with fail
      refine (HC.out).mono ?_
      rintro e w1 ⟨rfl, hb1⟩
      have K1 : Below w.heap.size w w1 := kept_call hb1 (by (repeat' (first | (with_reducible exact Below.refl _ _) | (with_reducible refine Below.setCell ?_ ?_ _) | (with_reducible refine Below.alloc ?_ ?_ _) | (with_reducible refine Below.drew ?_) | (with_reducible refine below_drewN ?_ _))) <;> (first | omega | (simp <;> omega)))
      have Z1 : w.heap.size ≤ w1.heap.size := K1.size
      clear hb1
      go_wp2
      go_ret
      exact ⟨rfl, (by (repeat' (first | (with_reducible exact K1) | (with_reducible refine Below.setCell ?_ ?_ _) | (with_reducible refine Below.alloc ?_ ?_ _) | (with_reducible refine Below.drew ?_) | (with_reducible refine below_drewN ?_ _))) <;> (first | omega | (simp <;> omega)))⟩
    | false =>
      rw [ckE_0 h64 hb]
      rw [hb] at hc
      have HC := Lib.hid hc; clear hc hb
      go_enter Tryz.func147, Tryz.ntmps147
      go_wp2_with fail
      refine (HC.out).mono ?_
      rintro e w1 ⟨rfl, hb1⟩
      have K1 : Below w.heap.size w w1 := kept_call hb1 (by (repeat' (first | (with_reducible exact Below.refl _ _) | (with_reducible refine Below.setCell ?_ ?_ _) | (with_reducible refine Below.alloc ?_ ?_ _) | (with_reducible refine Below.drew ?_) | (with_reducible refine below_drewN ?_ _))) <;> (first | omega | (simp <;> omega)))
      have Z1 : w.heap.size ≤ w1.heap.size := K1.size
      clear hb1
      go_wp2
      go_ret
      exact ⟨rfl, (by (repeat' (first | (with_reducible exact K1) | (with_reducible refine Below.setCell ?_ ?_ _) | (with_reducible refine Below.alloc ?_ ?_ _) | (with_reducible refine Below.drew ?_) | (with_reducible refine below_drewN ?_ _))) <;> (first | omega | (simp <;> omega)))⟩
set_option maxHeartbeats 400000 in
theorem events1_any (x y : Int × Int) (W : World) : Calls Tryz.prog 234 #[.agg #[.int .i64 x.1, .int .i64 x.2], .agg #[.int .i64 y.1, .int .i64 y.2]] W fun e w' => e = .returned (.int .i64 (loC x y)) ∧ ∃ q os', w' = grow (W.drewN q) os' := by
  have h := fun W' => compare_any x.1 y.1 W'
  unfold loC
  have H := Lib.hid h; clear h
  go_enter Tryz.func234, Tryz.ntmps234
  go_wp2_with fail
  refine (H.out _).mono ?_
  rintro e w' ⟨rfl, rfl⟩
  go_wp2
  go_ret
  exact ⟨rfl, 0, _, by rw [alloc_eq_grow, alloc_eq_grow, grow_grow]; rfl⟩
theorem infoEv : (Tryz.prog.info? 231).map (fun i => (i.zero, i.size, i.bytes)) = some (some (.agg #[.int .i64 0, .int .i64 0]), 2, 16) := by kernel_rfl
/-- A row of events of one's own. -/
def RowE (w : World) (base : Nat) (v : Value) (zs : List (Int × Int)) : Prop := w.ownsRow base 231 2 v zs.length (cellsS zs)
def EvRel (w : World) (zs : List (Int × Int)) (G : Nat) (v i : Value) (wr : World) : Prop := ∃ q : Nat, q ≤ zs.length ∧ G = zs.length - q ∧ i = .int .i64 q ∧ (∃ A cap, v = .slice A (evs (zs.take q)).length cap) ∧ RowE wr w.heap.size v (evs (zs.take q)) ∧ Below w.heap.size w wr
theorem lo_swo : SWO (ltOf loC) := loSwo
set_option maxRecDepth 100000 in
set_option maxHeartbeats 2000000 in
theorem events_any (A : Option Addr) (len cap : Nat) (zs : List (Int × Int)) (hv : ∀ z ∈ zs, vS z.1 z.2 = true) (h64 : len ≤ 64) (w : World) (h : SpansAt w A len zs) :
    Calls Tryz.prog 215 #[.slice A len cap] w (fun e w' => ∃ (A' : Option Addr) (cap' : Nat) (ds : List (Int × Int)), e = .returned (.slice A' ds.length cap') ∧ SortedBy loC (evs zs) ds ∧ SpansAt w' A' ds.length ds ∧ Below w.heap.size w w') := by
  have hz := h.1
  subst hz
  have H := Lib.hid h; have HV := Lib.hid hv; clear h hv
  go_enter Tryz.func215, Tryz.ntmps215
  go_wp2
  go_loopg [3, 8] zs.length (fun G v i wr => EvRel w zs G v i wr)
  case atStart => exact ⟨0, by omega, by omega, rfl, ⟨none, 0, rfl⟩, World.ownsRow_nil _ _ _ _, by (repeat' (first | (with_reducible exact Below.refl _ _) | (with_reducible refine Below.setCell ?_ ?_ _) | (with_reducible refine Below.alloc ?_ ?_ _) | (with_reducible refine Below.drew ?_) | (with_reducible refine below_drewN ?_ _))) <;> (first | omega | (simp <;> omega))⟩
  case round =>
    obtain ⟨q, hq, rfl, rfl, hform, hrow, KR⟩ := hrel
    have ZR := KR.size
    have HROW := Lib.hid hrow; clear hrow
    have hel := evs_length (zs.take q)
    rw [List.length_take] at hel
    have hel9 : (evs (zs.take q)).length ≤ 128 := by omega
    clear hel
    by_cases hlt : q < zs.length
    · have gk : decide ((q : Int) < (zs.length : Int)) = true := decide_eq_true (by omega)
      have wq : IntKind.i64.wrap ((q : Int) + 1) = ((q + 1 : Nat) : Int) := by rw [IntWalk.i64_in _ (by omega)]; omega
      obtain ⟨bl, off, rfl, hb, hcs⟩ := H.out.2.2 (by omega)
      obtain ⟨e0, e1⟩ := hcs q hlt
      clear hcs
      have e0 := (KR.cell (p := ⟨bl, off + q * 2, none⟩) hb).trans e0
      have e1 := (KR.cell (p := ⟨bl, off + q * 2 + 1, none⟩) hb).trans e1
      have hbW : bl < wr.heap.size := by omega
      have hvz := HV.out (zs.getD q (0, 0)) (by rw [List.getD_eq_getElem?_getD, List.getElem?_eq_getElem hlt]; exact List.getElem_mem _)
      have hnx : evs (zs.take (q + 1)) = evs (zs.take q) ++ [((zs.getD q (0, 0)).1, 1), ((zs.getD q (0, 0)).2 + 1, -1)] := by rw [take_snocC (0, 0) zs hlt, evs_snoc]
      have HNX := Lib.hid hnx; clear hnx
      generalize zs.getD q (0, 0) = z at *
      obtain ⟨x, y⟩ := z
      dsimp only at e0 e1 hvz
      have gv := vS_true.1 hvz
      clear hvz
      have wy : IntKind.i64.wrap (y + 1) = y + 1 := IntWalk.i64_in _ (by omega)
      obtain ⟨i0, hif, hz0, hz1, hz2⟩ := info_parts infoEv
      generalize evs (zs.take q) = es at *
      obtain ⟨A3, c3, rfl⟩ := hform
      go_wp2_with (at_builtin; refine wpList_append_lies _ rfl _ _ 228 rfl w.heap.size 231 i0 (.agg #[.int .i64 0, .int .i64 0]) 2 16 Tryz.underlying228 hif hz0 hz1 hz2 rfl (by decide) _ es.length (cellsS es) rfl (World.ownsRow.alloc (World.ownsRow.alloc HROW.out _) _) ⟨wr.heap.size + 1, 0, none⟩ 2 2 [.int .i64 x, .int .i64 1, .int .i64 (y + 1), .int .i64 (-1)] rfl rfl (World.news_of_block (t := 231) (fr := (0, 0)) (Blk.new1 _ _ _ _)) ?c2 (by decide) ?c3 ?c4 ?c5 _ rfl ?_)
      case c2 => first | exact ⟨rfl, rfl, rfl, rfl⟩ | (intro u hu; simp at hu; rcases hu with rfl | rfl | rfl | rfl <;> rfl)
      case c3 => unfold maxLen; omega
      case c4 => omega
      case c5 => first | omega | (simp; omega)
      intro g9 cp9 w7 hown hgrow hlie hglt
      have K7 : Below w.heap.size w w7 := ((KR.alloc ZR _).alloc (by simp; omega) _).grown hgrow (by simp; omega) (fun k hk => (World.ownsRow.lt HROW.out k hk).1)
      have hrow7 : RowE w7 w.heap.size (.slice (some ⟨g9, 0, none⟩) (es.length + 2) cp9) (es ++ [(x, 1), (y + 1, -1)]) := by
        unfold RowE
        have e : cellsS (es ++ [(x, 1), (y + 1, -1)]) = cellsS es ++ [.int .i64 x, .int .i64 1, .int .i64 (y + 1), .int .i64 (-1)] := by simp [cellsS]
        rw [List.length_append, e]; exact hown
      clear hown hgrow hlie hglt e0 e1
      have R7 := Lib.hid hrow7; clear hrow7
      go_wp2
      go_roundg (zs.length - (q + 1))
      case measure => omega
      case rel => exact ⟨q + 1, by omega, by omega, by go_num, ⟨_, _, by rw [HNX.out, List.length_append]; rfl⟩, by rw [HNX.out]; exact R7.out, K7⟩
    · obtain rfl : zs.length = q := by omega
      have gk : decide ((zs.length : Int) < (zs.length : Int)) = false := decide_eq_false (by omega)
      rw [List.take_length] at hel9 HROW hform
      obtain ⟨A3, c3, rfl⟩ := hform
      have hsf := sortFuncE loC lo_swo 234 (enters_of Tryz.func234 (by kernel_rfl) rfl) events1_any w.heap.size (.slice A3 (evs zs).length c3) (evs zs) wr HROW.out ZR (by omega)
      have HSF := Lib.hid hsf; clear hsf
      generalize hes : evs zs = es at *
      have HES := Lib.hid hes; clear hes
      go_wp2_with fail
      refine HSF.out.mono ?_
      rintro e w7 ⟨rfl, A', c', ds, hsl, hsb, hsp, hb7⟩
      have hA' : A3 = A' ∧ c3 = c' := by injection hsl with h1 h2 h3; exact ⟨h1, h3⟩
      obtain ⟨rfl, rfl⟩ := hA'
      have hl : ds.length = es.length := hsb.1.length_eq
      have K7 := KR.trans hb7
      have HS := Lib.hid (And.intro hsb hsp); have HL := Lib.hid hl
      clear hsb hsp hl hb7 hsl
      go_wp2
      go_ret
      exact ⟨A3, c3, ds, by rw [HL.out]; rfl, by rw [HES.out]; exact HS.out.1, by have := HS.out.2; rwa [← HL.out] at this, K7⟩
end Go.Proofs.YtiinmhfolfgobaaGreatDoor
namespace Go.Proofs.YtiinmhfolfgobaaGreatDoor
open Go.RowKit Go.Shelf Go.Sort
set_option linter.unusedSimpArgs false
set_option linter.unusedVariables false

def cellsP (ps : List Pc) : List Value := ps.flatMap fun p => [.int .i64 p.lo, .int .i64 p.hi, .int .i64 p.n]
theorem cellsP_length (ps : List Pc) : (cellsP ps).length = ps.length * 3 := by
  induction ps with
  | nil => rfl
  | cons z zs ih => simp only [cellsP, List.flatMap_cons, List.length_append, List.length_cons, List.length_nil] at *; omega
theorem cellsP_snoc (ps : List Pc) (p : Pc) : cellsP (ps ++ [p]) = cellsP ps ++ [.int .i64 p.lo, .int .i64 p.hi, .int .i64 p.n] := by simp [cellsP]
theorem cellsP_get (ps : List Pc) : ∀ j, j < ps.length → (cellsP ps)[j * 3]? = some (.int .i64 (ps.getD j ⟨0, 0, 0⟩).lo) ∧ (cellsP ps)[j * 3 + 1]? = some (.int .i64 (ps.getD j ⟨0, 0, 0⟩).hi) ∧ (cellsP ps)[j * 3 + 2]? = some (.int .i64 (ps.getD j ⟨0, 0, 0⟩).n) := by
  induction ps with
  | nil => intro j hj; simp at hj
  | cons z zs ih =>
    intro j hj
    have e : cellsP (z :: zs) = .int .i64 z.lo :: .int .i64 z.hi :: .int .i64 z.n :: cellsP zs := by simp [cellsP]
    cases j with
    | zero => rw [e]; simp
    | succ j =>
      have := ih j (by simpa using hj)
      rw [e, show (j + 1) * 3 = j * 3 + 1 + 1 + 1 by omega]
      simpa using this
theorem cellsP_set (a : List Pc) (x : Pc) (h : Int) : (cellsP (a ++ [x])).set (a.length * 3 + 1) (.int .i64 h) = cellsP (a ++ [⟨x.lo, h, x.n⟩]) := by
  rw [cellsP_snoc, cellsP_snoc, List.set_append, cellsP_length, if_neg (by omega), show a.length * 3 + 1 - a.length * 3 = 1 by omega]
  rfl
/-- Pieces in memory; a row of them of one's own. -/
def PcsAt (w : World) (A : Option Addr) (len : Nat) (ps : List Pc) : Prop :=
  ps.length = len ∧ len ≤ 9223372036854775807 ∧ (0 < len → ∃ b off, A = some ⟨b, off, none⟩ ∧ b < w.heap.size ∧ ∀ j, j < len → w.cell? ⟨b, off + j * 3, none⟩ = some (.int .i64 (ps.getD j ⟨0, 0, 0⟩).lo) ∧ w.cell? ⟨b, off + j * 3 + 1, none⟩ = some (.int .i64 (ps.getD j ⟨0, 0, 0⟩).hi) ∧ w.cell? ⟨b, off + j * 3 + 2, none⟩ = some (.int .i64 (ps.getD j ⟨0, 0, 0⟩).n))
theorem PcsAt.below {w w' : World} {A : Option Addr} {len : Nat} {ps : List Pc} (h : PcsAt w A len ps) (hb : Below w.heap.size w w') : PcsAt w' A len ps := by
  obtain ⟨h1, h2, h3⟩ := h
  refine ⟨h1, h2, fun hl => ?_⟩
  obtain ⟨b, off, rfl, hlt, hc⟩ := h3 hl
  exact ⟨b, off, rfl, Nat.lt_of_lt_of_le hlt hb.size, fun j hj => ⟨cell_below hb (hc j hj).1, cell_below hb (hc j hj).2.1, cell_below hb (hc j hj).2.2⟩⟩
def RowP (w : World) (base : Nat) (v : Value) (ps : List Pc) : Prop := w.ownsRow base 202 3 v ps.length (cellsP ps)
theorem RowP.form {w : World} {base : Nat} {v : Value} {ps : List Pc} (h : RowP w base v ps) (hl : 0 < ps.length) : ∃ g cap, v = .slice (some ⟨g, 0, none⟩) ps.length cap ∧ base ≤ g ∧ g < w.heap.size ∧ (∀ i, w.frozen? ⟨g, i, none⟩ = false) ∧ ∀ j, j < ps.length → w.cell? ⟨g, j * 3, none⟩ = some (.int .i64 (ps.getD j ⟨0, 0, 0⟩).lo) ∧ w.cell? ⟨g, j * 3 + 1, none⟩ = some (.int .i64 (ps.getD j ⟨0, 0, 0⟩).hi) ∧ w.cell? ⟨g, j * 3 + 2, none⟩ = some (.int .i64 (ps.getD j ⟨0, 0, 0⟩).n) := by
  obtain ⟨g, c, e, h1, h2⟩ := World.ownsRow.form h hl
  subst e
  refine ⟨g, c, rfl, h1, h2, fun i => World.ownsRow.frozenAt h i, fun j hj => ?_⟩
  obtain ⟨a1, a2, a3⟩ := cellsP_get ps j hj
  refine ⟨?_, ?_, ?_⟩
  · rw [World.ownsRow.cellAt h _ (by omega)]; exact a1
  · rw [World.ownsRow.cellAt h _ (by omega)]; exact a2
  · rw [World.ownsRow.cellAt h _ (by omega)]; exact a3
theorem RowP.nil {w : World} {base : Nat} : RowP w base (.slice none 0 0) [] := World.ownsRow_nil _ _ _ _
theorem RowP.kept {w w' : World} {base : Nat} {v : Value} {ps : List Pc} {row : Option Nat} (h : RowP w base v ps) (hg : w.grownBy w' row) (hn : ∀ k, v.ownBlock = some k → some k ≠ row) : RowP w' base v ps :=
  World.ownsRow.kept h hg (by
    cases hv : v.ownBlock with
    | none => exact .inl rfl
    | some k => exact .inr (hn k hv))
theorem RowP.lt {w : World} {base : Nat} {v : Value} {ps : List Pc} (h : RowP w base v ps) : ∀ k, v.ownBlock = some k → base ≤ k ∧ k < w.heap.size := World.ownsRow.lt h
theorem RowP.alloc {w : World} {base : Nat} {v : Value} {ps : List Pc} (h : RowP w base v ps) (o : Obj) : RowP (w.alloc o) base v ps := World.ownsRow.alloc h o
theorem RowP.drewN {w : World} {base : Nat} {v : Value} {ps : List Pc} (h : RowP w base v ps) (n : Nat) : RowP (w.drewN n) base v ps := h
theorem RowP.len {w : World} {base : Nat} {v : Value} {ps : List Pc} (h : RowP w base v ps) : ∃ A cap, v = .slice A ps.length cap := by
  obtain ⟨-, ⟨e, hn⟩ | ⟨g, cap, cur, e, -⟩⟩ := h
  · exact ⟨none, 0, by rw [e, hn]⟩
  · exact ⟨_, _, e⟩
theorem pcs_of_row {w : World} {base : Nat} {A : Option Addr} {cap : Nat} {ps : List Pc} (h : RowP w base (.slice A ps.length cap) ps) (hm : ps.length ≤ 9223372036854775807) : PcsAt w A ps.length ps := by
  refine ⟨rfl, hm, fun hl => ?_⟩
  obtain ⟨g, c, e, h1, h2, h3, h4⟩ := h.form hl
  cases e
  exact ⟨g, 0, rfl, h2, fun j hj => by rw [Nat.zero_add]; exact h4 j hj⟩
theorem infoPc : (Tryz.prog.info? 202).map (fun i => (i.zero, i.size, i.bytes)) = some (some (.agg #[.int .i64 0, .int .i64 0, .int .i64 0]), 3, 24) := by kernel_rfl
theorem evs_in {zs : List (Int × Int)} (hv : ∀ z ∈ zs, vS z.1 z.2 = true) : ∀ e ∈ evs zs, (e.2 = 1 ∨ e.2 = -1) ∧ -1152921504606846976 ≤ e.1 ∧ e.1 ≤ 1152921504606846977 := by
  intro e he
  obtain ⟨z, hz, he⟩ := List.mem_flatMap.1 he
  have g := vS_true.1 (hv z hz)
  simp at he
  rcases he with rfl | rfl <;> simp <;> omega
theorem psum_in {es : List (Int × Int)} (h : ∀ e ∈ es, e.2 = 1 ∨ e.2 = -1) : -(es.length : Int) ≤ psum es ∧ psum es ≤ es.length := by
  induction es with
  | nil => simp [psum]
  | cons e es ih =>
    have := ih (fun x hx => h x (by simp [hx]))
    have := h e (by simp)
    rw [psum_cons, List.length_cons]; omega
def PcRel (w1 : World) (ds : List (Int × Int)) (G : Nat) (v3 v5 i : Value) (wr : World) : Prop := ∃ k : Nat, k ≤ ds.length ∧ G = ds.length - k ∧ i = .int .i64 k ∧ v5 = .int .i64 (psum (ds.take k)) ∧ RowP wr w1.heap.size v3 (pcsAt ds k) ∧ Below w1.heap.size w1 wr
/-- What a profile is. -/
def PiecesR (w : World) (zs : List (Int × Int)) (e : Ending) (w' : World) : Prop := ∃ (A : Option Addr) (cap : Nat) (ps : List Pc), e = .returned (.slice A ps.length cap) ∧ PcsAt w' A ps.length ps ∧ PCan ps ∧ (∀ t, cntP ps t = cntS zs t) ∧ ps.length ≤ 128 ∧ Below w.heap.size w w'
set_option maxRecDepth 100000 in
set_option maxHeartbeats 4000000 in
theorem pieces_any (A : Option Addr) (len cap : Nat) (zs : List (Int × Int)) (hv : ∀ z ∈ zs, vS z.1 z.2 = true) (h64 : len ≤ 64) (w : World) (h : SpansAt w A len zs) :
    Calls Tryz.prog 186 #[.slice A len cap] w (PiecesR w zs) := by
  have hz := h.1
  subst hz
  have HE := Lib.hid (fun W (hW : Below w.heap.size w W) => events_any A zs.length cap zs hv h64 W (h.below hW))
  have HV := Lib.hid hv; clear h hv
  go_enter Tryz.func186, Tryz.ntmps186
  go_wp2_with fail
  refine (HE.out _ (by (repeat' (first | (with_reducible exact Below.refl _ _) | (with_reducible refine Below.setCell ?_ ?_ _) | (with_reducible refine Below.alloc ?_ ?_ _) | (with_reducible refine Below.drew ?_) | (with_reducible refine below_drewN ?_ _))) <;> (first | omega | (simp <;> omega)))).mono ?_
  rintro e w1 ⟨A1, c1, ds, rfl, hsb, hsp, hb1⟩
  have K1 : Below w.heap.size w w1 := kept_call hb1 (by (repeat' (first | (with_reducible exact Below.refl _ _) | (with_reducible refine Below.setCell ?_ ?_ _) | (with_reducible refine Below.alloc ?_ ?_ _) | (with_reducible refine Below.drew ?_) | (with_reducible refine below_drewN ?_ _))) <;> (first | omega | (simp <;> omega)))
  have Z1 : w.heap.size ≤ w1.heap.size := K1.size
  clear hb1
  have hdl : ds.length ≤ 128 := by rw [hsb.1.length_eq, evs_length]; omega
  have hel := evs_in HV.out
  have hei : ∀ e ∈ ds, (e.2 = 1 ∨ e.2 = -1) ∧ -1152921504606846976 ≤ e.1 ∧ e.1 ≤ 1152921504606846977 := fun e he => hel e (hsb.1.mem_iff.1 he)
  have hlaw := pieces_law HV.out hsb
  have hlk := pieces_step HV.out hsb
  have hlo := pcs_lo (ds := ds) (b := -1152921504606846976) (fun e he => (hei e he).2.1)
  have HLK := Lib.hid hlk; have HLO := Lib.hid hlo; clear hlk hlo
  have HLAW := Lib.hid hlaw; have HEI := Lib.hid hei; have HSP := Lib.hid hsp; clear hlaw hei hel hsb hsp HE
  go_wp2
  go_loopg [3, 5, 14] ds.length (fun G v3 v5 i wr => PcRel w1 ds G v3 v5 i wr)
  case atStart => exact ⟨0, by omega, by omega, rfl, rfl, RowP.nil, by (repeat' (first | (with_reducible exact Below.refl _ _) | (with_reducible refine Below.setCell ?_ ?_ _) | (with_reducible refine Below.alloc ?_ ?_ _) | (with_reducible refine Below.drew ?_) | (with_reducible refine below_drewN ?_ _))) <;> (first | omega | (simp <;> omega))⟩
  case round =>
    obtain ⟨k, hk, rfl, rfl, rfl, hrow, KR⟩ := hrel
    have ZR := KR.size
    have HROW := Lib.hid hrow; clear hrow
    have hpi := psum_in (es := ds.take k) (fun e he => (HEI.out e (List.mem_of_mem_take he)).1)
    rw [List.length_take] at hpi
    have hpb : -128 ≤ psum (ds.take k) ∧ psum (ds.take k) ≤ 128 := by omega
    clear hpi
    have hpl := pcsAt_length ds k
    by_cases hlt : k < ds.length
    · have gk : decide ((k : Int) < (ds.length : Int)) = true := decide_eq_true (by omega)
      have wk : IntKind.i64.wrap ((k : Int) + 1) = ((k + 1 : Nat) : Int) := by rw [IntWalk.i64_in _ (by omega)]; omega
      obtain ⟨bl, off, rfl, hb, hcs⟩ := HSP.out.2.2 (by omega)
      obtain ⟨e0, e1⟩ := hcs k hlt
      have HCS := Lib.hid hcs; clear hcs
      have e0 := (KR.cell (p := ⟨bl, off + k * 2, none⟩) hb).trans e0
      have e1 := (KR.cell (p := ⟨bl, off + k * 2 + 1, none⟩) hb).trans e1
      have hbW : bl < wr.heap.size := by omega
      have hxe := HEI.out (ds.getD k (0, 0)) (by rw [List.getD_eq_getElem?_getD, List.getElem?_eq_getElem hlt]; exact List.getElem_mem _)
      have hps : psum (ds.take (k + 1)) = psum (ds.take k) + (ds.getD k (0, 0)).2 := by rw [take_snocC (0, 0) ds hlt, psum_app]; simp [psum]
      have hnx : pcsAt ds (k + 1) = if skipE ds k then pcsAt ds k else addP (pcsAt ds k) ⟨(ds.getD k (0, 0)).1, (ds.getD (k + 1) (0, 0)).1 - 1, psum (ds.take (k + 1))⟩ := rfl
      have hsk : skipE ds k ↔ psum (ds.take (k + 1)) = 0 ∨ k + 1 = ds.length ∨ (ds.getD (k + 1) (0, 0)).1 = (ds.getD k (0, 0)).1 := Iff.rfl
      have HXA := Lib.hid (show (ds.getD k (0, 0)).1 ≤ 1152921504606846977 from hxe.2.2)
      generalize hxk : ds.getD k (0, 0) = x at *
      have HXK := Lib.hid hxk; clear hxk
      obtain ⟨xa, xb⟩ := x
      dsimp only at e0 e1 hxe hps hnx hsk
      obtain ⟨c, hc⟩ : ∃ c, psum (ds.take (k + 1)) = c := ⟨_, rfl⟩
      rw [hc] at hps hnx hsk
      have wc : IntKind.i64.wrap (psum (ds.take k) + xb) = c := by rw [IntWalk.i64_in _ (by omega)]; exact hps.symm
      have cb : -130 ≤ c ∧ c ≤ 130 := by omega
      have HPS := Lib.hid hc; clear hc hps
      generalize psum (ds.take k) = ck at *
      have HNX := Lib.hid hnx; have HSK := Lib.hid hsk; clear hnx hsk
      by_cases k0 : c = 0
      · subst k0
        go_wp2_with fail
        go_quiet (fail)
        go_wp2
        go_roundg (ds.length - (k + 1))
        case measure => omega
        case rel => exact ⟨k + 1, by omega, by omega, by go_num, by rw [HPS.out], by rw [HNX.out, if_pos (HSK.out.2 (by simp))]; exact RowP.drewN (RowP.alloc HROW.out _) _, by (repeat' (first | (with_reducible exact KR) | (with_reducible refine Below.setCell ?_ ?_ _) | (with_reducible refine Below.alloc ?_ ?_ _) | (with_reducible refine Below.drew ?_) | (with_reducible refine below_drewN ?_ _))) <;> (first | omega | (simp <;> omega))⟩
      have g0 : decide (c = 0) = false := decide_eq_false k0
      have g0b : (c == 0) = false := by simpa using k0
      by_cases k1 : k + 1 = ds.length
      · have g1 : decide (((k + 1 : Nat) : Int) = (ds.length : Int)) = true := decide_eq_true (by omega)
        have g1b : ((((k + 1 : Nat) : Int)) == (ds.length : Int)) = true := by rw [beq_iff_eq]; omega
        have g1c : decide ((k : Int) + 1 = (ds.length : Int)) = true := decide_eq_true (by omega)
        have g1d : (((k : Int) + 1) == (ds.length : Int)) = true := by rw [beq_iff_eq]; omega
        have HK1 := Lib.hid k1; clear k1
        go_wp2_with fail
        go_quiet (fail)
        go_wp2
        go_roundg (ds.length - (k + 1))
        case measure => omega
        case rel => exact ⟨k + 1, by omega, by omega, by go_num, by rw [HPS.out], by rw [HNX.out, if_pos (HSK.out.2 (.inr (.inl HK1.out)))]; exact RowP.drewN (RowP.alloc HROW.out _) _, by (repeat' (first | (with_reducible exact KR) | (with_reducible refine Below.setCell ?_ ?_ _) | (with_reducible refine Below.alloc ?_ ?_ _) | (with_reducible refine Below.drew ?_) | (with_reducible refine below_drewN ?_ _))) <;> (first | omega | (simp <;> omega))⟩
      have g1 : decide (((k + 1 : Nat) : Int) = (ds.length : Int)) = false := decide_eq_false (by omega)
      have g1b : ((((k + 1 : Nat) : Int)) == (ds.length : Int)) = false := by rw [beq_eq_false_iff_ne]; omega
      have g1c : decide ((k : Int) + 1 = (ds.length : Int)) = false := decide_eq_false (by omega)
      have g1d : (((k : Int) + 1) == (ds.length : Int)) = false := by rw [beq_eq_false_iff_ne]; omega
      have hk1 : k + 1 < ds.length := by omega
      have e2 := (KR.cell (p := ⟨bl, off + (k + 1) * 2, none⟩) hb).trans (HCS.out (k + 1) hk1).1
      have hye := HEI.out (ds.getD (k + 1) (0, 0)) (by rw [List.getD_eq_getElem?_getD, List.getElem?_eq_getElem hk1]; exact List.getElem_mem _)
      obtain ⟨y, hy⟩ : ∃ y, (ds.getD (k + 1) (0, 0)).1 = y := ⟨_, rfl⟩
      rw [hy] at e2 hye HNX HSK
      have E2 : ∀ W, Below w1.heap.size w1 W → W.cell? ⟨bl, off + (k + 1) * 2, none⟩ = some (.int .i64 y) := fun W h => by
        have := (h.cell (p := ⟨bl, off + (k + 1) * 2, none⟩) hb).trans (HCS.out (k + 1) hk1).1
        rw [hy] at this; exact this
      clear hy
      have nbw : bl ≠ wr.heap.size := by omega
      by_cases k2 : y = xa
      · have HK2 := Lib.hid k2
        subst k2
        go_wp2_with fail
        go_quiet (fail)
        go_wp2
        go_roundg (ds.length - (k + 1))
        case measure => omega
        case rel => exact ⟨k + 1, by omega, by omega, by go_num, by rw [HPS.out], by rw [HNX.out, if_pos (HSK.out.2 (by simp))]; exact RowP.drewN (RowP.alloc HROW.out _) _, by (repeat' (first | (with_reducible exact KR) | (with_reducible refine Below.setCell ?_ ?_ _) | (with_reducible refine Below.alloc ?_ ?_ _) | (with_reducible refine Below.drew ?_) | (with_reducible refine below_drewN ?_ _))) <;> (first | omega | (simp <;> omega))⟩
      have g2 : decide (y = xa) = false := decide_eq_false k2
      have g2b : (y == xa) = false := by simpa using k2
      have hns : ¬ skipE ds k := fun h => by rcases HSK.out.1 h with h | h | h <;> contradiction
      have hnx2 : pcsAt ds (k + 1) = addP (pcsAt ds k) ⟨xa, y - 1, c⟩ := by rw [HNX.out, if_neg hns]
      have HN2 := Lib.hid hnx2; clear hnx2 hns HNX HSK
      have wy : IntKind.i64.wrap (y - 1) = y - 1 := IntWalk.i64_in _ (by omega)
      go_wp2_with fail
      go_quiet (fail)
      go_upto_region 9 with fail
      have hki0 : (0 : Int) ≤ (k : Int) + 1 := by omega
      have hki : (k : Int) + 1 < (ds.length : Int) := by omega
      have b7 : Blk ((wr.alloc (.cells #[.int .i64 xa, .int .i64 xb] 231)).drewN nq) wr.heap.size 231 #[.int .i64 xa, .int .i64 xb] := Blk.drewN (Blk.new _ _ _) nq
      have R5 : RowP ((wr.alloc (.cells #[.int .i64 xa, .int .i64 xb] 231)).drewN nq) w1.heap.size _ (pcsAt ds k) := RowP.drewN (RowP.alloc HROW.out _) nq
      have K5 : Below w1.heap.size w1 ((wr.alloc (.cells #[.int .i64 xa, .int .i64 xb] 231)).drewN nq) := below_drewN (KR.alloc ZR _) nq
      have s5 : wr.heap.size < ((wr.alloc (.cells #[.int .i64 xa, .int .i64 xb] 231)).drewN nq).heap.size := by simp
      obtain ⟨s7, hs7⟩ : ∃ s7, wr.heap.size = s7 := ⟨_, rfl⟩
      rw [hs7] at b7 s5 nbw hbW ⊢
      have h7w : w1.heap.size ≤ s7 := by omega
      have hns7 : ∀ kk, u3.ownBlock = some kk → kk < s7 := fun kk hkk => by have := HROW.out.lt kk hkk; omega
      clear KR ZR HROW e0 e1 e2 g0 g0b g1 g1b g1c g1d g2 g2b hs7
      generalize ((wr.alloc (.cells #[.int .i64 xa, .int .i64 xb] 231)).drewN nq) = w5 at *
      have Z5 := K5.size
      have HR5 := Lib.hid R5; clear R5
      refine wp_region_calm (by kernel_rfl) (fun n us w' => Below w1.heap.size w1 w' ∧ Blk w' s7 231 #[.int .i64 xa, .int .i64 xb] ∧ w5.heap.size ≤ w'.heap.size ∧ RowP w' w1.heap.size u3 (pcsAt ds k) ∧ NewC w5.heap.size 202 #[.int .i64 0, .int .i64 0, .int .i64 0] n us w') (fun _ _ => True) [(Is (.pointer (some ⟨s7, 0, none⟩))), (Is (.int .i64 xa)), (Is (.slice (some ⟨bl, off, none⟩) ds.length c1)), (Is (.int .i64 (k : Int))), (Is (.int .i64 ((k : Int) + 1))), (Is (.pointer (some ⟨bl, off + (k + 1) * 2, none⟩))), (Is (.pointer (some ⟨bl, off + (k + 1) * 2, none⟩))), (Is (.int .i64 y)), (Is (.int .i64 (y - 1))), (Is (.agg #[.int .i64 xa, .int .i64 (y - 1)])), (Is (.int .i64 c)), (Is (.agg #[.int .i64 xa, .int .i64 (y - 1), .int .i64 c])), (fun _ _ _ => True), (fun _ _ _ => True)] [[], [0], [], [], [3], [2, 4], [5], [6], [7], [1, 8], [], [9, 10], [], [11]] [12, 13] [12, 11] rfl (by kernel_rfl) (fun u => by (simp only [calmPut, Act.put, List.setIfInBounds_toArray, List.set_cons_zero, List.set_cons_succ, Nat.zero_add, Nat.reduceAdd]; rfl)) ?_ (calmKeep_cons keep_is' (calmKeep_cons keep_is' (calmKeep_cons keep_is' (calmKeep_cons keep_is' (calmKeep_cons keep_is' (calmKeep_cons keep_is' (calmKeep_cons keep_is' (calmKeep_cons keep_is' (calmKeep_cons keep_is' (calmKeep_cons keep_is' (calmKeep_cons keep_is' (calmKeep_cons keep_is' (calmKeep_cons keep_triv (calmKeep_cons keep_triv (calmKeep_nil))))))))))))))) ?_ ?_
      · intro _
        exact ⟨K5.drew, b7.drew, Nat.le_refl _, HR5.out, .inl rfl⟩
      · skip
        refine calmSteps_cons (fun u wq n hn hn2 hC hk K hK => ?_) ?_
        · obtain ⟨hP, m7, hS, hR, hN⟩ := hC
          clear hk
          have z7 := m7.cell
          have RR := Lib.hid hR; clear hR
          go_simp
          exact hK _ _ _ rfl ⟨hP, m7, hS, RR.out, hN⟩ trivial rfl
        refine calmSteps_cons (fun u wq n hn hn2 hC hk K hK => ?_) ?_
        · obtain ⟨hP, m7, hS, hR, hN⟩ := hC
          simp only [calmKnown, List.getElem?_cons_zero, List.getElem?_cons_succ, and_true, Is, Pure, Option.some.injEq, List.getD_cons_zero, List.getD_cons_succ, List.map_cons, List.map_nil] at hk
          have h0 := hk; clear hk
          simp only [h0] at hK ⊢
          have H0 := Lib.hid h0; clear h0
          have z7 := m7.cell
          have RR := Lib.hid hR; clear hR
          go_simp
          exact hK _ _ _ rfl ⟨hP, m7, hS, RR.out, hN⟩ trivial rfl
        refine calmSteps_cons (fun u wq n hn hn2 hC hk K hK => ?_) ?_
        · obtain ⟨hP, m7, hS, hR, hN⟩ := hC
          clear hk
          have z7 := m7.cell
          have RR := Lib.hid hR; clear hR
          go_simp
          exact hK _ _ _ rfl ⟨hP, m7, hS, RR.out, hN⟩ trivial rfl
        refine calmSteps_cons (fun u wq n hn hn2 hC hk K hK => ?_) ?_
        · obtain ⟨hP, m7, hS, hR, hN⟩ := hC
          clear hk
          have z7 := m7.cell
          have RR := Lib.hid hR; clear hR
          go_simp
          exact hK _ _ _ rfl ⟨hP, m7, hS, RR.out, hN⟩ trivial rfl
        refine calmSteps_cons (fun u wq n hn hn2 hC hk K hK => ?_) ?_
        · obtain ⟨hP, m7, hS, hR, hN⟩ := hC
          simp only [calmKnown, List.getElem?_cons_zero, List.getElem?_cons_succ, and_true, Is, Pure, Option.some.injEq, List.getD_cons_zero, List.getD_cons_succ, List.map_cons, List.map_nil] at hk
          have h3 := hk; clear hk
          simp only [h3] at hK ⊢
          have H3 := Lib.hid h3; clear h3
          have z7 := m7.cell
          have RR := Lib.hid hR; clear hR
          go_simp
          exact hK _ _ _ rfl ⟨hP, m7, hS, RR.out, hN⟩ trivial rfl
        refine calmSteps_cons (fun u wq n hn hn2 hC hk K hK => ?_) ?_
        · obtain ⟨hP, m7, hS, hR, hN⟩ := hC
          simp only [calmKnown, List.getElem?_cons_zero, List.getElem?_cons_succ, and_true, Is, Pure, Option.some.injEq, List.getD_cons_zero, List.getD_cons_succ, List.map_cons, List.map_nil] at hk
          obtain ⟨h2, h4⟩ := hk
          simp only [h2, h4] at hK ⊢
          have H2 := Lib.hid h2; clear h2; have H4 := Lib.hid h4; clear h4
          have z7 := m7.cell
          have RR := Lib.hid hR; clear hR
          go_simp
          exact hK _ _ _ rfl ⟨hP, m7, hS, RR.out, hN⟩ trivial rfl
        refine calmSteps_cons (fun u wq n hn hn2 hC hk K hK => ?_) ?_
        · obtain ⟨hP, m7, hS, hR, hN⟩ := hC
          simp only [calmKnown, List.getElem?_cons_zero, List.getElem?_cons_succ, and_true, Is, Pure, Option.some.injEq, List.getD_cons_zero, List.getD_cons_succ, List.map_cons, List.map_nil] at hk
          have h5 := hk; clear hk
          simp only [h5] at hK ⊢
          have H5 := Lib.hid h5; clear h5
          have z7 := m7.cell
          have RR := Lib.hid hR; clear hR
          go_simp
          exact hK _ _ _ rfl ⟨hP, m7, hS, RR.out, hN⟩ trivial rfl
        refine calmSteps_cons (fun u wq n hn hn2 hC hk K hK => ?_) ?_
        · obtain ⟨hP, m7, hS, hR, hN⟩ := hC
          simp only [calmKnown, List.getElem?_cons_zero, List.getElem?_cons_succ, and_true, Is, Pure, Option.some.injEq, List.getD_cons_zero, List.getD_cons_succ, List.map_cons, List.map_nil] at hk
          have h6 := hk; clear hk
          simp only [h6] at hK ⊢
          have H6 := Lib.hid h6; clear h6
          have z7 := m7.cell
          have y2 := E2 _ hP
          have RR := Lib.hid hR; clear hR
          go_simp
          exact hK _ _ _ rfl ⟨hP, m7, hS, RR.out, hN⟩ trivial rfl
        refine calmSteps_cons (fun u wq n hn hn2 hC hk K hK => ?_) ?_
        · obtain ⟨hP, m7, hS, hR, hN⟩ := hC
          simp only [calmKnown, List.getElem?_cons_zero, List.getElem?_cons_succ, and_true, Is, Pure, Option.some.injEq, List.getD_cons_zero, List.getD_cons_succ, List.map_cons, List.map_nil] at hk
          have h7 := hk; clear hk
          simp only [h7] at hK ⊢
          have H7 := Lib.hid h7; clear h7
          have z7 := m7.cell
          have RR := Lib.hid hR; clear hR
          go_simp
          exact hK _ _ _ rfl ⟨hP, m7, hS, RR.out, hN⟩ trivial rfl
        refine calmSteps_cons (fun u wq n hn hn2 hC hk K hK => ?_) ?_
        · obtain ⟨hP, m7, hS, hR, hN⟩ := hC
          simp only [calmKnown, List.getElem?_cons_zero, List.getElem?_cons_succ, and_true, Is, Pure, Option.some.injEq, List.getD_cons_zero, List.getD_cons_succ, List.map_cons, List.map_nil] at hk
          obtain ⟨h1, h8⟩ := hk
          simp only [h1, h8] at hK ⊢
          have H1 := Lib.hid h1; clear h1; have H8 := Lib.hid h8; clear h8
          have z7 := m7.cell
          have RR := Lib.hid hR; clear hR
          go_simp
          exact hK _ _ _ rfl ⟨hP, m7, hS, RR.out, hN⟩ trivial rfl
        refine calmSteps_cons (fun u wq n hn hn2 hC hk K hK => ?_) ?_
        · obtain ⟨hP, m7, hS, hR, hN⟩ := hC
          clear hk
          have z7 := m7.cell
          have RR := Lib.hid hR; clear hR
          go_simp
          exact hK _ _ _ rfl ⟨hP, m7, hS, RR.out, hN⟩ trivial rfl
        refine calmSteps_cons (fun u wq n hn hn2 hC hk K hK => ?_) ?_
        · obtain ⟨hP, m7, hS, hR, hN⟩ := hC
          simp only [calmKnown, List.getElem?_cons_zero, List.getElem?_cons_succ, and_true, Is, Pure, Option.some.injEq, List.getD_cons_zero, List.getD_cons_succ, List.map_cons, List.map_nil] at hk
          obtain ⟨h9, h10⟩ := hk
          simp only [h9, h10] at hK ⊢
          have H9 := Lib.hid h9; clear h9; have H10 := Lib.hid h10; clear h10
          have hn1 := hn2 1 13 rfl (by kernel_rfl)
          have RR := Lib.hid hR; clear hR
          go_simp
          exact hK _ _ _ rfl ⟨hP, m7, hS, RR.out, NewC.val (show NewC _ _ _ n [u 12, u 11] wq from hN) hn1⟩ trivial rfl
        refine calmSteps_cons (fun u wq n hn hn2 hC hk K hK => ?_) ?_
        · obtain ⟨hP, m7, hS, hR, hN⟩ := hC
          clear hk
          obtain rfl := hn 0 rfl
          have RR := Lib.hid hR; clear hR
          go_simp
          exact hK _ _ _ rfl ⟨hP.alloc hP.size _, m7.alloc _, by simp; omega, RR.out.alloc _, NewC.made (x := u 11) hS⟩ trivial trivial
        refine calmSteps_cons (fun u wq n hn hn2 hC hk K hK => ?_) ?_
        · obtain ⟨hP, m7, hS, hR, hN⟩ := hC
          simp only [calmKnown, List.getElem?_cons_zero, List.getElem?_cons_succ, and_true, Is, Pure, Option.some.injEq, List.getD_cons_zero, List.getD_cons_succ, List.map_cons, List.map_nil] at hk
          have h11 := hk; clear hk
          simp only [h11] at hK ⊢
          have H11 := Lib.hid h11; clear h11
          obtain rfl := hn 1 rfl
          obtain ⟨g, h12, gb, gl, hB⟩ := NewC.one (show NewC _ _ _ 1 [u 12, u 11] wq from hN)
          simp only [h12] at hK ⊢
          have H12 := Lib.hid h12; clear h12 hN
          have hz0 := hB.cell; have hf0 := hB.frozen; have hl0 := hB.lt
          have hB2 : Blk _ _ _ _ := (((hB.set_ 0 (.int .i64 xa)).set_ 1 (.int .i64 (y - 1))).set_ 2 (.int .i64 c))
          simp only [List.setIfInBounds_toArray, List.set_cons_zero, List.set_cons_succ] at hB2
          have nb : s7 ≠ g := by omega
          have hR3 := ((RowP.kept hR (set_grown wq g 0 (.int .i64 xa)) (fun k hk e => by have := HR5.out.lt k hk; injection e with e; omega)).kept (set_grown _ g 1 (.int .i64 (y - 1))) (fun k hk e => by have := HR5.out.lt k hk; injection e with e; omega)).kept (set_grown _ g 2 (.int .i64 c)) (fun k hk e => by have := HR5.out.lt k hk; injection e with e; omega)
          have RR := Lib.hid hR3; clear hR hR3
          go_simp
          exact hK _ undef _ rfl ⟨((hP.setCell (by simp; omega) _).setCell (by simp; omega) _).setCell (by simp; omega) _, ((m7.far nb _).far nb _).far nb _, by simp; omega, RR.out, (show NewC _ _ _ 2 [u 12, u 11] _ from by rw [H12.out, H11.out]; exact NewC.stored gb hB2)⟩ trivial trivial
        exact calmSteps_nil
      · intro u w8 hC hF
        obtain ⟨hP, m7, hS, hR, hN⟩ := hC
        obtain ⟨g8, cs5, h12, gb, h11', hB⟩ := NewC.last (show NewC _ _ _ 2 [u 12, u 11] w8 from hN)
        simp only [calmFacts, Pure, Is, List.map_cons, List.map_nil, and_true, Nat.zero_add, Nat.reduceAdd] at hF
        obtain ⟨-, -, -, -, -, -, -, -, -, -, -, h11⟩ := hF
        rw [h11'] at h11
        obtain rfl : cs5 = _ := by injection h11
        simp only [h12]
        have n78 : s7 ≠ g8 := by omega
        have l78 : s7 < g8 := by omega
        have g8w : w1.heap.size ≤ g8 := by omega
        have HR8 := Lib.hid hR
        clear h11 h11' h12 hN hR b7 K5 Z5 HR5 E2 gb hS s5
        have Z8 := hP.size
        obtain ⟨c7, f7, l7, -, -⟩ := Blk.facts m7
        obtain ⟨cB, fB, lB, -, -⟩ := Blk.facts hB
        obtain ⟨out, hout⟩ : ∃ out, pcsAt ds k = out := ⟨_, rfl⟩
        have hbd : ∀ q ∈ out, -1152921504606846976 ≤ q.hi ∧ q.hi ≤ 1152921504606846976 := fun q hq => by
          obtain ⟨a1, a2⟩ := HLK.out k hk
          have b1 := HLO.out k hk
          rw [hout] at a1 a2 b1
          have ha2 := a2 q hq hlt
          rw [HXK.out] at ha2
          dsimp only at ha2
          have := b1 q hq
          have := (a1.1 q hq).1
          have := HXA.out
          omega
        have HBD := Lib.hid hbd; clear hbd
        rw [hout] at HR8 HN2 hpl
        clear hout
        obtain ⟨i0, hif, hz0, hz1, hz2⟩ := info_parts infoPc
        by_cases m0 : out.length = 0
        · obtain ⟨A3, c3, rfl⟩ := RowP.len HR8.out
          have g3 : decide (0 < (out.length : Int)) = false := decide_eq_false (by omega)
          have g3n : decide (0 < out.length) = false := decide_eq_false (by omega)
          have had : addP out ⟨xa, y - 1, c⟩ = out ++ [⟨xa, y - 1, c⟩] := if_neg (by rintro ⟨h, -⟩; omega)
          have HM0 := Lib.hid m0; clear m0
          have HAD := Lib.hid had; clear had
          go_wp2_with fail
          go_quiet (fail)
          go_wp2_with (at_builtin; refine wpList_append_lies _ rfl _ _ 199 rfl w1.heap.size 202 i0 (.agg #[.int .i64 0, .int .i64 0, .int .i64 0]) 3 24 Tryz.underlying199 hif hz0 hz1 hz2 rfl (by decide) _ out.length (cellsP out) rfl (RowP.alloc (RowP.drewN HR8.out nq) _) ⟨w8.heap.size, 0, none⟩ 1 1 [.int .i64 xa, .int .i64 (y - 1), .int .i64 c] rfl rfl (World.news_of_block (t := 202) (fr := (0, 0)) (Blk.new _ _ _)) ?c2 (by decide) ?c3 ?c4 ?c5 _ rfl ?_)
          case c2 => first | exact ⟨rfl, rfl, rfl⟩ | (intro u hu; simp at hu; rcases hu with rfl | rfl | rfl <;> rfl)
          case c3 => unfold maxLen; omega
          case c4 => omega
          case c5 => first | omega | (simp; omega)
          intro g9 cp9 w9 hown hgrow hlie hglt
          have K9 : Below w1.heap.size w1 w9 := ((below_drewN hP nq).alloc (by show w1.heap.size ≤ w8.heap.size; omega) _).grown hgrow (by simp; omega) (fun k hk => (RowP.lt HR8.out k hk).1)
          have hrow9 : RowP w9 w1.heap.size (.slice (some ⟨g9, 0, none⟩) (out.length + 1) cp9) (out ++ [⟨xa, y - 1, c⟩]) := by
            unfold RowP
            rw [List.length_append, List.length_singleton, cellsP_snoc]; exact hown
          clear hown hgrow hlie hglt g3
          have R9 := Lib.hid hrow9; clear hrow9
          go_wp2
          go_roundg (ds.length - (k + 1))
          case measure => omega
          case rel => exact ⟨k + 1, by omega, by omega, by go_num, by rw [HPS.out], by rw [HN2.out, HAD.out]; exact R9.out, K9⟩
        · obtain ⟨a, x9, rfl⟩ := snoc_of (show 0 < out.length by omega)
          obtain ⟨g, cp, rfl, hg1, hg2, hgf, hgc⟩ := RowP.form HR8.out (by simp)
          obtain ⟨-, d1, d2⟩ := hgc a.length (by simp)
          clear hgc
          have hln : (a ++ [x9]).length = a.length + 1 := by simp
          have hgl : (a ++ [x9]).getD a.length ⟨0, 0, 0⟩ = x9 := by simp [List.getD_eq_getElem?_getD]
          have hgl2 : (a ++ [x9]).getD ((a ++ [x9]).length - 1) ⟨0, 0, 0⟩ = x9 := by simp [List.getD_eq_getElem?_getD]
          rw [hgl] at d1 d2
          have hset : ∀ p : Pc, (a ++ [x9]).set ((a ++ [x9]).length - 1) p = a ++ [p] := fun p => by rw [hln, Nat.add_sub_cancel, List.set_append, if_neg (by omega), Nat.sub_self]; rfl
          have hadd : addP (a ++ [x9]) ⟨xa, y - 1, c⟩ = if 0 < (a ++ [x9]).length ∧ x9.n = c ∧ x9.hi + 1 = xa then a ++ [⟨x9.lo, y - 1, c⟩] else (a ++ [x9]) ++ [⟨xa, y - 1, c⟩] := by
            unfold addP; rw [hgl2, hset]
          have HADD := Lib.hid hadd; have HLN := Lib.hid hln; clear hadd hgl hgl2 hset
          have hHR : RowP w8 w1.heap.size (.slice (some ⟨g, 0, none⟩) (a.length + 1) cp) (a ++ [x9]) := by have := HR8.out; rwa [HLN.out] at this
          rw [hln] at hpl ⊢
          clear HR8 hln m0
          have HR8 := Lib.hid hHR; clear hHR
          have hbx := HBD.out x9 (by simp)
          obtain ⟨xl, xh, xn⟩ := x9
          dsimp only at hbx
          dsimp only at d1 d2 HADD
          obtain ⟨m, hm⟩ : ∃ m, m = a.length := ⟨_, rfl⟩
          rw [← hm] at d1 d2 hpl ⊢
          rw [← hm] at HR8
          have HM := Lib.hid hm; clear hm
          have wm : IntKind.i64.wrap (((m : Int) + 1) - 1) = (m : Int) := by rw [show (m : Int) + 1 - 1 = (m : Int) by omega]; exact IntWalk.i64_in _ (by omega)
          have wm2 : IntKind.i64.wrap ((((m + 1 : Nat) : Int)) - 1) = (m : Int) := by rw [show (((m + 1 : Nat) : Int)) - 1 = (m : Int) by omega]; exact IntWalk.i64_in _ (by omega)
          have g3 : decide (0 < (((m + 1 : Nat)) : Int)) = true := decide_eq_true (by omega)
          have g3b : decide (0 < ((m : Int) + 1)) = true := decide_eq_true (by omega)
          have n7g : g ≠ s7 := by have := hns7 g (by simp [Value.ownBlock]); omega
          have n8g : g ≠ g8 := by have := hns7 g (by simp [Value.ownBlock]); omega
          have hR9 : RowP w8 w1.heap.size (.slice (some ⟨g, 0, none⟩) (a ++ [(⟨xl, xh, xn⟩ : Pc)]).length cp) (a ++ [(⟨xl, xh, xn⟩ : Pc)]) := by have := HR8.out; rw [HLN.out, ← HM.out]; exact this
          have HR9 := Lib.hid hR9; clear hR9
          have hg2' : g < w8.heap.size := hg2
          by_cases q1 : xn = c
          · have HQ1 := Lib.hid q1
            obtain rfl : c = xn := q1.symm
            have wx : IntKind.i64.wrap (xh + 1) = xh + 1 := IntWalk.i64_in _ (by omega)
            by_cases q2 : xh + 1 = xa
            · have HQ2 := Lib.hid q2
              have g5 : decide (xh + 1 = xa) = true := decide_eq_true q2
              have g5b : ((xh + 1) == xa) = true := by simpa using q2
              clear q2
              have had : addP (a ++ [(⟨xl, xh, c⟩ : Pc)]) ⟨xa, y - 1, c⟩ = a ++ [⟨xl, y - 1, c⟩] := by rw [HADD.out, if_pos ⟨by simp, rfl, HQ2.out⟩]
              have HAD := Lib.hid had; clear had
              have hfz := hgf (m * 3 + 1)
              go_wp2_with fail
              go_quiet (fail)
              have hs9 := World.ownsRow.stored (RowP.drewN HR9.out nq) (m * 3 + 1) (.int .i64 (y - 1))
              have HS9 := Lib.hid hs9; clear hs9
              go_wp2
              go_roundg (ds.length - (k + 1))
              case measure => omega
              case rel =>
                refine ⟨k + 1, by omega, by omega, by go_num, by rw [HPS.out], ?_, by (repeat' (first | (with_reducible exact hP) | (with_reducible refine Below.setCell ?_ ?_ _) | (with_reducible refine Below.alloc ?_ ?_ _) | (with_reducible refine Below.drew ?_) | (with_reducible refine below_drewN ?_ _))) <;> (first | omega | (simp <;> omega))⟩
                rw [HN2.out, HAD.out]
                have h1 := HS9.out.1
                unfold RowP
                have e1 : (a ++ [(⟨xl, y - 1, c⟩ : Pc)]).length = (a ++ [(⟨xl, xh, c⟩ : Pc)]).length := by simp
                rw [e1, ← cellsP_set a ⟨xl, xh, c⟩ (y - 1), ← HM.out]
                have e2 := HLN.out
                rw [e2, ← HM.out] at h1
                rw [e2, ← HM.out]
                exact h1
            · have g5 : decide (xh + 1 = xa) = false := decide_eq_false q2
              have g5b : ((xh + 1) == xa) = false := by simpa using q2
              have had : addP (a ++ [(⟨xl, xh, c⟩ : Pc)]) ⟨xa, y - 1, c⟩ = (a ++ [(⟨xl, xh, c⟩ : Pc)]) ++ [⟨xa, y - 1, c⟩] := by rw [HADD.out, if_neg (fun h => q2 h.2.2)]
              have HAD := Lib.hid had; clear had
              go_wp2_with fail
              go_quiet (fail)
              go_wp2_with (at_builtin; refine wpList_append_lies _ rfl _ _ 199 rfl w1.heap.size 202 i0 (.agg #[.int .i64 0, .int .i64 0, .int .i64 0]) 3 24 Tryz.underlying199 hif hz0 hz1 hz2 rfl (by decide) _ (a ++ [(⟨xl, xh, c⟩ : Pc)]).length (cellsP (a ++ [(⟨xl, xh, c⟩ : Pc)])) (by rw [HLN.out, HM.out]; rfl) (RowP.alloc (RowP.drewN HR9.out nq) _) ⟨w8.heap.size, 0, none⟩ 1 1 [.int .i64 xa, .int .i64 (y - 1), .int .i64 c] rfl rfl (World.news_of_block (t := 202) (fr := (0, 0)) (Blk.new _ _ _)) ?c2 (by decide) ?c3 ?c4 ?c5 _ rfl ?_)
              case c2 => first | exact ⟨rfl, rfl, rfl⟩ | (intro u hu; simp at hu; rcases hu with rfl | rfl | rfl <;> rfl)
              case c3 => rw [HLN.out, ← HM.out]; unfold maxLen; omega
              case c4 => rw [HLN.out, ← HM.out]; omega
              case c5 => first | omega | (simp; omega)
              intro g9 cp9 w9 hown hgrow hlie hglt
              have K9 : Below w1.heap.size w1 w9 := ((below_drewN hP nq).alloc (by show w1.heap.size ≤ w8.heap.size; omega) _).grown hgrow (by simp; omega) (fun k hk => (RowP.lt HR9.out k hk).1)
              have hrow9 : RowP w9 w1.heap.size (.slice (some ⟨g9, 0, none⟩) (a.length + 1 + 1) cp9) ((a ++ [(⟨xl, xh, c⟩ : Pc)]) ++ [⟨xa, y - 1, c⟩]) := by
                unfold RowP
                rw [show ((a ++ [(⟨xl, xh, c⟩ : Pc)]) ++ [(⟨xa, y - 1, c⟩ : Pc)]).length = a.length + 1 + 1 from by simp, cellsP_snoc (a ++ [(⟨xl, xh, c⟩ : Pc)])]; exact hown
              clear hown hgrow hlie hglt
              have R9 := Lib.hid hrow9; clear hrow9
              go_wp2
              go_roundg (ds.length - (k + 1))
              case measure => omega
              case rel => exact ⟨k + 1, by omega, by omega, by go_num, by rw [HPS.out], by rw [HN2.out, HAD.out]; exact R9.out, K9⟩
          · have g4 : decide (xn = c) = false := decide_eq_false q1
            have g4b : (xn == c) = false := by simpa using q1
            have had : addP (a ++ [(⟨xl, xh, xn⟩ : Pc)]) ⟨xa, y - 1, c⟩ = (a ++ [(⟨xl, xh, xn⟩ : Pc)]) ++ [⟨xa, y - 1, c⟩] := by rw [HADD.out, if_neg (fun h => q1 h.2.1)]
            have HAD := Lib.hid had; clear had
            go_wp2_with fail
            go_quiet (fail)
            go_wp2_with (at_builtin; refine wpList_append_lies _ rfl _ _ 199 rfl w1.heap.size 202 i0 (.agg #[.int .i64 0, .int .i64 0, .int .i64 0]) 3 24 Tryz.underlying199 hif hz0 hz1 hz2 rfl (by decide) _ (a ++ [(⟨xl, xh, xn⟩ : Pc)]).length (cellsP (a ++ [(⟨xl, xh, xn⟩ : Pc)])) (by rw [HLN.out, HM.out]; rfl) (RowP.alloc (RowP.drewN HR9.out nq) _) ⟨w8.heap.size, 0, none⟩ 1 1 [.int .i64 xa, .int .i64 (y - 1), .int .i64 c] rfl rfl (World.news_of_block (t := 202) (fr := (0, 0)) (Blk.new _ _ _)) ?c2 (by decide) ?c3 ?c4 ?c5 _ rfl ?_)
            case c2 => first | exact ⟨rfl, rfl, rfl⟩ | (intro u hu; simp at hu; rcases hu with rfl | rfl | rfl <;> rfl)
            case c3 => rw [HLN.out, ← HM.out]; unfold maxLen; omega
            case c4 => rw [HLN.out, ← HM.out]; omega
            case c5 => first | omega | (simp; omega)
            intro g9 cp9 w9 hown hgrow hlie hglt
            have K9 : Below w1.heap.size w1 w9 := ((below_drewN hP nq).alloc (by show w1.heap.size ≤ w8.heap.size; omega) _).grown hgrow (by simp; omega) (fun k hk => (RowP.lt HR9.out k hk).1)
            have hrow9 : RowP w9 w1.heap.size (.slice (some ⟨g9, 0, none⟩) (a.length + 1 + 1) cp9) ((a ++ [(⟨xl, xh, xn⟩ : Pc)]) ++ [⟨xa, y - 1, c⟩]) := by
              unfold RowP
              rw [show ((a ++ [(⟨xl, xh, xn⟩ : Pc)]) ++ [(⟨xa, y - 1, c⟩ : Pc)]).length = a.length + 1 + 1 from by simp, cellsP_snoc (a ++ [(⟨xl, xh, xn⟩ : Pc)])]; exact hown
            clear hown hgrow hlie hglt
            have R9 := Lib.hid hrow9; clear hrow9
            go_wp2
            go_roundg (ds.length - (k + 1))
            case measure => omega
            case rel => exact ⟨k + 1, by omega, by omega, by go_num, by rw [HPS.out], by rw [HN2.out, HAD.out]; exact R9.out, K9⟩
    · obtain rfl : ds.length = k := by omega
      have gk : decide ((ds.length : Int) < (ds.length : Int)) = false := decide_eq_false (by omega)
      obtain ⟨A9, c9, rfl⟩ := RowP.len HROW.out
      have hpc := pcs_of_row HROW.out (by omega)
      have HPC := Lib.hid hpc; clear hpc
      go_wp2
      go_ret
      exact ⟨A9, c9, pcsAt ds ds.length, rfl, HPC.out, HLAW.out.1, HLAW.out.2, by omega, (kept_call (by repeat' (first | (with_reducible exact KR) | (with_reducible refine Below.setCell ?_ ?_ _) | (with_reducible refine Below.alloc ?_ ?_ _))) K1)⟩
end Go.Proofs.YtiinmhfolfgobaaGreatDoor
