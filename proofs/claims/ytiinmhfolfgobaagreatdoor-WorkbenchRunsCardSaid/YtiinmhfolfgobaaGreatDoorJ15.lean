/- Lemmas. -/
import Derived.BigQuiet
import Derived.Deep.AppendLies
import Derived.Deep.LoopGhost
import Derived.Deep.QuietTactic
import Derived.Laws.AppendOwnNone
import Derived.OwnWalk
import Derived.Test.YtiinmhfolfgobaaGreatDoorJ9
import Derived.Test.YtiinmhfolfgobaaGreatDoorJ14
set_option linter.unusedVariables false
set_option linter.unusedSimpArgs false
namespace Go.Proofs.YtiinmhfolfgobaaGreatDoor
open Go.RowKit Go.Shelf Go.Sort
def RowS (w : World) (base : Nat) (v : Value) (zs : List (Int × Int)) : Prop := w.ownsRow base 40 2 v zs.length (cellsS zs)
theorem RowS.form {w : World} {base : Nat} {v : Value} {zs : List (Int × Int)} (h : RowS w base v zs) (hl : 0 < zs.length) : ∃ g cap, v = .slice (some ⟨g, 0, none⟩) zs.length cap ∧ base ≤ g ∧ g < w.heap.size ∧ (∀ j, j < zs.length → w.cell? ⟨g, j * 2, none⟩ = some (.int .i64 (zs.getD j (0, 0)).1) ∧ w.cell? ⟨g, j * 2 + 1, none⟩ = some (.int .i64 (zs.getD j (0, 0)).2)) := by
 obtain ⟨g, c, e, h1, h2⟩ := World.ownsRow.form h hl
 subst e
 refine ⟨g, c, rfl, h1, h2, fun j hj => ?_⟩
 obtain ⟨a1, a2⟩ := cellsS_get zs j hj
 refine ⟨?_, ?_⟩
 ·rw [World.ownsRow.cellAt h _ Yo]; exact a1
 ·rw [World.ownsRow.cellAt h _ Yo]; exact a2
theorem RowS.len {w : World} {base : Nat} {v : Value} {zs : List (Int × Int)} (h : RowS w base v zs) : ∃ A cap, v = .slice A zs.length cap := by
 obtain ⟨-, ⟨e, hn⟩ | ⟨g, cap, cur, e, -⟩⟩ := h
 ·exact ⟨none, 0, by rw [e, hn]⟩
 ·exact ⟨_, _, e⟩
theorem RowS.nil {w : World} {base : Nat} : RowS w base (.slice none 0 0) [] := World.ownsRow_nil _ _ _ _
theorem RowS.kept {w w' : World} {base : Nat} {v : Value} {zs : List (Int × Int)} {row : Option Nat} (h : RowS w base v zs) (hg : w.grownBy w' row) (hn : ∀ k, v.ownBlock = some k → some k ≠ row) : RowS w' base v zs :=
 World.ownsRow.kept h hg (by
  cases hv : v.ownBlock with
  | none => exact .inl rfl
  | some k => exact .inr (hn k hv))
theorem RowS.lt {w : World} {base : Nat} {v : Value} {zs : List (Int × Int)} (h : RowS w base v zs) : ∀ k, v.ownBlock = some k → base ≤ k ∧ k < w.heap.size := World.ownsRow.lt h
theorem RowS.alloc {w : World} {base : Nat} {v : Value} {zs : List (Int × Int)} (h : RowS w base v zs) (o : Obj) : RowS (w.alloc o) base v zs := World.ownsRow.alloc h o
theorem RowS.drewN {w : World} {base : Nat} {v : Value} {zs : List (Int × Int)} (h : RowS w base v zs) (n : Nat) : RowS (w.drewN n) base v zs := h
theorem set_grown (w : World) (g k : Nat) (u : Value) : w.grownBy (w.setCell ⟨g, k, none⟩ u) (some g) := ⟨rfl, rfl, rfl, by simp [World.setCell], fun kk hk hn => Below.heap_setCell _ _ _ _ (fun e => hn (by rw [e]))⟩
theorem spans_of_row {w : World} {base : Nat} {A : Option Addr} {cap : Nat} {zs : List (Int × Int)} (h : RowS w base (.slice A zs.length cap) zs) (hm : zs.length ≤ 9223372036854775807) : SpansAt w A zs.length zs := spans_of_own h hm
set_option maxHeartbeats 8000000
set_option maxRecDepth 100000
def ckE (zs : List (Int × Int)) : Int := if 64 < zs.length then 8 else if badS zs = true then 3 else 0
theorem ckE_8 {zs : List (Int × Int)} (h : 64 < zs.length) : ckE zs = 8 := if_pos h
theorem ckE_3 {zs : List (Int × Int)} (h : ¬ 64 < zs.length) (h2 : badS zs = true) : ckE zs = 3 := by unfold ckE; rw [if_neg h, if_pos h2]
theorem ckE_0 {zs : List (Int × Int)} (h : ¬ 64 < zs.length) (h2 : badS zs = false) : ckE zs = 0 := by unfold ckE; rw [if_neg h, if_neg (by rw [h2]; simp)]
theorem valid_of {zs : List (Int × Int)} (h : badS zs = false) : ∀ z ∈ zs, vS z.1 z.2 = true := fun z hz' => by have h1 := List.any_eq_false.1 h z hz'; simpa using h1
theorem bad_of {zs : List (Int × Int)} (h : ∀ z ∈ zs, vS z.1 z.2 = true) : badS zs = false := by
 unfold badS anyS; rw [List.any_eq_false]; intro z hz; simp [h z hz]
theorem swcheck1_any (lo hi : Int) (w : World) :
  Calls Tryz.prog 185 #[.agg #[.int .i64 lo, .int .i64 hi]] w (RB w (.bool (!vS lo hi))) := by
 have H := Yh (fun W' => svalid_any lo hi W')
 go_enter Tryz.func185, Tryz.ntmps185
 go_wp2_with fail
 refine (H.out _).mono ?_
 rintro e w' ⟨rfl, rfl⟩
 go_wp2
 go_ret
 exact ⟨by simp, bl0⟩
theorem swcheck_any (A : Option Addr) (len cap : Nat) (zs : List (Int × Int)) (w : World) (h : SpansAt w A len zs) :
  Calls Tryz.prog 147 #[.slice A len cap] w (RB w (.int .i64 (ckE zs))) := by
 have hz := h.1
 have hlm := h.2.1
 subst hz
 have hc := contS 185 (enters_of Tryz.func185 Yr rfl) (fun lo hi => !vS lo hi) swcheck1_any A zs.length cap zs w h
 rw [show anyS (fun lo hi => !vS lo hi) zs = badS zs from rfl] at hc
 clear h
 by_cases h64 : 64 < zs.length
 ·rw [ckE_8 h64]
  have g0 : decide (64 < (zs.length : Int)) = true := Y2
  have g0n : decide (64 < zs.length) = true := decide_eq_true h64
  clear hc
  go_enter Tryz.func147, Tryz.ntmps147
  go_wp2
  go_ret
  exact ⟨rfl, bl0⟩
 ·have g0 : decide (64 < (zs.length : Int)) = false := Y3
  have g0n : decide (64 < zs.length) = false := decide_eq_false h64
  cases hb : badS zs with
  | true =>
   rw [ckE_3 h64 hb]
   rw [hb] at hc
   have HC := Yh hc; clear hc hb
   go_enter Tryz.func147, Tryz.ntmps147
   go_wp2_with fail
   refine (HC.out).mono ?_
   rintro e w1 ⟨rfl, hb1⟩
   have K1 : Below w.heap.size w w1 := Yc hb1 bl0
   have Z1 := K1.size
   clear hb1
   go_wp2
   go_ret
   exact ⟨rfl, bl1⟩
  | false =>
   rw [ckE_0 h64 hb]
   rw [hb] at hc
   have HC := Yh hc; clear hc hb
   go_enter Tryz.func147, Tryz.ntmps147
   go_wp2_with fail
   refine (HC.out).mono ?_
   rintro e w1 ⟨rfl, hb1⟩
   have K1 : Below w.heap.size w w1 := Yc hb1 bl0
   have Z1 := K1.size
   clear hb1
   go_wp2
   go_ret
   exact ⟨rfl, bl1⟩
theorem events1_any (x y : Int × Int) (W : World) : Calls Tryz.prog 234 #[.agg #[.int .i64 x.1, .int .i64 x.2], .agg #[.int .i64 y.1, .int .i64 y.2]] W fun e w' => e = .returned (.int .i64 (loC x y)) ∧ ∃ q os', w' = grow (W.drewN q) os' := by
 have h := fun W' => compare_any x.1 y.1 W'
 unfold loC
 have H := Yh h; clear h
 go_enter Tryz.func234, Tryz.ntmps234
 go_wp2_with fail
 refine (H.out _).mono ?_
 rintro e w' ⟨rfl, rfl⟩
 go_wp2
 go_ret
 exact ⟨rfl, 0, _, by rw [alloc_eq_grow, alloc_eq_grow, grow_grow]; rfl⟩
theorem infoEv : (Tryz.prog.info? 231).map (fun i => (i.zero, i.size, i.bytes)) = some (some (.agg #[.int .i64 0, .int .i64 0]), 2, 16) := by kernel_rfl
def RowE (w : World) (base : Nat) (v : Value) (zs : List (Int × Int)) : Prop := w.ownsRow base 231 2 v zs.length (cellsS zs)
def EvRel (w : World) (zs : List (Int × Int)) (G : Nat) (v i : Value) (wr : World) : Prop := ∃ q : Nat, q ≤ zs.length ∧ G = zs.length - q ∧ i = .int .i64 q ∧ (∃ A cap, v = .slice A (evs (zs.take q)).length cap) ∧ RowE wr w.heap.size v (evs (zs.take q)) ∧ Below w.heap.size w wr
theorem lo_swo : SWO (ltOf loC) := loSwo
theorem events_any (A : Option Addr) (len cap : Nat) (zs : List (Int × Int)) (hv : ∀ z ∈ zs, vS z.1 z.2 = true) (h64 : len ≤ 64) (w : World) (h : SpansAt w A len zs) :
  Calls Tryz.prog 215 #[.slice A len cap] w (fun e w' => ∃ (A' : Option Addr) (cap' : Nat) (ds : List (Int × Int)), e = .returned (.slice A' ds.length cap') ∧ SortedBy loC (evs zs) ds ∧ SpansAt w' A' ds.length ds ∧ Below w.heap.size w w') := by
 have hz := h.1
 subst hz
 have H := Yh h; have HV := Yh hv; clear h hv
 go_enter Tryz.func215, Tryz.ntmps215
 go_wp2
 go_loopg [3, 8] zs.length (fun G v i wr => EvRel w zs G v i wr)
 case atStart => exact ⟨0, Yo, Yo, rfl, ⟨none, 0, rfl⟩, World.ownsRow_nil _ _ _ _, bl0⟩
 case round =>
  obtain ⟨q, hq, rfl, rfl, hform, hrow, KR⟩ := hrel
  have ZR := KR.size
  have HROW := Yh hrow; clear hrow
  have hel := evs_length (zs.take q)
  rw [List.length_take] at hel
  have hel9 : (evs (zs.take q)).length ≤ 128 := by omega
  clear hel
  by_cases hlt : q < zs.length
  ·have gk : decide ((q : Int) < (zs.length : Int)) = true := Y2
   have wq : IntKind.i64.wrap ((q : Int) + 1) = ((q + 1 : Nat) : Int) := Y4
   obtain ⟨bl, off, rfl, hb, hcs⟩ := H.out.2.2 Yo
   obtain ⟨e0, e1⟩ := hcs q hlt
   clear hcs
   have e0 := (KR.cell (p := ⟨bl, off + q * 2, none⟩) hb).trans e0
   have e1 := (KR.cell (p := ⟨bl, off + q * 2 + 1, none⟩) hb).trans e1
   have hbW : bl < wr.heap.size := by omega
   have hvz := HV.out (zs.getD q (0, 0)) (by rw [Y8, Y9 hlt]; exact List.getElem_mem _)
   have hnx : evs (zs.take (q + 1)) = evs (zs.take q) ++ [((zs.getD q (0, 0)).1, 1), ((zs.getD q (0, 0)).2 + 1, -1)] := by rw [take_snocC (0, 0) zs hlt, evs_snoc]
   have HNX := Yh hnx; clear hnx
   generalize zs.getD q (0, 0) = z at *
   obtain ⟨x, y⟩ := z
   dsimp only at e0 e1 hvz
   have gv := vS_true.1 hvz
   clear hvz
   have wy : IntKind.i64.wrap (y + 1) = y + 1 := IntWalk.i64_in _ Yo
   obtain ⟨i0, hif, hz0, hz1, hz2⟩ := info_parts infoEv
   generalize evs (zs.take q) = es at *
   obtain ⟨A3, c3, rfl⟩ := hform
   go_wp2_with (at_builtin; refine wpList_append_lies _ rfl _ _ 228 rfl w.heap.size 231 i0 (.agg #[.int .i64 0, .int .i64 0]) 2 16 Tryz.underlying228 hif hz0 hz1 hz2 rfl Yd _ es.length (cellsS es) rfl (World.ownsRow.alloc (World.ownsRow.alloc HROW.out _) _) ⟨wr.heap.size + 1, 0, none⟩ 2 2 [.int .i64 x, .int .i64 1, .int .i64 (y + 1), .int .i64 (-1)] rfl rfl (World.news_of_block (t := 231) (fr := (0, 0)) (Blk.new1 _ _ _ _)) ?c2 Yd ?c3 ?c4 ?c5 _ rfl ?_)
   case c2 => first | exact ⟨rfl, rfl, rfl, rfl⟩ | (intro u hu; simp at hu; rcases hu with rfl | rfl | rfl | rfl <;> rfl)
   case c3 => unfold maxLen; omega
   case c4 => omega
   case c5 => first | omega | (simp; omega)
   intro g9 cp9 w7 hown hgrow hlie hglt
   have K7 : Below w.heap.size w w7 := ((KR.alloc ZR _).alloc (by simp; omega) _).grown hgrow (by simp; omega) (fun k hk => (World.ownsRow.lt HROW.out k hk).1)
   have hrow7 : RowE w7 w.heap.size (.slice (some ⟨g9, 0, none⟩) (es.length + 2) cp9) (es ++ [(x, 1), (y + 1, -1)]) := by
    unfold RowE
    have e : cellsS (es ++ [(x, 1), (y + 1, -1)]) = cellsS es ++ [.int .i64 x, .int .i64 1, .int .i64 (y + 1), .int .i64 (-1)] := by simp [cellsS]
    rw [lla, e]; exact hown
   clear hown hgrow hlie hglt e0 e1
   have R7 := Yh hrow7; clear hrow7
   go_wp2
   go_roundg (zs.length - (q + 1))
   case measure => omega
   case rel => exact ⟨q + 1, Yo, Yo, by go_num, ⟨_, _, by rw [HNX.out, lla]; rfl⟩, by rw [HNX.out]; exact R7.out, K7⟩
  ·obtain rfl : zs.length = q := by omega
   have gk : decide ((zs.length : Int) < (zs.length : Int)) = false := Y3
   rw [List.take_length] at hel9 HROW hform
   obtain ⟨A3, c3, rfl⟩ := hform
   have hsf := sortFuncE loC lo_swo 234 (enters_of Tryz.func234 Yr rfl) events1_any w.heap.size (.slice A3 (evs zs).length c3) (evs zs) wr HROW.out ZR Yo
   have HSF := Yh hsf; clear hsf
   generalize hes : evs zs = es at *
   have HES := Yh hes; clear hes
   go_wp2_with fail
   refine HSF.out.mono ?_
   rintro e w7 ⟨rfl, A', c', ds, hsl, hsb, hsp, hb7⟩
   have hA' : A3 = A' ∧ c3 = c' := by injection hsl with h1 h2 h3; exact ⟨h1, h3⟩
   obtain ⟨rfl, rfl⟩ := hA'
   have hl : ds.length = es.length := hsb.1.length_eq
   have K7 := KR.trans hb7
   have HS := Yh (Ya hsb hsp); have HL := Yh hl
   clear hsb hsp hl hb7 hsl
   go_wp2
   go_ret
   exact ⟨A3, c3, ds, by rw [HL.out]; rfl, by rw [HES.out]; exact HS.out.1, by have := HS.out.2; rwa [← HL.out] at this, K7⟩
set_option maxHeartbeats 16000000
def cellsP (ps : List Pc) : List Value := ps.flatMap fun p => [.int .i64 p.lo, .int .i64 p.hi, .int .i64 p.n]
theorem cellsP_length (ps : List Pc) : (cellsP ps).length = ps.length * 3 := by
 induction ps with
 | nil => rfl
 | cons z zs ih => simp only [cellsP, List.flatMap_cons, lla, List.length_cons, List.length_nil] at *; omega
theorem cellsP_snoc (ps : List Pc) (p : Pc) : cellsP (ps ++ [p]) = cellsP ps ++ [.int .i64 p.lo, .int .i64 p.hi, .int .i64 p.n] := by simp [cellsP]
theorem cellsP_get (ps : List Pc) : ∀ j, j < ps.length → (cellsP ps)[j * 3]? = some (.int .i64 (ps.getD j ⟨0, 0, 0⟩).lo) ∧ (cellsP ps)[j * 3 + 1]? = some (.int .i64 (ps.getD j ⟨0, 0, 0⟩).hi) ∧ (cellsP ps)[j * 3 + 2]? = some (.int .i64 (ps.getD j ⟨0, 0, 0⟩).n) := by
 induction ps with
 | nil => intro j hj; simp at hj
 | cons z zs ih =>
  intro j hj
  have e : cellsP (z :: zs) = .int .i64 z.lo :: .int .i64 z.hi :: .int .i64 z.n :: cellsP zs := by simp [cellsP]
  cases j with
  | zero => rw [e]; simp
  | succ j =>
   have := ih j (by simpa using hj)
   rw [e, show (j + 1) * 3 = j * 3 + 1 + 1 + 1 by omega]
   simpa using this
theorem cellsP_set (a : List Pc) (x : Pc) (h : Int) : (cellsP (a ++ [x])).set (a.length * 3 + 1) (.int .i64 h) = cellsP (a ++ [⟨x.lo, h, x.n⟩]) := by
 rw [cellsP_snoc, cellsP_snoc, List.set_append, cellsP_length, if_neg Yo, show a.length * 3 + 1 - a.length * 3 = 1 by omega]
 rfl
def PcsAt (w : World) (A : Option Addr) (len : Nat) (ps : List Pc) : Prop :=
 ps.length = len ∧ len ≤ 9223372036854775807 ∧ (0 < len → ∃ b off, A = some ⟨b, off, none⟩ ∧ b < w.heap.size ∧ ∀ j, j < len → w.cell? ⟨b, off + j * 3, none⟩ = some (.int .i64 (ps.getD j ⟨0, 0, 0⟩).lo) ∧ w.cell? ⟨b, off + j * 3 + 1, none⟩ = some (.int .i64 (ps.getD j ⟨0, 0, 0⟩).hi) ∧ w.cell? ⟨b, off + j * 3 + 2, none⟩ = some (.int .i64 (ps.getD j ⟨0, 0, 0⟩).n))
theorem PcsAt.below {w w' : World} {A : Option Addr} {len : Nat} {ps : List Pc} (h : PcsAt w A len ps) (hb : Below w.heap.size w w') : PcsAt w' A len ps := by
 obtain ⟨h1, h2, h3⟩ := h
 refine ⟨h1, h2, fun hl => ?_⟩
 obtain ⟨b, off, rfl, hlt, hc⟩ := h3 hl
 exact ⟨b, off, rfl, Nat.lt_of_lt_of_le hlt hb.size, fun j hj => ⟨cell_below hb (hc j hj).1, cell_below hb (hc j hj).2.1, cell_below hb (hc j hj).2.2⟩⟩
def RowP (w : World) (base : Nat) (v : Value) (ps : List Pc) : Prop := w.ownsRow base 202 3 v ps.length (cellsP ps)
theorem RowP.form {w : World} {base : Nat} {v : Value} {ps : List Pc} (h : RowP w base v ps) (hl : 0 < ps.length) : ∃ g cap, v = .slice (some ⟨g, 0, none⟩) ps.length cap ∧ base ≤ g ∧ g < w.heap.size ∧ (∀ i, w.frozen? ⟨g, i, none⟩ = false) ∧ ∀ j, j < ps.length → w.cell? ⟨g, j * 3, none⟩ = some (.int .i64 (ps.getD j ⟨0, 0, 0⟩).lo) ∧ w.cell? ⟨g, j * 3 + 1, none⟩ = some (.int .i64 (ps.getD j ⟨0, 0, 0⟩).hi) ∧ w.cell? ⟨g, j * 3 + 2, none⟩ = some (.int .i64 (ps.getD j ⟨0, 0, 0⟩).n) := by
 obtain ⟨g, c, e, h1, h2⟩ := World.ownsRow.form h hl
 subst e
 refine ⟨g, c, rfl, h1, h2, fun i => World.ownsRow.frozenAt h i, fun j hj => ?_⟩
 obtain ⟨a1, a2, a3⟩ := cellsP_get ps j hj
 refine ⟨?_, ?_, ?_⟩
 ·rw [World.ownsRow.cellAt h _ Yo]; exact a1
 ·rw [World.ownsRow.cellAt h _ Yo]; exact a2
 ·rw [World.ownsRow.cellAt h _ Yo]; exact a3
theorem RowP.nil {w : World} {base : Nat} : RowP w base (.slice none 0 0) [] := World.ownsRow_nil _ _ _ _
theorem RowP.kept {w w' : World} {base : Nat} {v : Value} {ps : List Pc} {row : Option Nat} (h : RowP w base v ps) (hg : w.grownBy w' row) (hn : ∀ k, v.ownBlock = some k → some k ≠ row) : RowP w' base v ps :=
 World.ownsRow.kept h hg (by
  cases hv : v.ownBlock with
  | none => exact .inl rfl
  | some k => exact .inr (hn k hv))
theorem RowP.lt {w : World} {base : Nat} {v : Value} {ps : List Pc} (h : RowP w base v ps) : ∀ k, v.ownBlock = some k → base ≤ k ∧ k < w.heap.size := World.ownsRow.lt h
theorem RowP.alloc {w : World} {base : Nat} {v : Value} {ps : List Pc} (h : RowP w base v ps) (o : Obj) : RowP (w.alloc o) base v ps := World.ownsRow.alloc h o
theorem RowP.drewN {w : World} {base : Nat} {v : Value} {ps : List Pc} (h : RowP w base v ps) (n : Nat) : RowP (w.drewN n) base v ps := h
theorem RowP.len {w : World} {base : Nat} {v : Value} {ps : List Pc} (h : RowP w base v ps) : ∃ A cap, v = .slice A ps.length cap := by
 obtain ⟨-, ⟨e, hn⟩ | ⟨g, cap, cur, e, -⟩⟩ := h
 ·exact ⟨none, 0, by rw [e, hn]⟩
 ·exact ⟨_, _, e⟩
theorem pcs_of_row {w : World} {base : Nat} {A : Option Addr} {cap : Nat} {ps : List Pc} (h : RowP w base (.slice A ps.length cap) ps) (hm : ps.length ≤ 9223372036854775807) : PcsAt w A ps.length ps := by
 refine ⟨rfl, hm, fun hl => ?_⟩
 obtain ⟨g, c, e, h1, h2, h3, h4⟩ := h.form hl
 cases e
 exact ⟨g, 0, rfl, h2, fun j hj => by rw [Nat.zero_add]; exact h4 j hj⟩
theorem infoPc : (Tryz.prog.info? 202).map (fun i => (i.zero, i.size, i.bytes)) = some (some (.agg #[.int .i64 0, .int .i64 0, .int .i64 0]), 3, 24) := by kernel_rfl
theorem evs_in {zs : List (Int × Int)} (hv : ∀ z ∈ zs, vS z.1 z.2 = true) : ∀ e ∈ evs zs, (e.2 = 1 ∨ e.2 = -1) ∧ -1152921504606846976 ≤ e.1 ∧ e.1 ≤ 1152921504606846977 := by
 intro e he
 obtain ⟨z, hz, he⟩ := List.mem_flatMap.1 he
 have g := vS_true.1 (hv z hz)
 simp at he
 rcases he with rfl | rfl <;> simp <;> omega
theorem psum_in {es : List (Int × Int)} (h : ∀ e ∈ es, e.2 = 1 ∨ e.2 = -1) : -(es.length : Int) ≤ psum es ∧ psum es ≤ es.length := by
 induction es with
 | nil => simp [psum]
 | cons e es ih =>
  have := ih (fun x hx => h x (by simp [hx]))
  have := h e Ys
  rw [psum_cons, List.length_cons]; omega
def PcRel (w1 : World) (ds : List (Int × Int)) (G : Nat) (v3 v5 i : Value) (wr : World) : Prop := ∃ k : Nat, k ≤ ds.length ∧ G = ds.length - k ∧ i = .int .i64 k ∧ v5 = .int .i64 (psum (ds.take k)) ∧ RowP wr w1.heap.size v3 (pcsAt ds k) ∧ Below w1.heap.size w1 wr
def PiecesR (w : World) (zs : List (Int × Int)) (e : Ending) (w' : World) : Prop := ∃ (A : Option Addr) (cap : Nat) (ps : List Pc), e = .returned (.slice A ps.length cap) ∧ PcsAt w' A ps.length ps ∧ PCan ps ∧ (∀ t, cntP ps t = cntS zs t) ∧ ps.length ≤ 128 ∧ Below w.heap.size w w'
theorem pieces_any (A : Option Addr) (len cap : Nat) (zs : List (Int × Int)) (hv : ∀ z ∈ zs, vS z.1 z.2 = true) (h64 : len ≤ 64) (w : World) (h : SpansAt w A len zs) :
  Calls Tryz.prog 186 #[.slice A len cap] w (PiecesR w zs) := by
 have hz := h.1
 subst hz
 have HE := Yh (fun W (hW : Below w.heap.size w W) => events_any A zs.length cap zs hv h64 W (h.below hW))
 have HV := Yh hv; clear h hv
 go_enter Tryz.func186, Tryz.ntmps186
 go_wp2_with fail
 refine (HE.out _ bl0).mono ?_
 rintro e w1 ⟨A1, c1, ds, rfl, hsb, hsp, hb1⟩
 have K1 : Below w.heap.size w w1 := Yc hb1 bl0
 have Z1 := K1.size
 clear hb1
 have hdl : ds.length ≤ 128 := by rw [hsb.1.length_eq, evs_length]; omega
 have hel := evs_in HV.out
 have hei : ∀ e ∈ ds, (e.2 = 1 ∨ e.2 = -1) ∧ -1152921504606846976 ≤ e.1 ∧ e.1 ≤ 1152921504606846977 := fun e he => hel e (hsb.1.mem_iff.1 he)
 have hlaw := pieces_law HV.out hsb
 have hlk := pieces_step HV.out hsb
 have hlo := pcs_lo (ds := ds) (b := -1152921504606846976) (fun e he => (hei e he).2.1)
 have HLK := Yh hlk; have HLO := Yh hlo; clear hlk hlo
 have HLAW := Yh hlaw; have HEI := Yh hei; have HSP := Yh hsp; clear hlaw hei hel hsb hsp HE
 go_wp2
 go_loopg [3, 5, 14] ds.length (fun G v3 v5 i wr => PcRel w1 ds G v3 v5 i wr)
 case atStart => exact ⟨0, Yo, Yo, rfl, rfl, RowP.nil, bl0⟩
 case round =>
  obtain ⟨k, hk, rfl, rfl, rfl, hrow, KR⟩ := hrel
  have ZR := KR.size
  have HROW := Yh hrow; clear hrow
  have hpi := psum_in (es := ds.take k) (fun e he => (HEI.out e (List.mem_of_mem_take he)).1)
  rw [List.length_take] at hpi
  have hpb : -128 ≤ psum (ds.take k) ∧ psum (ds.take k) ≤ 128 := by omega
  clear hpi
  have hpl := pcsAt_length ds k
  by_cases hlt : k < ds.length
  ·have gk : decide ((k : Int) < (ds.length : Int)) = true := Y2
   have wk : IntKind.i64.wrap ((k : Int) + 1) = ((k + 1 : Nat) : Int) := Y4
   obtain ⟨bl, off, rfl, hb, hcs⟩ := HSP.out.2.2 Yo
   obtain ⟨e0, e1⟩ := hcs k hlt
   have HCS := Yh hcs; clear hcs
   have e0 := (KR.cell (p := ⟨bl, off + k * 2, none⟩) hb).trans e0
   have e1 := (KR.cell (p := ⟨bl, off + k * 2 + 1, none⟩) hb).trans e1
   have hbW : bl < wr.heap.size := by omega
   have hxe := HEI.out (ds.getD k (0, 0)) (by rw [Y8, Y9 hlt]; exact List.getElem_mem _)
   have hps : psum (ds.take (k + 1)) = psum (ds.take k) + (ds.getD k (0, 0)).2 := by rw [take_snocC (0, 0) ds hlt, psum_app]; simp [psum]
   have hnx : pcsAt ds (k + 1) = if skipE ds k then pcsAt ds k else addP (pcsAt ds k) ⟨(ds.getD k (0, 0)).1, (ds.getD (k + 1) (0, 0)).1 - 1, psum (ds.take (k + 1))⟩ := rfl
   have hsk : skipE ds k ↔ psum (ds.take (k + 1)) = 0 ∨ k + 1 = ds.length ∨ (ds.getD (k + 1) (0, 0)).1 = (ds.getD k (0, 0)).1 := Iff.rfl
   have HXA := Yh (show (ds.getD k (0, 0)).1 ≤ 1152921504606846977 from hxe.2.2)
   generalize hxk : ds.getD k (0, 0) = x at *
   have HXK := Yh hxk; clear hxk
   obtain ⟨xa, xb⟩ := x
   dsimp only at e0 e1 hxe hps hnx hsk
   obtain ⟨c, hc⟩ : ∃ c, psum (ds.take (k + 1)) = c := ⟨_, rfl⟩
   rw [hc] at hps hnx hsk
   have wc : IntKind.i64.wrap (psum (ds.take k) + xb) = c := by rw [IntWalk.i64_in _ Yo]; exact hps.symm
   have cb : -130 ≤ c ∧ c ≤ 130 := by omega
   have HPS := Yh hc; clear hc hps
   generalize psum (ds.take k) = ck at *
   have HNX := Yh hnx; have HSK := Yh hsk; clear hnx hsk
   by_cases k0 : c = 0
   ·subst k0
    go_wp2_with fail
    go_quiet (fail)
    go_wp2
    go_roundg (ds.length - (k + 1))
    case measure => omega
    case rel => exact ⟨k + 1, Yo, Yo, by go_num, by rw [HPS.out], by rw [HNX.out, if_pos (HSK.out.2 Ys)]; exact RowP.drewN (RowP.alloc HROW.out _) _, bl1⟩
   have g0 : decide (c = 0) = false := decide_eq_false k0
   have g0b : (c == 0) = false := by simpa using k0
   by_cases k1 : k + 1 = ds.length
   ·have g1 : decide (((k + 1 : Nat) : Int) = (ds.length : Int)) = true := Y2
    have g1b : ((((k + 1 : Nat) : Int)) == (ds.length : Int)) = true := by rw [beq_iff_eq]; omega
    have g1c : decide ((k : Int) + 1 = (ds.length : Int)) = true := Y2
    have g1d : (((k : Int) + 1) == (ds.length : Int)) = true := by rw [beq_iff_eq]; omega
    have HK1 := Yh k1; clear k1
    go_wp2_with fail
    go_quiet (fail)
    go_wp2
    go_roundg (ds.length - (k + 1))
    case measure => omega
    case rel => exact ⟨k + 1, Yo, Yo, by go_num, by rw [HPS.out], by rw [HNX.out, if_pos (HSK.out.2 (.inr (.inl HK1.out)))]; exact RowP.drewN (RowP.alloc HROW.out _) _, bl1⟩
   have g1 : decide (((k + 1 : Nat) : Int) = (ds.length : Int)) = false := Y3
   have g1b : ((((k + 1 : Nat) : Int)) == (ds.length : Int)) = false := Y5
   have g1c : decide ((k : Int) + 1 = (ds.length : Int)) = false := Y3
   have g1d : (((k : Int) + 1) == (ds.length : Int)) = false := Y5
   have hk1 : k + 1 < ds.length := by omega
   have e2 := (KR.cell (p := ⟨bl, off + (k + 1) * 2, none⟩) hb).trans (HCS.out (k + 1) hk1).1
   have hye := HEI.out (ds.getD (k + 1) (0, 0)) (by rw [Y8, Y9 hk1]; exact List.getElem_mem _)
   obtain ⟨y, hy⟩ : ∃ y, (ds.getD (k + 1) (0, 0)).1 = y := ⟨_, rfl⟩
   rw [hy] at e2 hye HNX HSK
   have E2 : ∀ W, Below w1.heap.size w1 W → W.cell? ⟨bl, off + (k + 1) * 2, none⟩ = some (.int .i64 y) := fun W h => by
    have := (h.cell (p := ⟨bl, off + (k + 1) * 2, none⟩) hb).trans (HCS.out (k + 1) hk1).1
    rw [hy] at this; exact this
   clear hy
   have nbw : bl ≠ wr.heap.size := by omega
   by_cases k2 : y = xa
   ·have HK2 := Yh k2
    subst k2
    go_wp2_with fail
    go_quiet (fail)
    go_wp2
    go_roundg (ds.length - (k + 1))
    case measure => omega
    case rel => exact ⟨k + 1, Yo, Yo, by go_num, by rw [HPS.out], by rw [HNX.out, if_pos (HSK.out.2 Ys)]; exact RowP.drewN (RowP.alloc HROW.out _) _, bl1⟩
   have g2 : decide (y = xa) = false := decide_eq_false k2
   have g2b : (y == xa) = false := by simpa using k2
   have hns : ¬ skipE ds k := fun h => by rcases HSK.out.1 h with h | h | h <;> contradiction
   have hnx2 : pcsAt ds (k + 1) = addP (pcsAt ds k) ⟨xa, y - 1, c⟩ := by rw [HNX.out, if_neg hns]
   have HN2 := Yh hnx2; clear hnx2 hns HNX HSK
   have wy : IntKind.i64.wrap (y - 1) = y - 1 := IntWalk.i64_in _ Yo
   go_wp2_with fail
   go_quiet (fail)
   go_upto_region 9 with fail
   have hki0 : (0 : Int) ≤ (k : Int) + 1 := by omega
   have hki : (k : Int) + 1 < (ds.length : Int) := by omega
   have b7 : Blk ((wr.alloc (.cells #[.int .i64 xa, .int .i64 xb] 231)).drewN nq) wr.heap.size 231 #[.int .i64 xa, .int .i64 xb] := Blk.drewN (Blk.new _ _ _) nq
   have R5 : RowP ((wr.alloc (.cells #[.int .i64 xa, .int .i64 xb] 231)).drewN nq) w1.heap.size _ (pcsAt ds k) := RowP.drewN (RowP.alloc HROW.out _) nq
   have K5 : Below w1.heap.size w1 ((wr.alloc (.cells #[.int .i64 xa, .int .i64 xb] 231)).drewN nq) := below_drewN (KR.alloc ZR _) nq
   have s5 : wr.heap.size < ((wr.alloc (.cells #[.int .i64 xa, .int .i64 xb] 231)).drewN nq).heap.size := by simp
   obtain ⟨s7, hs7⟩ : ∃ s7, wr.heap.size = s7 := ⟨_, rfl⟩
   rw [hs7] at b7 s5 nbw hbW ⊢
   have h7w : w1.heap.size ≤ s7 := by omega
   have hns7 : ∀ kk, u3.ownBlock = some kk → kk < s7 := fun kk hkk => by have := HROW.out.lt kk hkk; omega
   clear KR ZR HROW e0 e1 e2 g0 g0b g1 g1b g1c g1d g2 g2b hs7
   generalize ((wr.alloc (.cells #[.int .i64 xa, .int .i64 xb] 231)).drewN nq) = w5 at *
   have Z5 := K5.size
   have HR5 := Yh R5; clear R5
   refine wp_region_calm Yr (fun n us w' => Below w1.heap.size w1 w' ∧ Blk w' s7 231 #[.int .i64 xa, .int .i64 xb] ∧ w5.heap.size ≤ w'.heap.size ∧ RowP w' w1.heap.size u3 (pcsAt ds k) ∧ NewC w5.heap.size 202 #[.int .i64 0, .int .i64 0, .int .i64 0] n us w') (fun _ _ => True) [(Is (.pointer (some ⟨s7, 0, none⟩))), (Is (.int .i64 xa)), (Is (.slice (some ⟨bl, off, none⟩) ds.length c1)), (Is (.int .i64 (k : Int))), (Is (.int .i64 ((k : Int) + 1))), (Is (.pointer (some ⟨bl, off + (k + 1) * 2, none⟩))), (Is (.pointer (some ⟨bl, off + (k + 1) * 2, none⟩))), (Is (.int .i64 y)), (Is (.int .i64 (y - 1))), (Is (.agg #[.int .i64 xa, .int .i64 (y - 1)])), (Is (.int .i64 c)), (Is (.agg #[.int .i64 xa, .int .i64 (y - 1), .int .i64 c])), (fun _ _ _ => True), (fun _ _ _ => True)] [[], [0], [], [], [3], [2, 4], [5], [6], [7], [1, 8], [], [9, 10], [], [11]] [12, 13] [12, 11] rfl Yr Yp ?_ (Y1 (Y1 (Y1 (Y1 (Y1 (Y1 (Y1 (Y1 (Y1 (Y1 (Y1 (Y1 (Y0 (Y0 Yn)))))))))))))) ?_ ?_
   ·intro _
    exact ⟨K5.drew, b7.drew, Nat.le_refl _, HR5.out, .inl rfl⟩
   ·skip
    iterate 7 refine zq1 (fun _ _ _ _ _ ⟨_, m7, _⟩ => m7.cell) ?_
    refine zq1 (fun _ _ _ _ _ ⟨hP, m7, _⟩ => Ya m7.cell (E2 _ hP)) ?_
    iterate 3 refine zq1 (fun _ _ _ _ _ ⟨_, m7, _⟩ => m7.cell) ?_
    refine Yz (fun u wq n hn hn2 hC hk K hK => ?_) ?_
    ·obtain ⟨hP, m7, hS, hR, hN⟩ := hC
     simp only [calmKnown, lg0, lg1, and_true, Is] at hk
     obtain ⟨h9, h10⟩ := hk
     simp only [h9, h10] at hK ⊢
     have H9 := Yh h9; clear h9; have H10 := Yh h10; clear h10
     have hn1 := hn2 1 13 rfl Yr
     have RR := Yh hR; clear hR
     go_simp
     exact hK _ _ _ rfl ⟨hP, m7, hS, RR.out, NewC.val (show NewC _ _ _ n [u 12, u 11] wq from hN) hn1⟩ trivial rfl
    refine Yz (fun u wq n hn hn2 hC hk K hK => ?_) ?_
    ·obtain ⟨hP, m7, hS, hR, hN⟩ := hC
     clear hk
     obtain rfl := hn 0 rfl
     have RR := Yh hR; clear hR
     go_simp
     exact hK _ _ _ rfl ⟨hP.alloc hP.size _, m7.alloc _, by simp; omega, RR.out.alloc _, NewC.made (x := u 11) hS⟩ trivial trivial
    refine Yz (fun u wq n hn hn2 hC hk K hK => ?_) ?_
    ·obtain ⟨hP, m7, hS, hR, hN⟩ := hC
     simp only [calmKnown, lg0, lg1, and_true, Is] at hk
     have h11 := hk; clear hk
     simp only [h11] at hK ⊢
     have H11 := Yh h11; clear h11
     obtain rfl := hn 1 rfl
     obtain ⟨g, h12, gb, gl, hB⟩ := NewC.one (show NewC _ _ _ 1 [u 12, u 11] wq from hN)
     simp only [h12] at hK ⊢
     have H12 := Yh h12; clear h12 hN
     have hz0 := hB.cell; have hf0 := hB.frozen; have hl0 := hB.lt
     have hB2 : Blk _ _ _ _ := (((hB.set_ 0 (.int .i64 xa)).set_ 1 (.int .i64 (y - 1))).set_ 2 (.int .i64 c))
     simp only [lst, ls0, ls1] at hB2
     have nb : s7 ≠ g := by omega
     have hR3 := ((RowP.kept hR (set_grown wq g 0 (.int .i64 xa)) (fun k hk e => by have := HR5.out.lt k hk; injection e with e; omega)).kept (set_grown _ g 1 (.int .i64 (y - 1))) (fun k hk e => by have := HR5.out.lt k hk; injection e with e; omega)).kept (set_grown _ g 2 (.int .i64 c)) (fun k hk e => by have := HR5.out.lt k hk; injection e with e; omega)
     have RR := Yh hR3; clear hR hR3
     go_simp
     exact hK _ undef _ rfl ⟨((hP.setCell (by simp; omega) _).setCell (by simp; omega) _).setCell (by simp; omega) _, ((m7.far nb _).far nb _).far nb _, by simp; omega, RR.out, (show NewC _ _ _ 2 [u 12, u 11] _ from by rw [H12.out, H11.out]; exact NewC.stored gb hB2)⟩ trivial trivial
    exact Yw
   ·intro u w8 hC hF
    obtain ⟨hP, m7, hS, hR, hN⟩ := hC
    obtain ⟨g8, cs5, h12, gb, h11', hB⟩ := NewC.last (show NewC _ _ _ 2 [u 12, u 11] w8 from hN)
    simp only [calmFacts, Pure, Is, lm1, lm0, and_true, Nat.zero_add, Nat.reduceAdd] at hF
    obtain ⟨-, -, -, -, -, -, -, -, -, -, -, h11⟩ := hF
    rw [h11'] at h11
    obtain rfl : cs5 = _ := by injection h11
    simp only [h12]
    have n78 : s7 ≠ g8 := by omega
    have l78 : s7 < g8 := by omega
    have g8w : w1.heap.size ≤ g8 := by omega
    have HR8 := Yh hR
    clear h11 h11' h12 hN hR b7 K5 Z5 HR5 E2 gb hS s5
    have Z8 := hP.size
    obtain ⟨c7, f7, l7, -, -⟩ := Yf m7
    obtain ⟨cB, fB, lB, -, -⟩ := Yf hB
    obtain ⟨out, hout⟩ : ∃ out, pcsAt ds k = out := ⟨_, rfl⟩
    have hbd : ∀ q ∈ out, -1152921504606846976 ≤ q.hi ∧ q.hi ≤ 1152921504606846976 := fun q hq => by
     obtain ⟨a1, a2⟩ := HLK.out k hk
     have b1 := HLO.out k hk
     rw [hout] at a1 a2 b1
     have ha2 := a2 q hq hlt
     rw [HXK.out] at ha2
     dsimp only at ha2
     have := b1 q hq
     have := (a1.1 q hq).1
     have := HXA.out
     omega
    have HBD := Yh hbd; clear hbd
    rw [hout] at HR8 HN2 hpl
    clear hout
    obtain ⟨i0, hif, hz0, hz1, hz2⟩ := info_parts infoPc
    by_cases m0 : out.length = 0
    ·obtain ⟨A3, c3, rfl⟩ := RowP.len HR8.out
     have g3 : decide (0 < (out.length : Int)) = false := Y3
     have g3n : decide (0 < out.length) = false := Y3
     have had : addP out ⟨xa, y - 1, c⟩ = out ++ [⟨xa, y - 1, c⟩] := if_neg (by rintro ⟨h, -⟩; omega)
     have HM0 := Yh m0; clear m0
     have HAD := Yh had; clear had
     go_wp2_with fail
     go_quiet (fail)
     go_wp2_with (at_builtin; refine wpList_append_lies _ rfl _ _ 199 rfl w1.heap.size 202 i0 (.agg #[.int .i64 0, .int .i64 0, .int .i64 0]) 3 24 Tryz.underlying199 hif hz0 hz1 hz2 rfl Yd _ out.length (cellsP out) rfl (RowP.alloc (RowP.drewN HR8.out nq) _) ⟨w8.heap.size, 0, none⟩ 1 1 [.int .i64 xa, .int .i64 (y - 1), .int .i64 c] rfl rfl (World.news_of_block (t := 202) (fr := (0, 0)) (Blk.new _ _ _)) ?c2 Yd ?c3 ?c4 ?c5 _ rfl ?_)
     case c2 => first | exact ⟨rfl, rfl, rfl⟩ | (intro u hu; simp at hu; rcases hu with rfl | rfl | rfl <;> rfl)
     case c3 => unfold maxLen; omega
     case c4 => omega
     case c5 => first | omega | (simp; omega)
     intro g9 cp9 w9 hown hgrow hlie hglt
     have K9 : Below w1.heap.size w1 w9 := ((below_drewN hP nq).alloc (by show w1.heap.size ≤ w8.heap.size; omega) _).grown hgrow (by simp; omega) (fun k hk => (RowP.lt HR8.out k hk).1)
     have hrow9 : RowP w9 w1.heap.size (.slice (some ⟨g9, 0, none⟩) (out.length + 1) cp9) (out ++ [⟨xa, y - 1, c⟩]) := by
      unfold RowP
      rw [lla, List.length_singleton, cellsP_snoc]; exact hown
     clear hown hgrow hlie hglt g3
     have R9 := Yh hrow9; clear hrow9
     go_wp2
     go_roundg (ds.length - (k + 1))
     case measure => omega
     case rel => exact ⟨k + 1, Yo, Yo, by go_num, by rw [HPS.out], by rw [HN2.out, HAD.out]; exact R9.out, K9⟩
    ·obtain ⟨a, x9, rfl⟩ := snoc_of (show 0 < out.length by omega)
     obtain ⟨g, cp, rfl, hg1, hg2, hgf, hgc⟩ := RowP.form HR8.out Ys
     obtain ⟨-, d1, d2⟩ := hgc a.length Ys
     clear hgc
     have hln : (a ++ [x9]).length = a.length + 1 := by simp
     have hgl : (a ++ [x9]).getD a.length ⟨0, 0, 0⟩ = x9 := by simp [Y8]
     have hgl2 : (a ++ [x9]).getD ((a ++ [x9]).length - 1) ⟨0, 0, 0⟩ = x9 := by simp [Y8]
     rw [hgl] at d1 d2
     have hset : ∀ p : Pc, (a ++ [x9]).set ((a ++ [x9]).length - 1) p = a ++ [p] := fun p => by rw [hln, Nat.add_sub_cancel, List.set_append, if_neg Yo, Nat.sub_self]; rfl
     have hadd : addP (a ++ [x9]) ⟨xa, y - 1, c⟩ = if 0 < (a ++ [x9]).length ∧ x9.n = c ∧ x9.hi + 1 = xa then a ++ [⟨x9.lo, y - 1, c⟩] else (a ++ [x9]) ++ [⟨xa, y - 1, c⟩] := by
      unfold addP; rw [hgl2, hset]
     have HADD := Yh hadd; have HLN := Yh hln; clear hadd hgl hgl2 hset
     have hHR : RowP w8 w1.heap.size (.slice (some ⟨g, 0, none⟩) (a.length + 1) cp) (a ++ [x9]) := by have := HR8.out; rwa [HLN.out] at this
     rw [hln] at hpl ⊢
     clear HR8 hln m0
     have HR8 := Yh hHR; clear hHR
     have hbx := HBD.out x9 Ys
     obtain ⟨xl, xh, xn⟩ := x9
     dsimp only at hbx
     dsimp only at d1 d2 HADD
     obtain ⟨m, hm⟩ : ∃ m, m = a.length := ⟨_, rfl⟩
     rw [← hm] at d1 d2 hpl ⊢
     rw [← hm] at HR8
     have HM := Yh hm; clear hm
     have wm : IntKind.i64.wrap (((m : Int) + 1) - 1) = (m : Int) := by rw [show (m : Int) + 1 - 1 = (m : Int) by omega]; exact IntWalk.i64_in _ Yo
     have wm2 : IntKind.i64.wrap ((((m + 1 : Nat) : Int)) - 1) = (m : Int) := by rw [show (((m + 1 : Nat) : Int)) - 1 = (m : Int) by omega]; exact IntWalk.i64_in _ Yo
     have g3 : decide (0 < (((m + 1 : Nat)) : Int)) = true := Y2
     have g3b : decide (0 < ((m : Int) + 1)) = true := Y2
     have n7g : g ≠ s7 := by have := hns7 g (by simp [Value.ownBlock]); omega
     have n8g : g ≠ g8 := by have := hns7 g (by simp [Value.ownBlock]); omega
     have hR9 : RowP w8 w1.heap.size (.slice (some ⟨g, 0, none⟩) (a ++ [(⟨xl, xh, xn⟩ : Pc)]).length cp) (a ++ [(⟨xl, xh, xn⟩ : Pc)]) := by have := HR8.out; rw [HLN.out, ← HM.out]; exact this
     have HR9 := Yh hR9; clear hR9
     have hg2' : g < w8.heap.size := hg2
     by_cases q1 : xn = c
     ·have HQ1 := Yh q1
      obtain rfl : c = xn := q1.symm
      have wx : IntKind.i64.wrap (xh + 1) = xh + 1 := IntWalk.i64_in _ Yo
      by_cases q2 : xh + 1 = xa
      ·have HQ2 := Yh q2
       have g5 : decide (xh + 1 = xa) = true := decide_eq_true q2
       have g5b : ((xh + 1) == xa) = true := by simpa using q2
       clear q2
       have had : addP (a ++ [(⟨xl, xh, c⟩ : Pc)]) ⟨xa, y - 1, c⟩ = a ++ [⟨xl, y - 1, c⟩] := by rw [HADD.out, if_pos ⟨by simp, rfl, HQ2.out⟩]
       have HAD := Yh had; clear had
       have hfz := hgf (m * 3 + 1)
       go_wp2_with fail
       go_quiet (fail)
       have hs9 := World.ownsRow.stored (RowP.drewN HR9.out nq) (m * 3 + 1) (.int .i64 (y - 1))
       have HS9 := Yh hs9; clear hs9
       go_wp2
       go_roundg (ds.length - (k + 1))
       case measure => omega
       case rel =>
        refine ⟨k + 1, Yo, Yo, by go_num, by rw [HPS.out], ?_, bl1⟩
        rw [HN2.out, HAD.out]
        have h1 := HS9.out.1
        unfold RowP
        have e1 : (a ++ [(⟨xl, y - 1, c⟩ : Pc)]).length = (a ++ [(⟨xl, xh, c⟩ : Pc)]).length := by simp
        rw [e1, ← cellsP_set a ⟨xl, xh, c⟩ (y - 1), ← HM.out]
        have e2 := HLN.out
        rw [e2, ← HM.out] at h1
        rw [e2, ← HM.out]
        exact h1
      ·have g5 : decide (xh + 1 = xa) = false := decide_eq_false q2
       have g5b : ((xh + 1) == xa) = false := by simpa using q2
       have had : addP (a ++ [(⟨xl, xh, c⟩ : Pc)]) ⟨xa, y - 1, c⟩ = (a ++ [(⟨xl, xh, c⟩ : Pc)]) ++ [⟨xa, y - 1, c⟩] := by rw [HADD.out, if_neg (fun h => q2 h.2.2)]
       have HAD := Yh had; clear had
       go_wp2_with fail
       go_quiet (fail)
       go_wp2_with (at_builtin; refine wpList_append_lies _ rfl _ _ 199 rfl w1.heap.size 202 i0 (.agg #[.int .i64 0, .int .i64 0, .int .i64 0]) 3 24 Tryz.underlying199 hif hz0 hz1 hz2 rfl Yd _ (a ++ [(⟨xl, xh, c⟩ : Pc)]).length (cellsP (a ++ [(⟨xl, xh, c⟩ : Pc)])) (by rw [HLN.out, HM.out]; rfl) (RowP.alloc (RowP.drewN HR9.out nq) _) ⟨w8.heap.size, 0, none⟩ 1 1 [.int .i64 xa, .int .i64 (y - 1), .int .i64 c] rfl rfl (World.news_of_block (t := 202) (fr := (0, 0)) (Blk.new _ _ _)) ?c2 Yd ?c3 ?c4 ?c5 _ rfl ?_)
       case c2 => first | exact ⟨rfl, rfl, rfl⟩ | (intro u hu; simp at hu; rcases hu with rfl | rfl | rfl <;> rfl)
       case c3 => rw [HLN.out, ← HM.out]; unfold maxLen; omega
       case c4 => rw [HLN.out, ← HM.out]; omega
       case c5 => first | omega | (simp; omega)
       intro g9 cp9 w9 hown hgrow hlie hglt
       have K9 : Below w1.heap.size w1 w9 := ((below_drewN hP nq).alloc (by show w1.heap.size ≤ w8.heap.size; omega) _).grown hgrow (by simp; omega) (fun k hk => (RowP.lt HR9.out k hk).1)
       have hrow9 : RowP w9 w1.heap.size (.slice (some ⟨g9, 0, none⟩) (a.length + 1 + 1) cp9) ((a ++ [(⟨xl, xh, c⟩ : Pc)]) ++ [⟨xa, y - 1, c⟩]) := by
        unfold RowP
        rw [show ((a ++ [(⟨xl, xh, c⟩ : Pc)]) ++ [(⟨xa, y - 1, c⟩ : Pc)]).length = a.length + 1 + 1 from by simp, cellsP_snoc (a ++ [(⟨xl, xh, c⟩ : Pc)])]; exact hown
       clear hown hgrow hlie hglt
       have R9 := Yh hrow9; clear hrow9
       go_wp2
       go_roundg (ds.length - (k + 1))
       case measure => omega
       case rel => exact ⟨k + 1, Yo, Yo, by go_num, by rw [HPS.out], by rw [HN2.out, HAD.out]; exact R9.out, K9⟩
     ·have g4 : decide (xn = c) = false := decide_eq_false q1
      have g4b : (xn == c) = false := by simpa using q1
      have had : addP (a ++ [(⟨xl, xh, xn⟩ : Pc)]) ⟨xa, y - 1, c⟩ = (a ++ [(⟨xl, xh, xn⟩ : Pc)]) ++ [⟨xa, y - 1, c⟩] := by rw [HADD.out, if_neg (fun h => q1 h.2.1)]
      have HAD := Yh had; clear had
      go_wp2_with fail
      go_quiet (fail)
      go_wp2_with (at_builtin; refine wpList_append_lies _ rfl _ _ 199 rfl w1.heap.size 202 i0 (.agg #[.int .i64 0, .int .i64 0, .int .i64 0]) 3 24 Tryz.underlying199 hif hz0 hz1 hz2 rfl Yd _ (a ++ [(⟨xl, xh, xn⟩ : Pc)]).length (cellsP (a ++ [(⟨xl, xh, xn⟩ : Pc)])) (by rw [HLN.out, HM.out]; rfl) (RowP.alloc (RowP.drewN HR9.out nq) _) ⟨w8.heap.size, 0, none⟩ 1 1 [.int .i64 xa, .int .i64 (y - 1), .int .i64 c] rfl rfl (World.news_of_block (t := 202) (fr := (0, 0)) (Blk.new _ _ _)) ?c2 Yd ?c3 ?c4 ?c5 _ rfl ?_)
      case c2 => first | exact ⟨rfl, rfl, rfl⟩ | (intro u hu; simp at hu; rcases hu with rfl | rfl | rfl <;> rfl)
      case c3 => rw [HLN.out, ← HM.out]; unfold maxLen; omega
      case c4 => rw [HLN.out, ← HM.out]; omega
      case c5 => first | omega | (simp; omega)
      intro g9 cp9 w9 hown hgrow hlie hglt
      have K9 : Below w1.heap.size w1 w9 := ((below_drewN hP nq).alloc (by show w1.heap.size ≤ w8.heap.size; omega) _).grown hgrow (by simp; omega) (fun k hk => (RowP.lt HR9.out k hk).1)
      have hrow9 : RowP w9 w1.heap.size (.slice (some ⟨g9, 0, none⟩) (a.length + 1 + 1) cp9) ((a ++ [(⟨xl, xh, xn⟩ : Pc)]) ++ [⟨xa, y - 1, c⟩]) := by
       unfold RowP
       rw [show ((a ++ [(⟨xl, xh, xn⟩ : Pc)]) ++ [(⟨xa, y - 1, c⟩ : Pc)]).length = a.length + 1 + 1 from by simp, cellsP_snoc (a ++ [(⟨xl, xh, xn⟩ : Pc)])]; exact hown
      clear hown hgrow hlie hglt
      have R9 := Yh hrow9; clear hrow9
      go_wp2
      go_roundg (ds.length - (k + 1))
      case measure => omega
      case rel => exact ⟨k + 1, Yo, Yo, by go_num, by rw [HPS.out], by rw [HN2.out, HAD.out]; exact R9.out, K9⟩
  ·obtain rfl : ds.length = k := by omega
   have gk : decide ((ds.length : Int) < (ds.length : Int)) = false := Y3
   obtain ⟨A9, c9, rfl⟩ := RowP.len HROW.out
   have hpc := pcs_of_row HROW.out Yo
   have HPC := Yh hpc; clear hpc
   go_wp2
   go_ret
   exact ⟨A9, c9, pcsAt ds ds.length, rfl, HPC.out, HLAW.out.1, HLAW.out.2, Yo, (Yc (by repeat' (first | (with_reducible exact KR) | (with_reducible refine Below.setCell ?_ ?_ _) | (with_reducible refine Below.alloc ?_ ?_ _))) K1)⟩
def stepL (n : Int) (out : List (Int × Int)) (p : Pc) : List (Int × Int) := if p.n < n then out else if 0 < out.length ∧ (out.getD (out.length - 1) (0, 0)).2 + 1 = p.lo then out.set (out.length - 1) ((out.getD (out.length - 1) (0, 0)).1, p.hi) else out ++ [(p.lo, p.hi)]
def leastP (n : Int) (ps : List Pc) : List (Int × Int) := ps.foldl (stepL n) []
theorem leastP_snoc (n : Int) (ps : List Pc) (p : Pc) : leastP n (ps ++ [p]) = stepL n (leastP n ps) p := by simp [leastP]
theorem stepL_length (n : Int) (out : List (Int × Int)) (p : Pc) : (stepL n out p).length ≤ out.length + 1 := by
 unfold stepL
 split
 ·omega
 ·split <;> simp
theorem leastP_length (n : Int) (ps : List Pc) : (leastP n ps).length ≤ ps.length := by
 suffices H : ∀ (ps : List Pc) (out : List (Int × Int)), (ps.foldl (stepL n) out).length ≤ out.length + ps.length by
  have := H ps []; simpa [leastP] using this
 intro ps
 induction ps with
 | nil => simp
 | cons p ps ih =>
  intro out
  have := ih (stepL n out p)
  have := stepL_length n out p
  simp only [List.foldl_cons, List.length_cons] at *
  omega
theorem PCan.init {a : List Pc} {x : Pc} (h : PCan (a ++ [x])) : PCan a ∧ (∀ q ∈ a, q.hi < x.lo) := by
 refine ⟨⟨fun q hq => h.1 q (by simp [hq]), fun i hi => ?_⟩, ?_⟩
 ·have := h.2 i (by simp; omega)
  simp only [Y8] at this ⊢
  rw [List.getElem?_append_left Yo, List.getElem?_append_left Yo] at this
  exact this
 ·have key : ∀ (a : List Pc) (x : Pc), PCan (a ++ [x]) → ∀ q ∈ a, q.hi < x.lo := by
   intro a
   induction a with
   | nil => intro x _ q hq; simp at hq
   | cons p a ih =>
    intro x h q hq
    rcases List.mem_cons.1 hq with rfl | hq
    ·exact PCan.above (by simpa using h) x Ys
    ·exact ih x (PCan.tail (by simpa using h)) q hq
  exact key a x h
theorem cntP_at : ∀ {ps : List Pc}, PCan ps → ∀ p ∈ ps, ∀ t, p.lo ≤ t → t ≤ p.hi → cntP ps t = p.n
 | [], _, p, hp, _, _, _ => by simp at hp
 | q :: ps, h, p, hp, t, h1, h2 => by
  rw [cntP_cons]
  rcases List.mem_cons.1 hp with rfl | hp
  ·rw [cntP_below (fun r hr => by have := h.above r hr; omega)]
   unfold pcAt
   rw [if_pos ⟨h1, h2⟩]; omega
  ·have := h.above p hp
   rw [cntP_at h.tail p hp t h1 h2]
   unfold pcAt
   rw [if_neg Yo]; omega
theorem pc_in {zs : List (Int × Int)} {ps : List Pc} (h : PCan ps) (hc : ∀ t, cntP ps t = cntS zs t) : ∀ p ∈ ps, vS p.lo p.hi = true := by
 intro p hp
 have hp0 := h.1 p hp
 have inz : ∀ t, 1 ≤ cntS zs t → -1152921504606846976 ≤ t ∧ t ≤ 1152921504606846976 := fun t ht => by
  have h1 : anyIn t zs = true := by rw [cntS_any]; exact decide_eq_true ht
  obtain ⟨z, _, hz⟩ := List.any_eq_true.1 h1
  obtain ⟨a, b, c⟩ := inS_iff.1 hz
  have := vS_true.1 a
  omega
 have a1 := inz p.lo (by rw [← hc, cntP_at h p hp p.lo (Int.le_refl _) hp0.1]; exact hp0.2)
 have a2 := inz p.hi (by rw [← hc, cntP_at h p hp p.hi hp0.1 (Int.le_refl _)]; exact hp0.2)
 exact vS_true.2 ⟨Yo, Yo, Yo⟩
theorem least_law (n : Int) (hn : 1 ≤ n) (ps : List Pc) (h : PCan ps) (hv : ∀ p ∈ ps, vS p.lo p.hi = true) : gapsS (leastP n ps) ∧ (∀ z ∈ leastP n ps, vS z.1 z.2 = true ∧ ∃ p ∈ ps, z.2 = p.hi) ∧ ∀ t, anyIn t (leastP n ps) = decide (n ≤ cntP ps t) := by
 suffices H : ∀ k, ∀ ps : List Pc, ps.length = k → PCan ps → (∀ p ∈ ps, vS p.lo p.hi = true) → gapsS (leastP n ps) ∧ (∀ z ∈ leastP n ps, vS z.1 z.2 = true ∧ ∃ p ∈ ps, z.2 = p.hi) ∧ ∀ t, anyIn t (leastP n ps) = decide (n ≤ cntP ps t) from H _ ps rfl h hv
 intro k
 induction k with
 | zero =>
  intro ps hl _ _
  obtain rfl : ps = [] := List.length_eq_zero_iff.1 hl
  refine ⟨fun i hi => by simp [leastP] at hi, by simp [leastP], fun t => ?_⟩
  rw [show cntP [] t = 0 from rfl, Y3]; rfl
 | succ k ih =>
  intro ps hl h hv
  obtain ⟨a, x, rfl⟩ := snoc_of (l := ps) Yo
  obtain ⟨ha, hax⟩ := h.init
  obtain ⟨g1, g2, g3⟩ := ih a (by simp at hl; omega) ha (fun p hp => hv p (by simp [hp]))
  have hx := h.1 x Ys
  have hvx := hv x Ys
  rw [leastP_snoc]
  generalize leastP n a = out at *
  -- all that is there ends ahead of x
  have hob : ∀ z ∈ out, z.2 < x.lo := fun z hz => by
   obtain ⟨_, p, hp, e⟩ := g2 z hz
   have := hax p hp; omega
  have ct : ∀ t, cntP (a ++ [x]) t = cntP a t + pcAt x t := fun t => by rw [cntP_app]; simp [cntP]
  have c0 : ∀ t, x.lo ≤ t → cntP a t = 0 := fun t ht => cntP_above (fun q hq => by have := hax q hq; omega)
  have o0 : ∀ t, x.lo ≤ t → anyIn t out = false := fun t ht => by
   unfold anyIn; rw [List.any_eq_false]; intro z hz hi
   have := hob z hz
   have := (inS_iff.1 hi).2; omega
  unfold stepL
  by_cases hc : x.n < n
  ·rw [if_pos hc]
   refine ⟨g1, fun z hz => ⟨(g2 z hz).1, by obtain ⟨_, p, hp, e⟩ := g2 z hz; exact ⟨p, by simp [hp], e⟩⟩, fun t => ?_⟩
   rw [g3 t, ct]
   unfold pcAt
   by_cases c : x.lo ≤ t ∧ t ≤ x.hi
   ·rw [if_pos c, c0 t c.1, Y3, Y3]
   ·rw [if_neg c, Int.add_zero]
  ·rw [if_neg hc]
   by_cases hm : 0 < out.length ∧ (out.getD (out.length - 1) (0, 0)).2 + 1 = x.lo
   ·rw [if_pos hm]
    obtain ⟨hm0, hm1⟩ := hm
    obtain ⟨b, y, rfl⟩ := snoc_of hm0
    have ey : (b ++ [y]).getD ((b ++ [y]).length - 1) (0, 0) = y := by simp [Y8]
    have es : ∀ u : Int × Int, (b ++ [y]).set ((b ++ [y]).length - 1) u = b ++ [u] := fun u => by
     rw [lla, List.length_singleton, Nat.add_sub_cancel, List.set_append, if_neg Yo, Nat.sub_self]; rfl
    rw [ey] at hm1 ⊢
    rw [es]
    obtain ⟨vy, py, hpy, ey2⟩ := g2 y Ys
    have gy := vS_true.1 vy
    have gx := vS_true.1 hvx
    have vn : vS y.1 x.hi = true := vS_true.2 ⟨Yo, Yo, Yo⟩
    refine ⟨fun i hi => ?_, fun z hz => ?_, fun t => ?_⟩
    ·have g := g1 i (by simp at hi ⊢; omega)
     simp only [Y8] at g ⊢
     simp at hi
     rw [List.getElem?_append_left Yo] at g ⊢
     by_cases e : i + 1 < b.length
     ·rw [List.getElem?_append_left e] at g ⊢; exact g
     ·obtain e : i + 1 = b.length := by omega
      rw [e] at g ⊢
      simp only [List.getElem?_append_right (Nat.le_refl _), Nat.sub_self, lg0, Option.getD_some] at g ⊢
      exact g
    ·rcases List.mem_append.1 hz with hz | hz
     ·obtain ⟨q1, p, hp, e⟩ := g2 z (by simp [hz])
      exact ⟨q1, p, by simp [hp], e⟩
     ·rw [List.mem_singleton.1 hz]; exact ⟨vn, x, by simp, rfl⟩
    ·have e3 := g3 t
     rw [anyIn_app] at e3 ⊢
     rw [ct]
     have ej : anyIn t [(y.1, x.hi)] = (anyIn t [y] || inS t (x.lo, x.hi)) := by
      have e1 : ∀ z : Int × Int, anyIn t [z] = inS t z := fun z => by simp [anyIn]
      rw [e1, e1]
      have := inS_join (t := t) (lo := y.1) (hi := y.2) (a := x.lo) (b := x.hi) vy hvx Yo Yo
      rw [show max y.2 x.hi = x.hi by omega] at this
      exact this
     rw [ej, ← Bool.or_assoc, e3]
     unfold pcAt inS
     simp only [hvx, Bool.true_and]
     by_cases c : x.lo ≤ t ∧ t ≤ x.hi
     ·rw [if_pos c, c0 t c.1]; simp [c.1, c.2]; omega
     ·rw [if_neg c, Int.add_zero]
      have : (decide (x.lo ≤ t) && decide (t ≤ x.hi)) = false := by simp; omega
      rw [this, Bool.or_false]
   ·rw [if_neg hm]
    refine ⟨gaps_snoc g1 (fun o ho => ?_), fun z hz => ?_, fun t => ?_⟩
    ·have h1 := hob o ho
     have hne : o.2 + 1 ≠ x.lo := fun e => by
      obtain ⟨b, y, rfl⟩ := snoc_of (List.length_pos_of_mem ho)
      have ey : (b ++ [y]).getD ((b ++ [y]).length - 1) (0, 0) = y := by simp [Y8]
      rw [ey] at hm
      rcases List.mem_append.1 ho with ho | ho
      ·-- an earlier one ends ahead of the last one
       have hy := hob y Ys
       have hg : ∀ (b : List (Int × Int)) (y : Int × Int), gapsS (b ++ [y]) → (∀ z ∈ b ++ [y], vS z.1 z.2 = true) → ∀ o ∈ b, o.2 + 2 ≤ y.1 := by
        intro b
        induction b with
        | nil => intro y _ _ o ho; simp at ho
        | cons p b ihb =>
         intro y hg hvv o ho
         obtain ⟨t1, t2⟩ := gaps_cons (x := p) (l := b ++ [y]) (by simpa using hg) (by simpa using hvv)
         rcases List.mem_cons.1 ho with rfl | ho
         ·exact t2 y Ys
         ·exact ihb y t1 (fun z hz => hvv z (by simp at hz ⊢; exact .inr hz)) o ho
       have := hg b y g1 (fun z hz => (g2 z hz).1) o ho
       have := vS_true.1 (g2 y Ys).1
       omega
      ·rw [List.mem_singleton.1 ho] at e
       exact hm ⟨by simp, e⟩
     simp only; omega
    ·rcases List.mem_append.1 hz with hz | hz
     ·obtain ⟨q1, p, hp, e⟩ := g2 z hz
      exact ⟨q1, p, by simp [hp], e⟩
     ·rw [List.mem_singleton.1 hz]; exact ⟨hvx, x, by simp, rfl⟩
    ·rw [anyIn_app, g3 t, ct]
     have e1 : anyIn t [(x.lo, x.hi)] = inS t (x.lo, x.hi) := by simp [anyIn]
     rw [e1]
     unfold pcAt inS
     simp only [hvx, Bool.true_and]
     by_cases c : x.lo ≤ t ∧ t ≤ x.hi
     ·rw [if_pos c, c0 t c.1]; simp [c.1, c.2]; omega
     ·rw [if_neg c, Int.add_zero]
      have : (decide (x.lo ≤ t) && decide (t ≤ x.hi)) = false := by simp; omega
      rw [this, Bool.or_false]
def AscI (cs : List Int) : Prop := cs.Pairwise (· < ·)
theorem AscI.get {cs : List Int} (h : AscI cs) {i j : Nat} (hij : i < j) (hj : j < cs.length) : cs.getD i 0 < cs.getD j 0 := by
 have := List.pairwise_iff_getElem.1 h i j Yo hj hij
 rw [Y8, Y8, Y9 Yo, Y9 hj]
 exact this
theorem AscI.le {cs : List Int} (h : AscI cs) {i j : Nat} (hij : i ≤ j) (hj : j < cs.length) : cs.getD i 0 ≤ cs.getD j 0 := by
 by_cases e : i = j
 ·subst e; exact Int.le_refl _
 ·exact Int.le_of_lt (h.get Yo hj)
theorem mem_at {cs : List Int} {u : Int} (h : u ∈ cs) : ∃ i, i < cs.length ∧ cs.getD i 0 = u := by
 obtain ⟨i, hi, e⟩ := List.getElem_of_mem h
 exact ⟨i, hi, by rw [Y8, Y9 hi]; exact e⟩
def PutX (xs : List Int) (v : Int) (ys : List Int) : Prop := AscI ys ∧ (∀ u, u ∈ ys ↔ u = v ∨ u ∈ xs) ∧ ys.length ≤ xs.length + 1
def CutX (zs : List (Int × Int)) (cs : List Int) : Prop := AscI cs ∧ (∀ u, u ∈ cs ↔ ∃ z ∈ zs, u = z.1 ∨ u = z.2 + 1) ∧ cs.length ≤ 2 * zs.length
theorem CutX.nil : CutX [] [] := ⟨List.Pairwise.nil, by simp, by simp⟩
theorem CutX.snoc {zs : List (Int × Int)} {z : Int × Int} {a b c : List Int} (h : CutX zs a) (h1 : PutX a z.1 b) (h2 : PutX b (z.2 + 1) c) : CutX (zs ++ [z]) c := by
 refine ⟨h2.1, fun u => ?_, ?_⟩
 ·rw [h2.2.1, h1.2.1, h.2.1]
  constructor
  ·rintro (rfl | rfl | ⟨y, hy, e⟩)
   ·exact ⟨z, by simp, .inr rfl⟩
   ·exact ⟨z, by simp, .inl rfl⟩
   ·exact ⟨y, by simp [hy], e⟩
  ·rintro ⟨y, hy, e⟩
   rcases List.mem_append.1 hy with hy | hy
   ·exact .inr (.inr ⟨y, hy, e⟩)
   ·obtain rfl : y = z := by simpa using hy
    rcases e with e | e
    ·exact .inr (.inl e)
    ·exact .inl e
 ·have := h.2.2; have := h1.2.2; have := h2.2.2
  simp; omega
theorem put_at {xs : List Int} {v : Int} {k : Nat} (h : AscI xs) (hk : k ≤ xs.length) (h1 : ∀ j, j < k → xs.getD j 0 < v) (h2 : k < xs.length → v < xs.getD k 0) : PutX xs v (xs.take k ++ v :: xs.drop k) := by
 have ht : ∀ u ∈ xs.take k, u < v := fun u hu => by
  obtain ⟨i, hi, e⟩ := List.getElem_of_mem hu
  rw [List.length_take] at hi
  have := h1 i Yo
  rw [Y8, Y9 Yo] at this
  rw [List.getElem_take] at e
  rw [← e]; exact this
 have hd : ∀ u ∈ xs.drop k, v < u := fun u hu => by
  obtain ⟨i, hi, e⟩ := List.getElem_of_mem hu
  rw [List.length_drop] at hi
  rw [List.getElem_drop] at e
  have a1 := h2 Yo
  have a2 := h.le (i := k) (j := k + i) Yo Yo
  rw [List.getD_eq_getElem?_getD (i := k + i), Y9 Yo] at a2
  simp only [Option.getD_some] at a2
  rw [← e]; omega
 refine ⟨?_, fun u => ?_, ?_⟩
 ·unfold AscI at *
  rw [List.pairwise_append]
  refine ⟨h.sublist (List.take_sublist _ _), List.pairwise_cons.2 ⟨hd, h.sublist (List.drop_sublist _ _)⟩, fun a ha b hb => ?_⟩
  rcases List.mem_cons.1 hb with rfl | hb
  ·exact ht a ha
  ·have := ht a ha; have := hd b hb; omega
 ·conv => rhs; rw [← List.take_append_drop k xs]
  simp only [List.mem_append, List.mem_cons]
  constructor
  ·rintro (h | h | h)
   ·exact .inr (.inl h)
   ·exact .inl h
   ·exact .inr (.inr h)
  ·rintro (h | h | h)
   ·exact .inr (.inl h)
   ·exact .inl h
   ·exact .inr (.inr h)
 ·simp; omega
theorem put_in {xs : List Int} {v : Int} (h : AscI xs) (hm : v ∈ xs) : PutX xs v xs := ⟨h, fun u => ⟨fun hu => .inr hu, fun hu => by rcases hu with rfl | hu; exact hm; exact hu⟩, Yo⟩
theorem cnt_const {zs : List (Int × Int)} {a b : Int} (h : ∀ z ∈ zs, ¬ (a < z.1 ∧ z.1 < b) ∧ ¬ (a < z.2 + 1 ∧ z.2 + 1 < b)) {t : Int} (h1 : a ≤ t) (h2 : t < b) : cntS zs t = cntS zs a := by
 induction zs with
 | nil => rfl
 | cons z zs ih =>
  have hz := h z Ys
  rw [cntS_cons, cntS_cons, ih (fun y hy => h y (by simp [hy]))]
  have e : inS t z = inS a z := by
   rw [Bool.eq_iff_iff, inS_iff, inS_iff]
   constructor
   ·rintro ⟨a1, a2, a3⟩; exact ⟨a1, Yo, Yo⟩
   ·rintro ⟨a1, a2, a3⟩; exact ⟨a1, Yo, Yo⟩
  rw [e]
theorem cnt_zero {zs : List (Int × Int)} {t : Int} (h : ∀ z ∈ zs, t < z.1 ∨ z.2 < t) : cntS zs t = 0 := by
 induction zs with
 | nil => rfl
 | cons z zs ih =>
  have hz := h z Ys
  rw [cntS_cons, ih (fun y hy => h y (by simp [hy]))]
  have e : inS t z = false := by
   cases hh : inS t z with
   | false => rfl
   | true => have := (inS_iff.1 hh).2; omega
  rw [e]; rfl
def rpAt (zs : List (Int × Int)) (cs : List Int) : Nat → List Pc
 | 0 => []
 | k + 1 => if cntS zs (cs.getD k 0) = 0 then rpAt zs cs k else addP (rpAt zs cs k) ⟨cs.getD k 0, cs.getD (k + 1) 0 - 1, cntS zs (cs.getD k 0)⟩
theorem rpAt_length (zs : List (Int × Int)) (cs : List Int) : ∀ k, (rpAt zs cs k).length ≤ k
 | 0 => by simp [rpAt]
 | k + 1 => by
  have := rpAt_length zs cs k
  unfold rpAt
  split
  ·omega
  ·have := addP_length (rpAt zs cs k) ⟨cs.getD k 0, cs.getD (k + 1) 0 - 1, cntS zs (cs.getD k 0)⟩; omega
theorem rpAt_law {zs : List (Int × Int)} {cs : List Int} (h : CutX zs cs) : ∀ k, k < cs.length → PCan (rpAt zs cs k) ∧ (∀ q ∈ rpAt zs cs k, q.hi < cs.getD k 0) ∧ ∀ t, cntP (rpAt zs cs k) t = if t < cs.getD k 0 then cntS zs t else 0 := by
 intro k
 induction k with
 | zero =>
  intro hk
  refine ⟨PCan.nil, by simp [rpAt], fun t => ?_⟩
  rw [show cntP (rpAt zs cs 0) t = 0 from rfl]
  split
  ·rename_i ht
   refine (cnt_zero (fun z hz => .inl ?_)).symm
   obtain ⟨i, hi, e⟩ := mem_at ((h.2.1 z.1).2 ⟨z, hz, .inl rfl⟩)
   have := h.1.le (i := 0) (j := i) Yo hi
   omega
  ·rfl
 | succ k ih =>
  intro hk
  obtain ⟨i1, i2, i3⟩ := ih Yo
  have hab := h.1.get (i := k) (j := k + 1) Yo hk
  have hgap : ∀ u ∈ cs, ¬ (cs.getD k 0 < u ∧ u < cs.getD (k + 1) 0) := fun u hu => by
   obtain ⟨i, hi, e⟩ := mem_at hu
   by_cases c : i ≤ k
   ·have := h.1.le c Yo; omega
   ·have := h.1.le (i := k + 1) (j := i) Yo hi; omega
  have hcn : ∀ t, cs.getD k 0 ≤ t → t < cs.getD (k + 1) 0 → cntS zs t = cntS zs (cs.getD k 0) := fun t h1 h2 => cnt_const (fun z hz => ⟨hgap _ ((h.2.1 _).2 ⟨z, hz, .inl rfl⟩), hgap _ ((h.2.1 _).2 ⟨z, hz, .inr rfl⟩)⟩) h1 h2
  unfold rpAt
  have hnn := cntS_nonneg zs (cs.getD k 0)
  generalize hA : cs.getD k 0 = a at *
  generalize hB : cs.getD (k + 1) 0 = b at *
  by_cases c : cntS zs a = 0
  ·rw [if_pos c]
   refine ⟨i1, fun q hq => by have := i2 q hq; omega, fun t => ?_⟩
   rw [i3 t]
   by_cases c1 : t < a
   ·rw [if_pos c1, if_pos Yo]
   ·rw [if_neg c1]
    by_cases c2 : t < b
    ·rw [if_pos c2, hcn t Yo c2, c]
    ·rw [if_neg c2]
  ·rw [if_neg c]
   obtain ⟨j1, j2, j3⟩ := addP_law (p := ⟨a, b - 1, cntS zs a⟩) i1 ⟨by show a ≤ b - 1; omega, by show 1 ≤ cntS zs a; omega⟩ i2
   refine ⟨j1, fun q hq => by have := j2 q hq; dsimp only at this; omega, fun t => ?_⟩
   rw [j3 t, i3 t]
   unfold pcAt
   dsimp only
   by_cases c1 : t < a
   ·rw [if_pos c1, if_neg Yo, if_pos Yo]; omega
   ·rw [if_neg c1]
    by_cases c2 : t < b
    ·rw [if_pos Yo, if_pos c2, hcn t Yo c2]; omega
    ·rw [if_neg Yo, if_neg c2]; rfl
theorem rp_law {zs : List (Int × Int)} {cs : List Int} (h : CutX zs cs) : PCan (rpAt zs cs (cs.length - 1)) ∧ ∀ t, cntP (rpAt zs cs (cs.length - 1)) t = cntS zs t := by
 by_cases c : 0 < cs.length
 ·obtain ⟨i1, -, i3⟩ := rpAt_law h (cs.length - 1) Yo
  refine ⟨i1, fun t => ?_⟩
  rw [i3 t]
  split
  ·rfl
  ·rename_i ht
   refine (cnt_zero (fun z hz => .inr ?_)).symm
   obtain ⟨i, hi, e⟩ := mem_at ((h.2.1 (z.2 + 1)).2 ⟨z, hz, .inr rfl⟩)
   have := h.1.le (i := i) (j := cs.length - 1) Yo Yo
   omega
 ·have hz : zs = [] := by
   cases zs with
   | nil => rfl
   | cons z zs =>
    have := (h.2.1 z.1).2 ⟨z, by simp, .inl rfl⟩
    have := List.length_pos_of_mem this
    omega
  have hc : cs = [] := List.length_eq_zero_iff.1 Yo
  subst hz; subst hc
  exact ⟨PCan.nil, fun t => rfl⟩
end Go.Proofs.YtiinmhfolfgobaaGreatDoor
