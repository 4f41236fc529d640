/- sweep: check, the events. -/
import Derived.Test.YtlfkkfdolnkjfaaSortE
import Derived.Test.YtlfkkfdolnkjfaaRUnW
import Derived.Deep.AppendLies
import Derived.Deep.LoopGhost
namespace Go.Proofs.Ytlfkkfdolnkjfaa
open Go.RowKit Go.Shelf Go.Sort
set_option linter.unusedSimpArgs false
set_option linter.unusedVariables false

def ckE (zs : List (Int × Int)) : Int := if 64 < zs.length then 8 else if badS zs = true then 3 else 0
theorem ckE_8 {zs : List (Int × Int)} (h : 64 < zs.length) : ckE zs = 8 := if_pos h
theorem ckE_3 {zs : List (Int × Int)} (h : ¬ 64 < zs.length) (h2 : badS zs = true) : ckE zs = 3 := by unfold ckE; rw [if_neg h, if_pos h2]
theorem ckE_0 {zs : List (Int × Int)} (h : ¬ 64 < zs.length) (h2 : badS zs = false) : ckE zs = 0 := by unfold ckE; rw [if_neg h, if_neg (by rw [h2]; simp)]
theorem valid_of {zs : List (Int × Int)} (h : badS zs = false) : ∀ z ∈ zs, vS z.1 z.2 = true := fun z hz' => by have h1 := List.any_eq_false.1 h z hz'; simpa using h1
theorem bad_of {zs : List (Int × Int)} (h : ∀ z ∈ zs, vS z.1 z.2 = true) : badS zs = false := by
  unfold badS anyS; rw [List.any_eq_false]; intro z hz; simp [h z hz]
set_option maxHeartbeats 400000 in
theorem swcheck1_any (lo hi : Int) (w : World) :
    Calls Try.prog 110 #[.agg #[.int .i64 lo, .int .i64 hi]] w (RB w (.bool (!vS lo hi))) := by
  have H := Lib.hid (fun W' => svalid_any lo hi W')
  go_enter Try.func110, Try.ntmps110
  go_wp2_with fail
  refine (H.out _).mono ?_
  rintro e w' ⟨rfl, rfl⟩
  go_wp2
  go_ret
  exact ⟨by simp, by (repeat' (first | (with_reducible exact Below.refl _ _) | (with_reducible refine Below.setCell ?_ ?_ _) | (with_reducible refine Below.alloc ?_ ?_ _) | (with_reducible refine Below.drew ?_) | (with_reducible refine below_drewN ?_ _))) <;> (first | omega | (simp <;> omega))⟩
set_option maxHeartbeats 1000000 in
theorem swcheck_any (A : Option Addr) (len cap : Nat) (zs : List (Int × Int)) (w : World) (h : SpansAt w A len zs) :
    Calls Try.prog 74 #[.slice A len cap] w (RB w (.int .i64 (ckE zs))) := by
  have hz := h.1
  have hlm := h.2.1
  subst hz
  have hc := contS 110 (enters_of Try.func110 (by kernel_rfl) rfl) (fun lo hi => !vS lo hi) swcheck1_any A zs.length cap zs w h
  rw [show anyS (fun lo hi => !vS lo hi) zs = badS zs from rfl] at hc
  clear h
  by_cases h64 : 64 < zs.length
  · rw [ckE_8 h64]
    have g0 : decide (64 < (zs.length : Int)) = true := decide_eq_true (by omega)
    have g0n : decide (64 < zs.length) = true := decide_eq_true h64
    clear hc
    go_enter Try.func74, Try.ntmps74
    go_wp2
    go_ret
    exact ⟨rfl, (by (repeat' (first | (with_reducible exact Below.refl _ _) | (with_reducible refine Below.setCell ?_ ?_ _) | (with_reducible refine Below.alloc ?_ ?_ _) | (with_reducible refine Below.drew ?_) | (with_reducible refine below_drewN ?_ _))) <;> (first | omega | (simp <;> omega)))⟩
  · have g0 : decide (64 < (zs.length : Int)) = false := decide_eq_false (by omega)
    have g0n : decide (64 < zs.length) = false := decide_eq_false h64
    cases hb : badS zs with
    | true =>
      rw [ckE_3 h64 hb]
      rw [hb] at hc
      have HC := Lib.hid hc; clear hc hb
      go_enter Try.func74, Try.ntmps74
      go_wp2_with fail
      refine (HC.out).mono ?_
      rintro e w1 ⟨rfl, hb1⟩
      have K1 : Below w.heap.size w w1 := kept_call hb1 (by (repeat' (first | (with_reducible exact Below.refl _ _) | (with_reducible refine Below.setCell ?_ ?_ _) | (with_reducible refine Below.alloc ?_ ?_ _) | (with_reducible refine Below.drew ?_) | (with_reducible refine below_drewN ?_ _))) <;> (first | omega | (simp <;> omega)))
      have Z1 : w.heap.size ≤ w1.heap.size := K1.size
      clear hb1
      go_wp2
      go_ret
      exact ⟨rfl, (by (repeat' (first | (with_reducible exact K1) | (with_reducible refine Below.setCell ?_ ?_ _) | (with_reducible refine Below.alloc ?_ ?_ _) | (with_reducible refine Below.drew ?_) | (with_reducible refine below_drewN ?_ _))) <;> (first | omega | (simp <;> omega)))⟩
    | false =>
      rw [ckE_0 h64 hb]
      rw [hb] at hc
      have HC := Lib.hid hc; clear hc hb
      go_enter Try.func74, Try.ntmps74
      go_wp2_with fail
      refine (HC.out).mono ?_
      rintro e w1 ⟨rfl, hb1⟩
      have K1 : Below w.heap.size w w1 := kept_call hb1 (by (repeat' (first | (with_reducible exact Below.refl _ _) | (with_reducible refine Below.setCell ?_ ?_ _) | (with_reducible refine Below.alloc ?_ ?_ _) | (with_reducible refine Below.drew ?_) | (with_reducible refine below_drewN ?_ _))) <;> (first | omega | (simp <;> omega)))
      have Z1 : w.heap.size ≤ w1.heap.size := K1.size
      clear hb1
      go_wp2
      go_ret
      exact ⟨rfl, (by (repeat' (first | (with_reducible exact K1) | (with_reducible refine Below.setCell ?_ ?_ _) | (with_reducible refine Below.alloc ?_ ?_ _) | (with_reducible refine Below.drew ?_) | (with_reducible refine below_drewN ?_ _))) <;> (first | omega | (simp <;> omega)))⟩
set_option maxHeartbeats 400000 in
theorem events1_any (x y : Int × Int) (W : World) : Calls Try.prog 140 #[.agg #[.int .i64 x.1, .int .i64 x.2], .agg #[.int .i64 y.1, .int .i64 y.2]] W fun e w' => e = .returned (.int .i64 (loC x y)) ∧ ∃ q os', w' = grow (W.drewN q) os' := by
  have h := fun W' => compare_any x.1 y.1 W'
  unfold loC
  have H := Lib.hid h; clear h
  go_enter Try.func140, Try.ntmps140
  go_wp2_with fail
  refine (H.out _).mono ?_
  rintro e w' ⟨rfl, rfl⟩
  go_wp2
  go_ret
  exact ⟨rfl, 0, _, by rw [alloc_eq_grow, alloc_eq_grow, grow_grow]; rfl⟩
theorem infoEv : (Try.prog.info? 136).map (fun i => (i.zero, i.size, i.bytes)) = some (some (.agg #[.int .i64 0, .int .i64 0]), 2, 16) := by kernel_rfl
/-- A row of events of one's own. -/
def RowE (w : World) (base : Nat) (v : Value) (zs : List (Int × Int)) : Prop := w.ownsRow base 136 2 v zs.length (cellsS zs)
def EvRel (w : World) (zs : List (Int × Int)) (G : Nat) (v i : Value) (wr : World) : Prop := ∃ q : Nat, q ≤ zs.length ∧ G = zs.length - q ∧ i = .int .i64 q ∧ (∃ A cap, v = .slice A (evs (zs.take q)).length cap) ∧ RowE wr w.heap.size v (evs (zs.take q)) ∧ Below w.heap.size w wr
theorem lo_swo : SWO (ltOf loC) := loSwo
set_option maxRecDepth 100000 in
set_option maxHeartbeats 2000000 in
theorem events_any (A : Option Addr) (len cap : Nat) (zs : List (Int × Int)) (hv : ∀ z ∈ zs, vS z.1 z.2 = true) (h64 : len ≤ 64) (w : World) (h : SpansAt w A len zs) :
    Calls Try.prog 111 #[.slice A len cap] w (fun e w' => ∃ (A' : Option Addr) (cap' : Nat) (ds : List (Int × Int)), e = .returned (.slice A' ds.length cap') ∧ SortedBy loC (evs zs) ds ∧ SpansAt w' A' ds.length ds ∧ Below w.heap.size w w') := by
  have hz := h.1
  subst hz
  have H := Lib.hid h; have HV := Lib.hid hv; clear h hv
  go_enter Try.func111, Try.ntmps111
  go_wp2
  go_loopg [3, 8] zs.length (fun G v i wr => EvRel w zs G v i wr)
  case atStart => exact ⟨0, by omega, by omega, rfl, ⟨none, 0, rfl⟩, World.ownsRow_nil _ _ _ _, by (repeat' (first | (with_reducible exact Below.refl _ _) | (with_reducible refine Below.setCell ?_ ?_ _) | (with_reducible refine Below.alloc ?_ ?_ _) | (with_reducible refine Below.drew ?_) | (with_reducible refine below_drewN ?_ _))) <;> (first | omega | (simp <;> omega))⟩
  case round =>
    obtain ⟨q, hq, rfl, rfl, hform, hrow, KR⟩ := hrel
    have ZR := KR.size
    have HROW := Lib.hid hrow; clear hrow
    have hel := evs_length (zs.take q)
    rw [List.length_take] at hel
    have hel9 : (evs (zs.take q)).length ≤ 128 := by omega
    clear hel
    by_cases hlt : q < zs.length
    · have gk : decide ((q : Int) < (zs.length : Int)) = true := decide_eq_true (by omega)
      have wq : IntKind.i64.wrap ((q : Int) + 1) = ((q + 1 : Nat) : Int) := by rw [IntWalk.i64_in _ (by omega)]; omega
      obtain ⟨bl, off, rfl, hb, hcs⟩ := H.out.2.2 (by omega)
      obtain ⟨e0, e1⟩ := hcs q hlt
      clear hcs
      have e0 := (KR.cell (p := ⟨bl, off + q * 2, none⟩) hb).trans e0
      have e1 := (KR.cell (p := ⟨bl, off + q * 2 + 1, none⟩) hb).trans e1
      have hbW : bl < wr.heap.size := by omega
      have hvz := HV.out (zs.getD q (0, 0)) (by rw [List.getD_eq_getElem?_getD, List.getElem?_eq_getElem hlt]; exact List.getElem_mem _)
      have hnx : evs (zs.take (q + 1)) = evs (zs.take q) ++ [((zs.getD q (0, 0)).1, 1), ((zs.getD q (0, 0)).2 + 1, -1)] := by rw [take_snocC (0, 0) zs hlt, evs_snoc]
      have HNX := Lib.hid hnx; clear hnx
      generalize zs.getD q (0, 0) = z at *
      obtain ⟨x, y⟩ := z
      dsimp only at e0 e1 hvz
      have gv := vS_true.1 hvz
      clear hvz
      have wy : IntKind.i64.wrap (y + 1) = y + 1 := IntWalk.i64_in _ (by omega)
      obtain ⟨i0, hif, hz0, hz1, hz2⟩ := info_parts infoEv
      generalize evs (zs.take q) = es at *
      obtain ⟨A3, c3, rfl⟩ := hform
      go_wp2_with (at_builtin; refine wpList_append_lies _ rfl _ _ 133 rfl w.heap.size 136 i0 (.agg #[.int .i64 0, .int .i64 0]) 2 16 Try.underlying133 hif hz0 hz1 hz2 rfl (by decide) _ es.length (cellsS es) rfl (World.ownsRow.alloc (World.ownsRow.alloc HROW.out _) _) ⟨wr.heap.size + 1, 0, none⟩ 2 2 [.int .i64 x, .int .i64 1, .int .i64 (y + 1), .int .i64 (-1)] rfl rfl (World.news_of_block (t := 136) (fr := (0, 0)) (Blk.new1 _ _ _ _)) ?c2 (by decide) ?c3 ?c4 ?c5 _ rfl ?_)
      case c2 => first | exact ⟨rfl, rfl, rfl, rfl⟩ | (intro u hu; simp at hu; rcases hu with rfl | rfl | rfl | rfl <;> rfl)
      case c3 => unfold maxLen; omega
      case c4 => omega
      case c5 => first | omega | (simp; omega)
      intro g9 cp9 w7 hown hgrow hlie hglt
      have K7 : Below w.heap.size w w7 := ((KR.alloc ZR _).alloc (by simp; omega) _).grown hgrow (by simp; omega) (fun k hk => (World.ownsRow.lt HROW.out k hk).1)
      have hrow7 : RowE w7 w.heap.size (.slice (some ⟨g9, 0, none⟩) (es.length + 2) cp9) (es ++ [(x, 1), (y + 1, -1)]) := by
        unfold RowE
        have e : cellsS (es ++ [(x, 1), (y + 1, -1)]) = cellsS es ++ [.int .i64 x, .int .i64 1, .int .i64 (y + 1), .int .i64 (-1)] := by simp [cellsS]
        rw [List.length_append, e]; exact hown
      clear hown hgrow hlie hglt e0 e1
      have R7 := Lib.hid hrow7; clear hrow7
      go_wp2
      go_roundg (zs.length - (q + 1))
      case measure => omega
      case rel => exact ⟨q + 1, by omega, by omega, by go_num, ⟨_, _, by rw [HNX.out, List.length_append]; rfl⟩, by rw [HNX.out]; exact R7.out, K7⟩
    · obtain rfl : zs.length = q := by omega
      have gk : decide ((zs.length : Int) < (zs.length : Int)) = false := decide_eq_false (by omega)
      rw [List.take_length] at hel9 HROW hform
      obtain ⟨A3, c3, rfl⟩ := hform
      have hsf := sortFuncE loC lo_swo 140 (enters_of Try.func140 (by kernel_rfl) rfl) events1_any w.heap.size (.slice A3 (evs zs).length c3) (evs zs) wr HROW.out ZR (by omega)
      have HSF := Lib.hid hsf; clear hsf
      generalize hes : evs zs = es at *
      have HES := Lib.hid hes; clear hes
      go_wp2_with fail
      refine HSF.out.mono ?_
      rintro e w7 ⟨rfl, A', c', ds, hsl, hsb, hsp, hb7⟩
      have hA' : A3 = A' ∧ c3 = c' := by injection hsl with h1 h2 h3; exact ⟨h1, h3⟩
      obtain ⟨rfl, rfl⟩ := hA'
      have hl : ds.length = es.length := hsb.1.length_eq
      have K7 := KR.trans hb7
      have HS := Lib.hid (And.intro hsb hsp); have HL := Lib.hid hl
      clear hsb hsp hl hb7 hsl
      go_wp2
      go_ret
      exact ⟨A3, c3, ds, by rw [HL.out]; rfl, by rw [HES.out]; exact HS.out.1, by have := HS.out.2; rwa [← HL.out] at this, K7⟩
end Go.Proofs.Ytlfkkfdolnkjfaa
