/- sectimelaw34.known. -/
import Derived.Test.YtlfkkfdolnkjfaaJ19
import Derived.Test.YtlfkkfdolnkjfaaJ24
namespace Go.Proofs.Ytlfkkfdolnkjfaa
open Go.RowKit Go.Shelf Go.Sort
set_option linter.unusedSimpArgs false
set_option linter.unusedVariables false

theorem spans34 {w : World} {g : Nat} (h : Blk w g 35 #[.int .i64 1, .int .i64 4, .int .i64 3, .int .i64 9, .int .i64 10, .int .i64 12]) : SpansAt w (some ⟨g, 0, none⟩) 3 zs34 := by
  refine ⟨rfl, by decide, fun _ => ⟨g, 0, rfl, h.lt, fun j hj => ?_⟩⟩
  have c := h.cell
  have : j = 0 ∨ j = 1 ∨ j = 2 := by omega
  rcases this with rfl | rfl | rfl <;> simp [c, zs34]
theorem spans1 {w : World} {g : Nat} {x y : Int} (h : Blk w g 35 #[.int .i64 x, .int .i64 y]) : SpansAt w (some ⟨g, 0, none⟩) 1 [(x, y)] := by
  refine ⟨rfl, by decide, fun _ => ⟨g, 0, rfl, h.lt, fun j hj => ?_⟩⟩
  have c := h.cell
  obtain rfl : j = 0 := by omega
  simp [c]
theorem pcs34 {w : World} {g : Nat} (h : Blk w g 57 #[.int .i64 1, .int .i64 2, .int .i64 1, .int .i64 3, .int .i64 4, .int .i64 2, .int .i64 5, .int .i64 12, .int .i64 1]) : PcsAt w (some ⟨g, 0, none⟩) 3 ps34 := by
  refine ⟨rfl, by decide, fun _ => ⟨g, 0, rfl, h.lt, fun j hj => ?_⟩⟩
  have c := h.cell
  have : j = 0 ∨ j = 1 ∨ j = 2 := by omega
  rcases this with rfl | rfl | rfl <;> simp [c, ps34]
theorem mx34 : MX zs34 2 [(3, 4)] := .inr ⟨ck34, ps34, px34, most34.symm, least34.symm⟩
set_option maxRecDepth 100000 in
set_option maxHeartbeats 2000000 in
theorem known34_any  (w : World) :
    Calls Try.prog 31 #[] w (RB w (.bool true)) := by
  have hB := Blk.new w 35 (#[.int .i64 1, .int .i64 4, .int .i64 3, .int .i64 9, .int .i64 10, .int .i64 12] : Array Value)
  have hs := spans34 hB
  have KA : Below w.heap.size w (w.alloc (.cells #[.int .i64 1, .int .i64 4, .int .i64 3, .int .i64 9, .int .i64 10, .int .i64 12] 35)) := (Below.refl _ _).alloc (Nat.le_refl _) _
  have HPF := Lib.hid (fun W hW => sprofile_any (some ⟨w.heap.size, 0, none⟩) 3 3 zs34 W (hs.below hW))
  have HMS := Lib.hid (fun W hW => smost_any (some ⟨w.heap.size, 0, none⟩) 3 3 zs34 W (hs.below hW))
  have HKA := Lib.hid KA
  clear hB hs KA
  go_enter Try.func31, Try.ntmps31
  go_wp2_with fail
  refine (HPF.out _ (by (repeat' (first | (with_reducible exact Below.refl _ _) | (with_reducible refine Below.setCell ?_ ?_ _) | (with_reducible refine Below.alloc ?_ ?_ _) | (with_reducible refine Below.drew ?_) | (with_reducible refine below_drewN ?_ _))) <;> (first | omega | (simp <;> omega)))).mono ?_
  rintro e w2 ⟨A2, c2, ps, rfl, hpp, hpx, hb2⟩
  have K2 := hb2
  obtain rfl : ps = ps34 := PX_uniq hpx px34
  have HPP := Lib.hid hpp; clear hpp hpx hb2
  rw [ck34]
  go_wp2_with fail
  refine (HMS.out _ (by (repeat' (first | (with_reducible exact K2) | (with_reducible refine Below.setCell ?_ ?_ _) | (with_reducible refine Below.alloc ?_ ?_ _) | (with_reducible refine Below.drew ?_) | (with_reducible refine below_drewN ?_ _))) <;> (first | omega | (simp <;> omega)))).mono ?_
  rintro e w3 ⟨m, A3, c3, us, rfl, hsp, hmx, hb3⟩
  obtain ⟨rfl, rfl⟩ := MX_uniq hmx mx34
  have K3 : Below w.heap.size w w3 := kept_call hb3 (kept_call (by (repeat' (first | (with_reducible exact K2) | (with_reducible refine Below.setCell ?_ ?_ _) | (with_reducible refine Below.alloc ?_ ?_ _) | (with_reducible refine Below.drew ?_) | (with_reducible refine below_drewN ?_ _))) <;> (first | omega | (simp <;> omega))) HKA.out)
  have hpp3 := HPP.out.below hb3
  have HP3 := Lib.hid hpp3; have HS3 := Lib.hid hsp; clear hpp3 hsp hmx hb3 K2 HPP
  rw [ck34]
  have Z3 := K3.size
  have HSM := Lib.hid (fun (g : Nat) W (hW : Below w3.heap.size w3 W) (hb : Blk W g 57 #[.int .i64 1, .int .i64 2, .int .i64 1, .int .i64 3, .int .i64 4, .int .i64 2, .int .i64 5, .int .i64 12, .int .i64 1]) => psame_any A2 (some ⟨g, 0, none⟩) ps34.length 3 c2 3 ps34 ps34 W (HP3.out.below hW) (pcs34 hb))
  have HSS := Lib.hid (fun (g : Nat) W (hW : Below w3.heap.size w3 W) (hb : Blk W g 35 #[.int .i64 3, .int .i64 4]) => same_any A3 (some ⟨g, 0, none⟩) 1 1 c3 1 [(3, 4)] [(3, 4)] W (HS3.out.below hW) (spans1 hb))
  rw [eqP_yes rfl] at HSM
  simp only [decide_true] at HSS
  go_wp2_with fail
  refine (HSM.out _ _ (by (repeat' (first | (with_reducible exact Below.refl _ _) | (with_reducible refine Below.setCell ?_ ?_ _) | (with_reducible refine Below.alloc ?_ ?_ _) | (with_reducible refine Below.drew ?_) | (with_reducible refine below_drewN ?_ _))) <;> (first | omega | (simp <;> omega))) (Blk.new _ _ _)).mono ?_
  rintro e w4 ⟨rfl, hb4⟩
  have K4 : Below w3.heap.size w3 w4 := kept_call hb4 (by (repeat' (first | (with_reducible exact Below.refl _ _) | (with_reducible refine Below.setCell ?_ ?_ _) | (with_reducible refine Below.alloc ?_ ?_ _) | (with_reducible refine Below.drew ?_) | (with_reducible refine below_drewN ?_ _))) <;> (first | omega | (simp <;> omega)))
  have Z4 := K4.size
  clear hb4
  go_wp2_with fail
  refine (HSS.out _ _ (by (repeat' (first | (with_reducible exact K4) | (with_reducible refine Below.setCell ?_ ?_ _) | (with_reducible refine Below.alloc ?_ ?_ _) | (with_reducible refine Below.drew ?_) | (with_reducible refine below_drewN ?_ _))) <;> (first | omega | (simp <;> omega))) (Blk.new _ _ _)).mono ?_
  rintro e w5 ⟨rfl, hb5⟩
  have K5 : Below w3.heap.size w3 w5 := kept_call hb5 (by (repeat' (first | (with_reducible exact K4) | (with_reducible refine Below.setCell ?_ ?_ _) | (with_reducible refine Below.alloc ?_ ?_ _) | (with_reducible refine Below.drew ?_) | (with_reducible refine below_drewN ?_ _))) <;> (first | omega | (simp <;> omega)))
  clear hb5
  go_wp2
  go_ret
  exact ⟨rfl, kept_call (by (repeat' (first | (with_reducible exact K5) | (with_reducible refine Below.setCell ?_ ?_ _) | (with_reducible refine Below.alloc ?_ ?_ _) | (with_reducible refine Below.drew ?_) | (with_reducible refine below_drewN ?_ _))) <;> (first | omega | (simp <;> omega))) K3⟩
end Go.Proofs.Ytlfkkfdolnkjfaa
