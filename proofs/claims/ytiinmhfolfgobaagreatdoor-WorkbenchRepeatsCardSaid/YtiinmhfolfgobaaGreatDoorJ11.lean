/- Texts joined: I11L, ComS -/
import Derived.Deep.LoopGhost
import Derived.Shelf.Abstract
import Derived.Test.YtiinmhfolfgobaaGreatDoorJ10
namespace Go.Proofs.YtiinmhfolfgobaaGreatDoor
open Go.RowKit

/-- A slice of spans, element by element. -/
def SpansAt (w : World) (A : Option Addr) (len : Nat) (zs : List (Int × Int)) : Prop :=
  zs.length = len ∧ len ≤ 9223372036854775807 ∧ (0 < len → ∃ b off, A = some ⟨b, off, none⟩ ∧ b < w.heap.size ∧ ∀ j, j < len → w.cell? ⟨b, off + j * 2, none⟩ = some (.int .i64 (zs.getD j (0, 0)).1) ∧ w.cell? ⟨b, off + j * 2 + 1, none⟩ = some (.int .i64 (zs.getD j (0, 0)).2))
theorem SpansAt.below {w w' : World} {A : Option Addr} {len : Nat} {zs : List (Int × Int)} (h : SpansAt w A len zs) (hb : Below w.heap.size w w') : SpansAt w' A len zs := by
  obtain ⟨h1, h2, h3⟩ := h
  refine ⟨h1, h2, fun hl => ?_⟩
  obtain ⟨b, off, rfl, hlt, hc⟩ := h3 hl
  exact ⟨b, off, rfl, Nat.lt_of_lt_of_le hlt hb.size, fun j hj => ⟨cell_below hb (hc j hj).1, cell_below hb (hc j hj).2⟩⟩
theorem SpansAt.alloc {w : World} {A : Option Addr} {len : Nat} {zs : List (Int × Int)} (h : SpansAt w A len zs) (o : Obj) : SpansAt (w.alloc o) A len zs := h.below ((Below.refl _ _).alloc (Nat.le_refl _) _)
/-- Does any of them meet the test? -/
def anyS (p : Int → Int → Bool) (zs : List (Int × Int)) : Bool := zs.any fun z => p z.1 z.2
theorem anyS_false {p : Int → Int → Bool} {zs : List (Int × Int)} : anyS p zs = false ↔ ∀ j, j < zs.length → p (zs.getD j (0, 0)).1 (zs.getD j (0, 0)).2 = false := by
  unfold anyS
  rw [List.any_eq_false]
  constructor
  · intro h j hj
    have := h (zs.getD j (0, 0)) (by rw [List.getD_eq_getElem?_getD, List.getElem?_eq_getElem hj]; simp)
    simpa using this
  · intro h z hz
    obtain ⟨j, hj, rfl⟩ := List.getElem_of_mem hz
    have := h j hj
    rw [List.getD_eq_getElem?_getD, List.getElem?_eq_getElem hj] at this
    simpa using this
/-- What IndexFunc returns: an index that is 0 or greater exactly if any element meets the test. -/
def IdxR (w : World) (b : Bool) (e : Ending) (w' : World) : Prop := ∃ v : Int, e = .returned (.int .i64 v) ∧ decide (0 ≤ v) = b ∧ Below w.heap.size w w'
theorem IdxR.mk {w w' : World} {b : Bool} {v : Int} (h : decide (0 ≤ v) = b) (hb : Below w.heap.size w w') : IdxR w b (.returned (.int .i64 v)) w' := ⟨v, rfl, h, hb⟩
def IdxRel (w : World) (p : Int → Int → Bool) (zs : List (Int × Int)) (len : Nat) (G : Nat) (i : Value) (wr : World) : Prop := ∃ q : Nat, q ≤ len ∧ G = len - q ∧ i = .int .i64 q ∧ (∀ j, j < q → p (zs.getD j (0, 0)).1 (zs.getD j (0, 0)).2 = false) ∧ Below w.heap.size w wr

set_option maxHeartbeats 2000000 in
theorem idxS (k : FuncId) (ek : ∀ args w, (callFunc k args).run Tryz.prog w = .ok (.enter k args) w) (p : Int → Int → Bool) (hk : ∀ lo hi w, Calls Tryz.prog k #[.agg #[.int .i64 lo, .int .i64 hi]] w (RB w (.bool (p lo hi)))) (A : Option Addr) (len cap : Nat) (zs : List (Int × Int)) (w : World) (h : SpansAt w A len zs) :
    Calls Tryz.prog 214 #[.slice A len cap, .func (.func k) #[] #[]] w (IdxR w (anyS p zs)) := by
  have HK := Lib.hid hk; clear hk
  have H := Lib.hid h
  have hl := h.2.1
  have hz := h.1
  clear h
  go_enter Tryz.func214, Tryz.ntmps214
  go_wp2
  go_loopg [8] len (fun G i wr => IdxRel w p zs len G i wr)
  case atStart => exact ⟨0, by omega, by omega, rfl, by omega, Below.refl _ _⟩
  case round =>
    obtain ⟨q, hq, rfl, rfl, hall, hbel⟩ := hrel
    have HA := Lib.hid hall; clear hall
    by_cases hlt : q < len
    · obtain ⟨b, off, rfl, hb, hc⟩ := H.out.2.2 (by omega)
      obtain ⟨c0, c1⟩ := hc q hlt
      have c0 := (hbel.cell (p := ⟨b, off + q * 2, none⟩) hb).trans c0
      have c1 := (hbel.cell (p := ⟨b, off + q * 2 + 1, none⟩) hb).trans c1
      clear hc
      generalize hzz : zs.getD q (0, 0) = z at c0 c1
      have HZ := Lib.hid hzz; clear hzz
      obtain ⟨x, y⟩ := z
      dsimp only at c0 c1
      have r := HK.out x y
      rcases hp : p x y
      · rw [hp] at r
        have R := Lib.hid r; clear r
        go_wp2_with fail
        refine (R.out _).mono ?_
        rintro e w1 ⟨rfl, hb1⟩
        have K1 := kept_call hb1 hbel
        go_wp2
        go_roundg (len - (q + 1))
        case measure => omega
        case rel =>
          refine ⟨q + 1, by omega, by omega, by go_num, fun j hj => ?_, K1⟩
          by_cases e : j = q
          · subst e; rw [HZ.out]; exact hp
          · exact HA.out j (by omega)
      · rw [hp] at r
        have R := Lib.hid r; clear r
        go_wp2_with fail
        refine (R.out _).mono ?_
        rintro e w1 ⟨rfl, hb1⟩
        have K1 := kept_call hb1 hbel
        go_wp2
        go_ret
        refine IdxR.mk ?_ K1
        rcases ha : anyS p zs
        · have := anyS_false.1 ha q (by omega)
          rw [HZ.out] at this; rw [this] at hp; cases hp
        · simp
    · obtain rfl : q = len := by omega
      go_wp2
      go_ret
      refine IdxR.mk ?_ hbel
      rw [anyS_false.2 (fun j hj => HA.out j (by omega))]
      rfl
set_option maxHeartbeats 1000000 in
theorem contS (k : FuncId) (ek : ∀ args w, (callFunc k args).run Tryz.prog w = .ok (.enter k args) w) (p : Int → Int → Bool) (hk : ∀ lo hi w, Calls Tryz.prog k #[.agg #[.int .i64 lo, .int .i64 hi]] w (RB w (.bool (p lo hi)))) (A : Option Addr) (len cap : Nat) (zs : List (Int × Int)) (w : World) (h : SpansAt w A len zs) :
    Calls Tryz.prog 183 #[.slice A len cap, .func (.func k) #[] #[]] w (RB w (.bool (anyS p zs))) := by
  have R := Lib.hid (idxS k ek p hk A len cap zs w h); clear hk h
  go_enter Tryz.func183, Tryz.ntmps183
  go_wp2_with fail
  refine R.out.mono ?_
  rintro e w1 ⟨v, rfl, hv, hb⟩
  rw [← hv]
  go_wp2
  go_ret
  exact ⟨rfl, hb⟩
/-- Every span of a list is valid. -/
def badS (zs : List (Int × Int)) : Bool := anyS (fun lo hi => !vS lo hi) zs
set_option maxHeartbeats 1000000 in
theorem notvalid_all (lo hi : Int) (w : World) :
    Calls Tryz.prog 184 #[.agg #[.int .i64 lo, .int .i64 hi]] w (RB w (.bool (!vS lo hi))) := by
  go_enter Tryz.func184, Tryz.ntmps184
  go_wp2_with fail
  refine (svalid_any _ _ _).mono ?_
  rintro e wq1 ⟨rfl, rfl⟩
  go_wp2
  go_ret
  exact ⟨rfl, by (repeat' (first | (with_reducible exact Below.refl _ _) | (with_reducible refine Below.setCell ?_ ?_ _) | (with_reducible refine Below.alloc ?_ ?_ _) | (with_reducible refine Below.drew ?_) | (with_reducible refine below_drewN ?_ _))) <;> (first | omega | (simp <;> omega))⟩
set_option maxHeartbeats 1000000 in
theorem result_bad (f : Value) (A : Option Addr) (len cap : Nat) (zs : List (Int × Int)) (hb : badS zs = true) (w : World) (h : SpansAt w A len zs) :
    Calls Tryz.prog 145 #[f, .slice A len cap] w (RB w (.tuple #[.agg #[.int .i64 0, .int .i64 0], .int .i64 3])) := by
  have r := contS 184 (enters_of Tryz.func184 (by kernel_rfl) rfl) (fun lo hi => !vS lo hi) notvalid_all A len cap zs
  unfold badS at hb
  rw [hb] at r
  have R := Lib.hid r; clear r hb
  have H := Lib.hid h; clear h
  go_enter Tryz.func145, Tryz.ntmps145
  go_wp2_with fail
  refine (R.out _ (H.out.alloc _)).mono ?_
  rintro e w1 ⟨rfl, hb1⟩
  have K1 : Below w.heap.size w w1 := kept_call hb1 (by (repeat' (first | (with_reducible exact Below.refl _ _) | (with_reducible refine Below.setCell ?_ ?_ _) | (with_reducible refine Below.alloc ?_ ?_ _) | (with_reducible refine Below.drew ?_) | (with_reducible refine below_drewN ?_ _))) <;> (first | omega | (simp <;> omega)))
  have Z1 : w.heap.size ≤ w1.heap.size := K1.size
  have b1_0 := Blk.keep (g := w.heap.size) hb1 (by (repeat' (first | ((with_reducible refine' Blk.newE ?_); first | rfl | (simp; done)) | (with_reducible refine' Blk.alloc ?_ _) | (with_reducible refine' Blk.drew ?_) | (with_reducible refine' Blk.drewN ?_ _) | (with_reducible refine' Blk.put ?_ ?_) | (with_reducible refine' Blk.far ?_ ?_ _) | exact rfl)) <;> (first | omega | (simp <;> omega)))
  (try simp only [List.setIfInBounds_toArray, List.set_cons_zero, List.set_cons_succ] at b1_0)
  clear hb1
  obtain ⟨c1_0, f1_0, l1_0, e1_0, k1_0⟩ := Blk.facts b1_0
  go_wp2
  exact bodyPost_ret (v := .tuple #[.agg #[.int .i64 0, .int .i64 0], .int .i64 3]) (by simp [results, Tryz.results145, go_sem, *]) rfl ⟨rfl, by (repeat' (first | (with_reducible exact K1) | (with_reducible refine Below.setCell ?_ ?_ _) | (with_reducible refine Below.alloc ?_ ?_ _) | (with_reducible refine Below.drew ?_) | (with_reducible refine below_drewN ?_ _))) <;> (first | omega | (simp <;> omega))⟩
set_option maxHeartbeats 2000000 in
theorem result_ok (k : FuncId) (ek : ∀ args w, (callFunc k args).run Tryz.prog w = .ok (.enter k args) w) (caps : Array Value) (x y : Int) (A : Option Addr) (len cap : Nat) (zs : List (Int × Int)) (hb : badS zs = false) (w : World) (h : SpansAt w A len zs) (hk : ∀ w', Below w.heap.size w w' → Calls Tryz.prog k caps w' (RB w' (.agg #[.int .i64 x, .int .i64 y]))) :
    Calls Tryz.prog 145 #[.func (.func k) #[] caps, .slice A len cap] w (RB w (mkS x y)) := by
  have r := contS 184 (enters_of Tryz.func184 (by kernel_rfl) rfl) (fun lo hi => !vS lo hi) notvalid_all A len cap zs
  unfold badS at hb
  rw [hb] at r
  have R := Lib.hid r; clear r hb
  have H := Lib.hid h; clear h
  have HK := Lib.hid hk; clear hk
  rcases hv : vS x y
  · rw [mkS_no hv]
    go_enter Tryz.func145, Tryz.ntmps145
    go_wp2_with fail
    refine (R.out _ (H.out.alloc _)).mono ?_
    rintro e w1 ⟨rfl, hb1⟩
    have K1 : Below w.heap.size w w1 := kept_call hb1 (by (repeat' (first | (with_reducible exact Below.refl _ _) | (with_reducible refine Below.setCell ?_ ?_ _) | (with_reducible refine Below.alloc ?_ ?_ _) | (with_reducible refine Below.drew ?_) | (with_reducible refine below_drewN ?_ _))) <;> (first | omega | (simp <;> omega)))
    have Z1 : w.heap.size ≤ w1.heap.size := K1.size
    have b1_0 := Blk.keep (g := w.heap.size) hb1 (by (repeat' (first | ((with_reducible refine' Blk.newE ?_); first | rfl | (simp; done)) | (with_reducible refine' Blk.alloc ?_ _) | (with_reducible refine' Blk.drew ?_) | (with_reducible refine' Blk.drewN ?_ _) | (with_reducible refine' Blk.put ?_ ?_) | (with_reducible refine' Blk.far ?_ ?_ _) | exact rfl)) <;> (first | omega | (simp <;> omega)))
    (try simp only [List.setIfInBounds_toArray, List.set_cons_zero, List.set_cons_succ] at b1_0)
    clear hb1
    obtain ⟨c1_0, f1_0, l1_0, e1_0, k1_0⟩ := Blk.facts b1_0
    go_wp2_with fail
    refine (HK.out _ K1).mono ?_
    rintro e w2 ⟨rfl, hb2⟩
    have K2 : Below w.heap.size w w2 := kept_call hb2 (by (repeat' (first | (with_reducible exact K1) | (with_reducible refine Below.setCell ?_ ?_ _) | (with_reducible refine Below.alloc ?_ ?_ _) | (with_reducible refine Below.drew ?_) | (with_reducible refine below_drewN ?_ _))) <;> (first | omega | (simp <;> omega)))
    have Z2 : w.heap.size ≤ w2.heap.size := K2.size
    have b1_0' := Blk.keep (g := w.heap.size) hb2 (by (repeat' (first | (with_reducible refine' Blk.alloc ?_ _) | (with_reducible refine' Blk.drew ?_) | (with_reducible refine' Blk.drewN ?_ _) | (with_reducible refine' Blk.put ?_ ?_) | (with_reducible refine' Blk.far ?_ ?_ _) | exact b1_0 | exact rfl)) <;> (first | omega | (simp <;> omega)))
    (try simp only [List.setIfInBounds_toArray, List.set_cons_zero, List.set_cons_succ] at b1_0')
    clear hb2 K1
    clear b1_0 c1_0 f1_0 l1_0 e1_0 k1_0; have b1_0 := b1_0'; clear b1_0'
    obtain ⟨c1_0, f1_0, l1_0, e1_0, k1_0⟩ := Blk.facts b1_0
    go_wp2_with fail
    refine (svalid_any _ _ _).mono ?_
    rintro e wq1 ⟨rfl, rfl⟩
    rw [hv]
    go_wp2
    exact bodyPost_ret (v := .tuple #[.agg #[.int .i64 0, .int .i64 0], .int .i64 4]) (by simp [results, Tryz.results145, go_sem, *]) rfl ⟨rfl, by (repeat' (first | (with_reducible exact K2) | (with_reducible refine Below.setCell ?_ ?_ _) | (with_reducible refine Below.alloc ?_ ?_ _) | (with_reducible refine Below.drew ?_) | (with_reducible refine below_drewN ?_ _))) <;> (first | omega | (simp <;> omega))⟩
  · rw [mkS_ok hv]
    go_enter Tryz.func145, Tryz.ntmps145
    go_wp2_with fail
    refine (R.out _ (H.out.alloc _)).mono ?_
    rintro e w1 ⟨rfl, hb1⟩
    have K1 : Below w.heap.size w w1 := kept_call hb1 (by (repeat' (first | (with_reducible exact Below.refl _ _) | (with_reducible refine Below.setCell ?_ ?_ _) | (with_reducible refine Below.alloc ?_ ?_ _) | (with_reducible refine Below.drew ?_) | (with_reducible refine below_drewN ?_ _))) <;> (first | omega | (simp <;> omega)))
    have Z1 : w.heap.size ≤ w1.heap.size := K1.size
    have b1_0 := Blk.keep (g := w.heap.size) hb1 (by (repeat' (first | ((with_reducible refine' Blk.newE ?_); first | rfl | (simp; done)) | (with_reducible refine' Blk.alloc ?_ _) | (with_reducible refine' Blk.drew ?_) | (with_reducible refine' Blk.drewN ?_ _) | (with_reducible refine' Blk.put ?_ ?_) | (with_reducible refine' Blk.far ?_ ?_ _) | exact rfl)) <;> (first | omega | (simp <;> omega)))
    (try simp only [List.setIfInBounds_toArray, List.set_cons_zero, List.set_cons_succ] at b1_0)
    clear hb1
    obtain ⟨c1_0, f1_0, l1_0, e1_0, k1_0⟩ := Blk.facts b1_0
    go_wp2_with fail
    refine (HK.out _ K1).mono ?_
    rintro e w2 ⟨rfl, hb2⟩
    have K2 : Below w.heap.size w w2 := kept_call hb2 (by (repeat' (first | (with_reducible exact K1) | (with_reducible refine Below.setCell ?_ ?_ _) | (with_reducible refine Below.alloc ?_ ?_ _) | (with_reducible refine Below.drew ?_) | (with_reducible refine below_drewN ?_ _))) <;> (first | omega | (simp <;> omega)))
    have Z2 : w.heap.size ≤ w2.heap.size := K2.size
    have b1_0' := Blk.keep (g := w.heap.size) hb2 (by (repeat' (first | (with_reducible refine' Blk.alloc ?_ _) | (with_reducible refine' Blk.drew ?_) | (with_reducible refine' Blk.drewN ?_ _) | (with_reducible refine' Blk.put ?_ ?_) | (with_reducible refine' Blk.far ?_ ?_ _) | exact b1_0 | exact rfl)) <;> (first | omega | (simp <;> omega)))
    (try simp only [List.setIfInBounds_toArray, List.set_cons_zero, List.set_cons_succ] at b1_0')
    clear hb2 K1
    clear b1_0 c1_0 f1_0 l1_0 e1_0 k1_0; have b1_0 := b1_0'; clear b1_0'
    obtain ⟨c1_0, f1_0, l1_0, e1_0, k1_0⟩ := Blk.facts b1_0
    go_wp2_with fail
    refine (svalid_any _ _ _).mono ?_
    rintro e wq1 ⟨rfl, rfl⟩
    rw [hv]
    go_wp2
    exact bodyPost_ret (v := .tuple #[.agg #[.int .i64 x, .int .i64 y], .int .i64 0]) (by simp [results, Tryz.results145, go_sem, *]) rfl ⟨rfl, by (repeat' (first | (with_reducible exact K2) | (with_reducible refine Below.setCell ?_ ?_ _) | (with_reducible refine Below.alloc ?_ ?_ _) | (with_reducible refine Below.drew ?_) | (with_reducible refine below_drewN ?_ _))) <;> (first | omega | (simp <;> omega))⟩
end Go.Proofs.YtiinmhfolfgobaaGreatDoor
namespace Go.Proofs.YtiinmhfolfgobaaGreatDoor
open Go.RowKit

theorem take_snocC {α : Type} (d : α) (zs : List α) {k : Nat} (h : k < zs.length) : zs.take (k + 1) = zs.take k ++ [zs.getD k d] := by
  rw [List.take_succ_eq_append_getElem h, List.getD_eq_getElem?_getD, List.getElem?_eq_getElem h]; rfl
end Go.Proofs.YtiinmhfolfgobaaGreatDoor
