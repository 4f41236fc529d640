/- Texts joined: I11L, ComS -/
import Derived.Deep.LoopGhost
import Derived.Shelf.Abstract
import Derived.Test.YtlfkkfdolnkjfaaJ6
namespace Go.Proofs.Ytlfkkfdolnkjfaa
open Go.RowKit

/-- A slice of spans, element by element. -/
def SpansAt (w : World) (A : Option Addr) (len : Nat) (zs : List (Int × Int)) : Prop :=
  zs.length = len ∧ len ≤ 9223372036854775807 ∧ (0 < len → ∃ b off, A = some ⟨b, off, none⟩ ∧ b < w.heap.size ∧ ∀ j, j < len → w.cell? ⟨b, off + j * 2, none⟩ = some (.int .i64 (zs.getD j (0, 0)).1) ∧ w.cell? ⟨b, off + j * 2 + 1, none⟩ = some (.int .i64 (zs.getD j (0, 0)).2))
theorem SpansAt.below {w w' : World} {A : Option Addr} {len : Nat} {zs : List (Int × Int)} (h : SpansAt w A len zs) (hb : Below w.heap.size w w') : SpansAt w' A len zs := by
  obtain ⟨h1, h2, h3⟩ := h
  refine ⟨h1, h2, fun hl => ?_⟩
  obtain ⟨b, off, rfl, hlt, hc⟩ := h3 hl
  exact ⟨b, off, rfl, Nat.lt_of_lt_of_le hlt hb.size, fun j hj => ⟨cell_below hb (hc j hj).1, cell_below hb (hc j hj).2⟩⟩
theorem SpansAt.alloc {w : World} {A : Option Addr} {len : Nat} {zs : List (Int × Int)} (h : SpansAt w A len zs) (o : Obj) : SpansAt (w.alloc o) A len zs := h.below ((Below.refl _ _).alloc (Nat.le_refl _) _)
/-- Does any of them meet the test? -/
def anyS (p : Int → Int → Bool) (zs : List (Int × Int)) : Bool := zs.any fun z => p z.1 z.2
theorem anyS_false {p : Int → Int → Bool} {zs : List (Int × Int)} : anyS p zs = false ↔ ∀ j, j < zs.length → p (zs.getD j (0, 0)).1 (zs.getD j (0, 0)).2 = false := by
  unfold anyS
  rw [List.any_eq_false]
  constructor
  · intro h j hj
    have := h (zs.getD j (0, 0)) (by rw [List.getD_eq_getElem?_getD, List.getElem?_eq_getElem hj]; simp)
    simpa using this
  · intro h z hz
    obtain ⟨j, hj, rfl⟩ := List.getElem_of_mem hz
    have := h j hj
    rw [List.getD_eq_getElem?_getD, List.getElem?_eq_getElem hj] at this
    simpa using this
/-- What IndexFunc returns: an index that is 0 or greater exactly if any element meets the test. -/
def IdxR (w : World) (b : Bool) (e : Ending) (w' : World) : Prop := ∃ v : Int, e = .returned (.int .i64 v) ∧ decide (0 ≤ v) = b ∧ Below w.heap.size w w'
theorem IdxR.mk {w w' : World} {b : Bool} {v : Int} (h : decide (0 ≤ v) = b) (hb : Below w.heap.size w w') : IdxR w b (.returned (.int .i64 v)) w' := ⟨v, rfl, h, hb⟩
def IdxRel (w : World) (p : Int → Int → Bool) (zs : List (Int × Int)) (len : Nat) (G : Nat) (i : Value) (wr : World) : Prop := ∃ q : Nat, q ≤ len ∧ G = len - q ∧ i = .int .i64 q ∧ (∀ j, j < q → p (zs.getD j (0, 0)).1 (zs.getD j (0, 0)).2 = false) ∧ Below w.heap.size w wr

set_option maxHeartbeats 2000000 in
theorem idxS (k : FuncId) (ek : ∀ args w, (callFunc k args).run Try.prog w = .ok (.enter k args) w) (p : Int → Int → Bool) (hk : ∀ lo hi w, Calls Try.prog k #[.agg #[.int .i64 lo, .int .i64 hi]] w (RB w (.bool (p lo hi)))) (A : Option Addr) (len cap : Nat) (zs : List (Int × Int)) (w : World) (h : SpansAt w A len zs) :
    Calls Try.prog 105 #[.slice A len cap, .func (.func k) #[] #[]] w (IdxR w (anyS p zs)) := by
  have HK := Lib.hid hk; clear hk
  have H := Lib.hid h
  have hl := h.2.1
  have hz := h.1
  clear h
  go_enter Try.func105, Try.ntmps105
  go_wp2
  go_loopg [8] len (fun G i wr => IdxRel w p zs len G i wr)
  case atStart => exact ⟨0, by omega, by omega, rfl, by omega, Below.refl _ _⟩
  case round =>
    obtain ⟨q, hq, rfl, rfl, hall, hbel⟩ := hrel
    have HA := Lib.hid hall; clear hall
    by_cases hlt : q < len
    · obtain ⟨b, off, rfl, hb, hc⟩ := H.out.2.2 (by omega)
      obtain ⟨c0, c1⟩ := hc q hlt
      have c0 := (hbel.cell (p := ⟨b, off + q * 2, none⟩) hb).trans c0
      have c1 := (hbel.cell (p := ⟨b, off + q * 2 + 1, none⟩) hb).trans c1
      clear hc
      generalize hzz : zs.getD q (0, 0) = z at c0 c1
      have HZ := Lib.hid hzz; clear hzz
      obtain ⟨x, y⟩ := z
      dsimp only at c0 c1
      have r := HK.out x y
      rcases hp : p x y
      · rw [hp] at r
        have R := Lib.hid r; clear r
        go_wp2_with fail
        refine (R.out _).mono ?_
        rintro e w1 ⟨rfl, hb1⟩
        have K1 := kept_call hb1 hbel
        go_wp2
        go_roundg (len - (q + 1))
        case measure => omega
        case rel =>
          refine ⟨q + 1, by omega, by omega, by go_num, fun j hj => ?_, K1⟩
          by_cases e : j = q
          · subst e; rw [HZ.out]; exact hp
          · exact HA.out j (by omega)
      · rw [hp] at r
        have R := Lib.hid r; clear r
        go_wp2_with fail
        refine (R.out _).mono ?_
        rintro e w1 ⟨rfl, hb1⟩
        have K1 := kept_call hb1 hbel
        go_wp2
        go_ret
        refine IdxR.mk ?_ K1
        rcases ha : anyS p zs
        · have := anyS_false.1 ha q (by omega)
          rw [HZ.out] at this; rw [this] at hp; cases hp
        · simp
    · obtain rfl : q = len := by omega
      go_wp2
      go_ret
      refine IdxR.mk ?_ hbel
      rw [anyS_false.2 (fun j hj => HA.out j (by omega))]
      rfl
set_option maxHeartbeats 1000000 in
theorem contS (k : FuncId) (ek : ∀ args w, (callFunc k args).run Try.prog w = .ok (.enter k args) w) (p : Int → Int → Bool) (hk : ∀ lo hi w, Calls Try.prog k #[.agg #[.int .i64 lo, .int .i64 hi]] w (RB w (.bool (p lo hi)))) (A : Option Addr) (len cap : Nat) (zs : List (Int × Int)) (w : World) (h : SpansAt w A len zs) :
    Calls Try.prog 66 #[.slice A len cap, .func (.func k) #[] #[]] w (RB w (.bool (anyS p zs))) := by
  have R := Lib.hid (idxS k ek p hk A len cap zs w h); clear hk h
  go_enter Try.func66, Try.ntmps66
  go_wp2_with fail
  refine R.out.mono ?_
  rintro e w1 ⟨v, rfl, hv, hb⟩
  rw [← hv]
  go_wp2
  go_ret
  exact ⟨rfl, hb⟩
/-- Every span of a list is valid. -/
def badS (zs : List (Int × Int)) : Bool := anyS (fun lo hi => !vS lo hi) zs
end Go.Proofs.Ytlfkkfdolnkjfaa
namespace Go.Proofs.Ytlfkkfdolnkjfaa
open Go.RowKit

theorem take_snocC {α : Type} (d : α) (zs : List α) {k : Nat} (h : k < zs.length) : zs.take (k + 1) = zs.take k ++ [zs.getD k d] := by
  rw [List.take_succ_eq_append_getElem h, List.getD_eq_getElem?_getD, List.getElem?_eq_getElem h]; rfl
end Go.Proofs.Ytlfkkfdolnkjfaa
