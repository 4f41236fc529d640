/- Texts joined: Oct2, Oct3 -/
import Derived.Lib.AppendZeros
import Derived.Test.YtiinmhfolfgobaaGreatDoorJ41
namespace Go.Proofs.YtiinmhfolfgobaaGreatDoor
open Go.RowKit
set_option linter.unusedSimpArgs false
set_option linter.unusedVariables false

def ByRow (w : World) (base : Nat) (v : Value) (bs : List Int) : Prop := w.ownsRow base 5 1 v bs.length (bcells bs)
theorem ByRow.nil (w : World) (base : Nat) : ByRow w base (.slice none 0 0) [] := World.ownsRow_nil _ _ _ _
theorem ByRow.kept {w w' : World} {base : Nat} {v : Value} {bs : List Int} {X : Option Nat} (h : ByRow w base v bs) (hg : w.grownBy w' X) (hn : v.ownBlock = none ∨ v.ownBlock ≠ X) : ByRow w' base v bs := World.ownsRow.kept h hg hn
theorem ByRow.below {w w' : World} {base : Nat} {v : Value} {bs : List Int} (h : ByRow w base v bs) (hb : Below w.heap.size w w') : ByRow w' base v bs :=
  h.kept (⟨hb.os, hb.tape, hb.output, hb.size, fun k hk _ => hb.block k hk⟩ : w.grownBy w' none) (by cases v.ownBlock <;> simp)
theorem ByRow.own {w : World} {base : Nat} {v : Value} {bs : List Int} (h : ByRow w base v bs) : ∀ k, v.ownBlock = some k → base ≤ k ∧ k < w.heap.size := World.ownsRow.lt h
theorem ByRow.form {w : World} {base : Nat} {v : Value} {bs : List Int} (h : ByRow w base v bs) (h0 : 0 < bs.length) : ∃ g cap, v = .slice (some ⟨g, 0, none⟩) bs.length cap ∧ base ≤ g ∧ g < w.heap.size ∧ ByAt w g bs := by
  obtain ⟨g, cap, rfl, h1, h2⟩ := World.ownsRow.form h h0
  obtain ⟨g', e, -, -, h5⟩ := own_bytes h rfl h0
  injection e with e; injection e with e
  subst e
  exact ⟨g, cap, rfl, h1, h2, h5⟩
/-- The lists that are to be joined. -/
def PartsAt (w : World) (A : Option Addr) (ps : List (List Int)) : Prop := ∃ g off, A = some ⟨g, off, none⟩ ∧ g < w.heap.size ∧ ∀ j, j < ps.length → ∃ h o c, w.cell? ⟨g, off + j, none⟩ = some (.slice (some ⟨h, o, none⟩) (ps.getD j []).length c) ∧ BySl w h o (ps.getD j [])
theorem PartsAt.below {w w' : World} {A : Option Addr} {ps : List (List Int)} (h : PartsAt w A ps) (hb : Below w.heap.size w w') : PartsAt w' A ps := by
  obtain ⟨g, off, rfl, hg, hc⟩ := h
  refine ⟨g, off, rfl, Nat.lt_of_lt_of_le hg hb.size, fun j hj => ?_⟩
  obtain ⟨h, o, c, h1, h2⟩ := hc j hj
  exact ⟨h, o, c, cell_below hb h1, h2.below hb⟩
theorem news_bytes {w : World} {h o : Nat} {bs : List Int} (hs : BySl w h o bs) : ∀ j u, (bcells bs)[j]? = some u → w.cell? ((⟨h, o, none⟩ : Addr).add j) = some u := by
  intro j u hj
  have hl : j < bs.length := by have := (List.getElem?_eq_some_iff.1 hj).1; rwa [bcells_length] at this
  rw [bcells_get bs j hl] at hj
  rw [show (⟨h, o, none⟩ : Addr).add j = ⟨h, o + j, none⟩ from by simp [Addr.add]]
  exact (hs.2 j hl).trans hj
theorem one_bytes (bs : List Int) : ∀ u ∈ bcells bs, u.oneCell' = true := by
  intro u hu
  simp only [bcells, List.mem_map] at hu
  obtain ⟨x, -, rfl⟩ := hu
  rfl
theorem ByRow.mono {w : World} {base base' : Nat} {v : Value} {bs : List Int} (h : ByRow w base v bs) (hb : base' ≤ base) : ByRow w base' v bs := by
  refine ⟨h.1, ?_⟩
  rcases h.2 with h2 | ⟨g, cap, cur, h1, h2, h3⟩
  · exact .inl h2
  · exact .inr ⟨g, cap, cur, h1, by omega, h3⟩
end Go.Proofs.YtiinmhfolfgobaaGreatDoor
namespace Go.Proofs.YtiinmhfolfgobaaGreatDoor
open Go.RowKit
set_option linter.unusedSimpArgs false
set_option linter.unusedVariables false

def gtS (bs : List Int) : Nat → Int
  | 0 => 0
  | q + 1 => bits .or .u64 (IntKind.u64.wrap (gtS bs q * 256)) (bs.getD q 0)
theorem BySl.tail {w : World} {g off : Nat} {bs : List Int} (h : BySl w g off bs) (k : Nat) (hk : k ≤ bs.length) : BySl w g (off + k) (bs.drop k) :=
  ⟨h.1, fun j hj => by
    rw [List.length_drop] at hj
    have := h.2 (k + j) (by omega)
    rw [show off + k + j = off + (k + j) by omega, this, List.getD_eq_getElem?_getD, List.getD_eq_getElem?_getD, List.getElem?_drop]⟩
theorem BySl.head {w : World} {g off : Nat} {bs : List Int} (h : BySl w g off bs) (k : Nat) (hk : k ≤ bs.length) : BySl w g off (bs.take k) :=
  ⟨h.1, fun j hj => by
    rw [List.length_take] at hj
    rw [h.2 j (by omega), List.getD_eq_getElem?_getD, List.getD_eq_getElem?_getD, List.getElem?_take, if_pos (by omega)]⟩
def GtRel (w : World) (bs : List Int) (G : Nat) (v i : Value) (wr : World) : Prop := ∃ q : Nat, q ≤ 8 ∧ G = 8 - q ∧ i = .int .i64 q ∧ v = .int .u64 (gtS bs q) ∧ Below w.heap.size w wr
set_option maxRecDepth 100000 in
set_option maxHeartbeats 1000000 in
theorem oget_any (g off c : Nat) (bs : List Int) (hl : bs.length = 8) (hb : ∀ x ∈ bs, 0 ≤ x ∧ x < 256) (w : World) (h : BySl w g off bs) :
    Calls Tryz.prog 206 #[.slice (some ⟨g, off, none⟩) 8 c] w (RB w (.int .u64 (gtS bs 8))) := by
  have HB := Lib.hid h; clear h
  obtain ⟨G8, hG8⟩ : ∃ x, gtS bs 8 = x := ⟨_, rfl⟩
  rw [hG8]
  have HG8 := Lib.hid (show ∃ n, n = 8 ∧ gtS bs n = G8 from ⟨8, rfl, hG8⟩); clear hG8
  go_enter Tryz.func206, Tryz.ntmps206
  go_wp2
  go_loopg [3, 13] 8 (fun G v i wr => GtRel w bs G v i wr)
  case atStart => exact ⟨0, by omega, by omega, rfl, rfl, Below.refl _ _⟩
  case round =>
    obtain ⟨q, hq, rfl, rfl, rfl, KR⟩ := hrel
    have HKR := Lib.hid KR
    have hB := HB.out.below KR
    clear KR
    by_cases hlt : q < 8
    · have gq : decide ((q : Int) < 8) = true := decide_eq_true (by omega)
      have gqn : decide (q < 8) = true := decide_eq_true hlt
      have wq : IntKind.i64.wrap ((q : Int) + 1) = ((q + 1 : Nat) : Int) := by rw [IntWalk.i64_in _ (by omega)]; omega
      have hc := hB.2 q (by omega)
      have hg := hB.1
      have hx := hb (bs.getD q 0) (by rw [List.getD_eq_getElem?_getD, List.getElem?_eq_getElem (by omega)]; exact List.getElem_mem _)
      have hst : gtS bs (q + 1) = bits .or .u64 (IntKind.u64.wrap (gtS bs q * 256)) (bs.getD q 0) := rfl
      generalize bs.getD q 0 = x at *
      generalize gtS bs q = y at *
      have wx : IntKind.u64.wrap x = x := by simp [IntKind.wrap, IntKind.bits, IntKind.signed]; omega
      have wx2 : x % 18446744073709551616 = x := Int.emod_eq_of_lt hx.1 (by omega)
      have HST := Lib.hid hst; clear hst hB
      go_wp2
      go_roundg (8 - (q + 1))
      case measure => omega
      case rel => exact ⟨q + 1, by omega, by omega, by go_num, by rw [HST.out], HKR.out⟩
    · obtain rfl : q = 8 := by omega
      have gq : decide (((8 : Nat) : Int) < 8) = false := by decide
      have gq2 : decide ((8 : Int) < 8) = false := by decide
      clear hB
      have e8 : gtS bs 8 = G8 := by obtain ⟨n, rfl, h⟩ := HG8.out; exact h
      rw [e8]
      clear e8
      go_wp2
      go_ret
      exact ⟨rfl, HKR.out⟩
end Go.Proofs.YtiinmhfolfgobaaGreatDoor
