/- The number in eight bytes, in both worlds. -/
import Derived.Test.YtlnboheahbfgfaaOct2
namespace Go.Proofs.Ytlnboheahbfgfaa
open Go.RowKit
set_option linter.unusedSimpArgs false
set_option linter.unusedVariables false

def gtS (bs : List Int) : Nat → Int
  | 0 => 0
  | q + 1 => bits .or .u64 (IntKind.u64.wrap (gtS bs q * 256)) (bs.getD q 0)
theorem bits_u64 (op : BinOp) (x y : Int) : 0 ≤ bits op .u64 x y ∧ bits op .u64 x y < 18446744073709551616 := by
  have : ∀ z : Int, 0 ≤ IntKind.u64.wrap z ∧ IntKind.u64.wrap z < 18446744073709551616 := fun z => by
    simp [IntKind.wrap, IntKind.bits, IntKind.signed]; omega
  exact this _
theorem gtS_in (bs : List Int) (q : Nat) : 0 ≤ gtS bs q ∧ gtS bs q < 18446744073709551616 := by
  cases q with
  | zero => exact ⟨by show (0 : Int) ≤ 0; omega, by show (0 : Int) < _; omega⟩
  | succ q => exact bits_u64 _ _ _
theorem BySl.head {w : World} {g off : Nat} {bs : List Int} (h : BySl w g off bs) (k : Nat) (hk : k ≤ bs.length) : BySl w g off (bs.take k) :=
  ⟨h.1, fun j hj => by
    rw [List.length_take] at hj
    rw [h.2 j (by omega), List.getD_eq_getElem?_getD, List.getD_eq_getElem?_getD, List.getElem?_take, if_pos (by omega)]⟩
def GtRel (w : World) (bs : List Int) (G : Nat) (v i : Value) (wr : World) : Prop := ∃ q : Nat, q ≤ 8 ∧ G = 8 - q ∧ i = .int .i64 q ∧ v = .int .u64 (gtS bs q) ∧ Below w.heap.size w wr
set_option maxRecDepth 100000 in
set_option maxHeartbeats 1000000 in
theorem rget_any (g off c : Nat) (bs : List Int) (hl : bs.length = 8) (hb : ∀ x ∈ bs, 0 ≤ x ∧ x < 256) (w : World) (h : BySl w g off bs) :
    Calls Try.prog 20 #[.slice (some ⟨g, off, none⟩) 8 c] w (RB w (.int .u64 (gtS bs 8))) := by
  have HB := Lib.hid h; clear h
  obtain ⟨G8, hG8⟩ : ∃ x, gtS bs 8 = x := ⟨_, rfl⟩
  rw [hG8]
  have HG8 := Lib.hid (show ∃ n, n = 8 ∧ gtS bs n = G8 from ⟨8, rfl, hG8⟩); clear hG8
  go_enter Try.func20, Try.ntmps20
  go_wp2
  go_loopg [3, 4] 8 (fun G v i wr => GtRel w bs G v i wr)
  case atStart => exact ⟨0, by omega, by omega, rfl, rfl, Below.refl _ _⟩
  case round =>
    obtain ⟨q, hq, rfl, rfl, rfl, KR⟩ := hrel
    have HKR := Lib.hid KR
    have hB := HB.out.below KR
    clear KR
    by_cases hlt : q < 8
    · have gq : decide ((q : Int) < 8) = true := decide_eq_true (by omega)
      have gqn : decide (q < 8) = true := decide_eq_true hlt
      have wq : IntKind.i64.wrap ((q : Int) + 1) = ((q + 1 : Nat) : Int) := by rw [IntWalk.i64_in _ (by omega)]; omega
      have hc := hB.2 q (by omega)
      have hg := hB.1
      have hx := hb (bs.getD q 0) (by rw [List.getD_eq_getElem?_getD, List.getElem?_eq_getElem (by omega)]; exact List.getElem_mem _)
      have hst : gtS bs (q + 1) = bits .or .u64 (IntKind.u64.wrap (gtS bs q * 256)) (bs.getD q 0) := rfl
      generalize bs.getD q 0 = x at *
      generalize gtS bs q = y at *
      have wx : IntKind.u64.wrap x = x := by simp [IntKind.wrap, IntKind.bits, IntKind.signed]; omega
      have wx2 : x % 18446744073709551616 = x := Int.emod_eq_of_lt hx.1 (by omega)
      have HST := Lib.hid hst; clear hst hB
      go_wp2
      go_roundg (8 - (q + 1))
      case measure => omega
      case rel => exact ⟨q + 1, by omega, by omega, by go_num, by rw [HST.out], HKR.out⟩
    · obtain rfl : q = 8 := by omega
      have gq : decide (((8 : Nat) : Int) < 8) = false := by decide
      have gq2 : decide ((8 : Int) < 8) = false := by decide
      clear hB
      have e8 : gtS bs 8 = G8 := by obtain ⟨n, rfl, h⟩ := HG8.out; exact h
      rw [e8]
      clear e8
      go_wp2
      go_ret
      exact ⟨rfl, HKR.out⟩
set_option maxRecDepth 100000 in
set_option maxHeartbeats 1000000 in
theorem oget_any (g off c : Nat) (bs : List Int) (hl : bs.length = 8) (hb : ∀ x ∈ bs, 0 ≤ x ∧ x < 256) (w : World) (h : BySl w g off bs) :
    Calls Try.prog 16 #[.slice (some ⟨g, off, none⟩) 8 c] w (RB w (.int .u64 (gtS bs 8))) := by
  have HB := Lib.hid h; clear h
  obtain ⟨G8, hG8⟩ : ∃ x, gtS bs 8 = x := ⟨_, rfl⟩
  rw [hG8]
  have HG8 := Lib.hid (show ∃ n, n = 8 ∧ gtS bs n = G8 from ⟨8, rfl, hG8⟩); clear hG8
  go_enter Try.func16, Try.ntmps16
  go_wp2
  go_loopg [3, 13] 8 (fun G v i wr => GtRel w bs G v i wr)
  case atStart => exact ⟨0, by omega, by omega, rfl, rfl, Below.refl _ _⟩
  case round =>
    obtain ⟨q, hq, rfl, rfl, rfl, KR⟩ := hrel
    have HKR := Lib.hid KR
    have hB := HB.out.below KR
    clear KR
    by_cases hlt : q < 8
    · have gq : decide ((q : Int) < 8) = true := decide_eq_true (by omega)
      have gqn : decide (q < 8) = true := decide_eq_true hlt
      have wq : IntKind.i64.wrap ((q : Int) + 1) = ((q + 1 : Nat) : Int) := by rw [IntWalk.i64_in _ (by omega)]; omega
      have hc := hB.2 q (by omega)
      have hg := hB.1
      have hx := hb (bs.getD q 0) (by rw [List.getD_eq_getElem?_getD, List.getElem?_eq_getElem (by omega)]; exact List.getElem_mem _)
      have hst : gtS bs (q + 1) = bits .or .u64 (IntKind.u64.wrap (gtS bs q * 256)) (bs.getD q 0) := rfl
      generalize bs.getD q 0 = x at *
      generalize gtS bs q = y at *
      have wx : IntKind.u64.wrap x = x := by simp [IntKind.wrap, IntKind.bits, IntKind.signed]; omega
      have wx2 : x % 18446744073709551616 = x := Int.emod_eq_of_lt hx.1 (by omega)
      have HST := Lib.hid hst; clear hst hB
      go_wp2
      go_roundg (8 - (q + 1))
      case measure => omega
      case rel => exact ⟨q + 1, by omega, by omega, by go_num, by rw [HST.out], HKR.out⟩
    · obtain rfl : q = 8 := by omega
      have gq : decide (((8 : Nat) : Int) < 8) = false := by decide
      have gq2 : decide ((8 : Int) < 8) = false := by decide
      clear hB
      have e8 : gtS bs 8 = G8 := by obtain ⟨n, rfl, h⟩ := HG8.out; exact h
      rw [e8]
      clear e8
      go_wp2
      go_ret
      exact ⟨rfl, HKR.out⟩
end Go.Proofs.Ytlnboheahbfgfaa
