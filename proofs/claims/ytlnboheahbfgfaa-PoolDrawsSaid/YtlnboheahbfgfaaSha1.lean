/- The words of SHA-256: turns. -/
import Derived.Test.YtlnboheahbfgfaaOct
namespace Go.Proofs.Ytlnboheahbfgfaa
open Go.RowKit
set_option linter.unusedSimpArgs false
set_option linter.unusedVariables false

def rotS (x n : Int) : Int := bits .or .u32 (x / 2 ^ n.toNat) (x * 2 ^ (32 - n).toNat % 4294967296)
theorem bits_u32 (op : BinOp) (x y : Int) : 0 ≤ bits op .u32 x y ∧ bits op .u32 x y < 4294967296 := by
  have : ∀ z : Int, 0 ≤ IntKind.u32.wrap z ∧ IntKind.u32.wrap z < 4294967296 := fun z => by
    simp [IntKind.wrap, IntKind.bits, IntKind.signed]; omega
  exact this _
theorem bits_or_comm (k : IntKind) (x y : Int) : bits .or k x y = bits .or k y x := by
  unfold bits
  simp only [BitVec.or_comm]
theorem turn_any (x n : Int) (h0 : 0 ≤ x) (h1 : x < 4294967296) (n0 : 1 ≤ n) (n1 : n ≤ 31) (w : World) : Calls Try.prog 33 #[.int .u32 x, .int .i64 n] w fun e w' => e = .returned (.int .u32 (rotS x n)) ∧ w = w' := by
  have wn : IntKind.u64.wrap n = n := by simp [IntKind.wrap, IntKind.bits, IntKind.signed]; omega
  have wm : IntKind.i64.wrap (32 - n) = 32 - n := IntWalk.i64_in _ (by omega)
  have wm2 : IntKind.u64.wrap (32 - n) = 32 - n := by simp [IntKind.wrap, IntKind.bits, IntKind.signed]; omega
  go_enter Try.func33, Try.ntmps33
  go_wp2
  go_ret
  exact ⟨rfl, rfl⟩
theorem and31 : ∀ n : Fin 32, 1 ≤ n.val → bits .and .u64 (18446744073709551616 - (n.val : Int)) 31 = 32 - (n.val : Int) := by decide +kernel
theorem rotl_any (x n : Int) (h0 : 0 ≤ x) (h1 : x < 4294967296) (n0 : 1 ≤ n) (n1 : n ≤ 31) (w : World) : Calls Try.prog 35 #[.int .u32 x, .int .i64 (-n)] w fun e w' => e = .returned (.int .u32 (rotS x n)) ∧ w = w' := by
  have wn : IntKind.u64.wrap (-n) = 18446744073709551616 - n := by simp [IntKind.wrap, IntKind.bits, IntKind.signed]; omega
  have wb : bits .and .u64 (18446744073709551616 - n) 31 = 32 - n := by
    have := and31 ⟨n.toNat, by omega⟩ (by show 1 ≤ n.toNat; omega)
    simp only [Int.toNat_of_nonneg (show 0 ≤ n by omega)] at this
    exact this
  have wm2 : IntKind.u64.wrap (32 - n) = 32 - n := by simp [IntKind.wrap, IntKind.bits, IntKind.signed]; omega
  have wm3 : IntKind.u64.wrap (32 - (32 - n)) = n := by simp [IntKind.wrap, IntKind.bits, IntKind.signed]; omega
  have e3 : 32 - (32 - n) = n := by omega
  have wn3 : IntKind.u64.wrap n = n := by simp [IntKind.wrap, IntKind.bits, IntKind.signed]; omega
  have hc : rotS x n = bits .or .u32 (x * 2 ^ (32 - n).toNat % 4294967296) (x / 2 ^ n.toNat) := bits_or_comm _ _ _
  rw [hc]
  have HC := Lib.hid hc; clear hc
  go_enter Try.func35, Try.ntmps35
  go_wp2
  go_ret
  exact ⟨rfl, rfl⟩
theorem rot_any (x n : Int) (h0 : 0 ≤ x) (h1 : x < 4294967296) (n0 : 1 ≤ n) (n1 : n ≤ 31) (w : World) : Calls Try.prog 34 #[.int .u32 x, .int .i64 n] w fun e w' => e = .returned (.int .u32 (rotS x n)) ∧ w = w' := by
  have wm : IntKind.i64.wrap (-n) = -n := IntWalk.i64_in _ (by omega)
  go_enter Try.func34, Try.ntmps34
  go_wp2_with fail
  refine (rotl_any x n h0 h1 n0 n1 _).mono ?_
  rintro e w' ⟨rfl, rfl⟩
  go_wp2
  go_ret
  exact ⟨rfl, rfl⟩
theorem turn_rb (x n : Int) (h0 : 0 ≤ x ∧ x < 4294967296) (n0 : 1 ≤ n ∧ n ≤ 31) (w : World) : Calls Try.prog 33 #[.int .u32 x, .int .i64 n] w (RB w (.int .u32 (rotS x n))) := (turn_any x n h0.1 h0.2 n0.1 n0.2 w).mono fun _ _ h => ⟨h.1, h.2 ▸ Below.refl _ _⟩
theorem rot_rb (x n : Int) (h0 : 0 ≤ x ∧ x < 4294967296) (n0 : 1 ≤ n ∧ n ≤ 31) (w : World) : Calls Try.prog 34 #[.int .u32 x, .int .i64 n] w (RB w (.int .u32 (rotS x n))) := (rot_any x n h0.1 h0.2 n0.1 n0.2 w).mono fun _ _ h => ⟨h.1, h.2 ▸ Below.refl _ _⟩
end Go.Proofs.Ytlnboheahbfgfaa
