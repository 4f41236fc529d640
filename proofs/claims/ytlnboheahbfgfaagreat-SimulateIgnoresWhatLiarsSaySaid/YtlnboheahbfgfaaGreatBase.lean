/- Walks of small helpers of the tapes: Within. -/
import Derived.Deep.Draws
import Derived.Lib.Hide
import Derived.WalkKit
import Derived.WalkLawsBesides
import Derived.WalkSpells
import Derived.Test.YtlnboheahbfgfaaGreatRows
namespace Go.Proofs.YtlnboheahbfgfaaGreat
open Go.RowKit

theorem tmod_lo (v n : Int) (hn : 1 ≤ n) : -n < v.tmod n ∧ v.tmod n < n := by
  have h1 := Int.tmod_lt_of_pos v (show 0 < n by omega)
  have h2 : v.tmod n = if 0 ≤ v then v % n else -((-v) % n) := by
    split
    · exact Int.tmod_eq_emod_of_nonneg ‹_›
    · rename_i h
      have : v = -(-v) := by omega
      rw [this, Int.neg_tmod, Int.tmod_eq_emod_of_nonneg (by omega)]; simp
  have h3 := Int.emod_nonneg (-v) (show n ≠ 0 by omega)
  have h4 := Int.emod_lt_of_pos (-v) (show 0 < n by omega)
  have h5 := Int.emod_nonneg v (show n ≠ 0 by omega)
  refine ⟨?_, h1⟩
  rw [h2]; split <;> omega
theorem tmod_mod (v n : Int) : v.tmod n % n = v % n := by
  have h := Int.tmod_def v n
  rw [h, Int.sub_mul_emod_self_left]
theorem tmod_neg (v n : Int) (hn : 1 ≤ n) (h : v.tmod n < 0) : v.tmod n + n = v % n := by
  have hp : v.tmod n % n = v % n := tmod_mod v n
  have h1 := tmod_lo v n hn
  have : (v.tmod n + n) % n = v % n := by rw [Int.add_emod_right]; exact hp
  rw [← this]; exact (Int.emod_eq_of_lt (by omega) (by omega)).symm
theorem tmod_pos (v n : Int) (hn : 1 ≤ n) (h : 0 ≤ v.tmod n) : v.tmod n = v % n := by
  have hp : v.tmod n % n = v % n := tmod_mod v n
  have h1 := tmod_lo v n hn
  rw [← hp]; exact (Int.emod_eq_of_lt (by omega) (by omega)).symm
theorem two_pow_cast (k : Nat) : ((2 ^ k : Nat) : Int) = 2 ^ k := by simp
/-- x & mask, the mask of so many ones. -/
theorem i64_mask (n : Int) (k : Nat) (hk : k < 63) : bits .and .i64 n (2 ^ k - 1) = n % 2 ^ k := by
  have hlt : (2 : Nat) ^ k < 2 ^ 63 := Nat.pow_lt_pow_right (by decide) hk
  have hp := Nat.two_pow_pos k
  have e3 := two_pow_cast k
  have e : ((2 : Int) ^ k - 1) = ((2 ^ k - 1 : Nat) : Int) := by omega
  have hm : (BitVec.ofInt 64 ((2 : Int) ^ k - 1)).toNat = 2 ^ k - 1 := by
    rw [e, BitVec.ofInt_natCast, BitVec.toNat_ofNat]; exact Nat.mod_eq_of_lt (by omega)
  have key : (BitVec.ofInt 64 n &&& BitVec.ofInt 64 ((2 : Int) ^ k - 1)).toNat = (n % ((2 ^ 64 : Nat) : Int)).toNat % 2 ^ k := by
    rw [BitVec.toNat_and, BitVec.toNat_ofInt, hm, Nat.and_two_pow_sub_one_eq_mod]
  show IntKind.i64.wrap ((BitVec.ofInt 64 n &&& BitVec.ofInt 64 ((2 : Int) ^ k - 1)).toNat : Nat) = n % 2 ^ k
  rw [key]
  have h0 := Int.emod_nonneg n (show ((2 ^ 64 : Nat) : Int) ≠ 0 by decide)
  have hd : (2 : Int) ^ k ∣ ((2 ^ 64 : Nat) : Int) := by
    rw [← e3]; exact Int.natCast_dvd_natCast.2 (Nat.pow_dvd_pow 2 (by omega))
  have e2 : (((n % ((2 ^ 64 : Nat) : Int)).toNat % 2 ^ k : Nat) : Int) = n % 2 ^ k := by
    rw [Int.natCast_emod, Int.toNat_of_nonneg h0, e3, Int.emod_emod_of_dvd _ hd]
  have h1 := Int.emod_nonneg n (show (2 : Int) ^ k ≠ 0 by omega)
  have h2 := Int.emod_lt_of_pos n (show (0 : Int) < 2 ^ k by omega)
  rw [e2, IntWalk.i64_in _ (by omega)]

set_option maxHeartbeats 400000 in
theorem within_any (v n : Int) (w : World) (hn : 1 ≤ n) (hn2 : n ≤ 9223372036854775807) :
    Calls Tryz.prog 10 #[.int .i64 v, .int .i64 n] w fun e w' => e = .returned (.int .i64 (v % n)) ∧ w = w' := by
  have h := tmod_lo v n hn
  obtain ⟨h1, h2⟩ := h
  by_cases hv : v.tmod n < 0
  · have e1 := tmod_neg v n hn hv
    go_enter Tryz.func10, Tryz.ntmps10
    go_wp2
    go_ret
    exact ⟨rfl, rfl⟩
  · have e1 := tmod_pos v n hn (by omega)
    go_enter Tryz.func10, Tryz.ntmps10
    go_wp2
    go_ret
    exact ⟨rfl, rfl⟩

/-! ### Worlds behind calls -/
theorem cell_below {w w' : World} {a : Addr} {v : Value} (hb : Below w.heap.size w w') (h : w.cell? a = some v) : w'.cell? a = some v := (hb.cell (World.block_lt_of_cell? w a h)).trans h
theorem kept_call {wr W w' : World} (hb : Below W.heap.size W w') (h : Below wr.heap.size wr W) : Below wr.heap.size wr w' := h.trans (hb.mono h.size)
theorem below_q {w w' : World} (h : ∃ n, w' = w.drewN n) : Below w.heap.size w w' := by
  obtain ⟨n, rfl⟩ := h
  exact ⟨rfl, rfl, rfl, Nat.le_refl _, fun _ _ => rfl⟩
theorem below_drewN {B : Nat} {w w' : World} (h : Below B w w') (n : Nat) : Below B w (w'.drewN n) := h.trans ⟨rfl, rfl, rfl, Nat.le_refl _, fun _ _ => rfl⟩
/-- All that was there reads as it did. -/
theorem bcell {W w1 : World} (hb : Below W.heap.size W w1) : (∀ b o, b < W.heap.size → w1.cell? ⟨b, o, none⟩ = W.cell? ⟨b, o, none⟩) ∧ (∀ b o, b < W.heap.size → w1.frozen? ⟨b, o, none⟩ = W.frozen? ⟨b, o, none⟩) :=
  ⟨fun b o h => hb.cell (p := ⟨b, o, none⟩) h, fun b o h => hb.frozen (p := ⟨b, o, none⟩) h⟩
end Go.Proofs.YtlnboheahbfgfaaGreat
