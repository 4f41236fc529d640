/- Walks of small helpers of the tapes: Within. -/
import Derived.Deep.Draws
import Derived.Lib.Hide
import Derived.WalkKit
import Derived.WalkLawsBesides
import Derived.WalkSpells
import Derived.Test.YtlnboheahbfgfaaGreatRows
namespace Go.Proofs.YtlnboheahbfgfaaGreat
open Go.RowKit

theorem tmod_lo (v n : Int) (hn : 1 ≤ n) : -n < v.tmod n ∧ v.tmod n < n := by
  have h1 := Int.tmod_lt_of_pos v (show 0 < n by omega)
  have h2 : v.tmod n = if 0 ≤ v then v % n else -((-v) % n) := by
    split
    · exact Int.tmod_eq_emod_of_nonneg ‹_›
    · rename_i h
      have : v = -(-v) := by omega
      rw [this, Int.neg_tmod, Int.tmod_eq_emod_of_nonneg (by omega)]; simp
  have h3 := Int.emod_nonneg (-v) (show n ≠ 0 by omega)
  have h4 := Int.emod_lt_of_pos (-v) (show 0 < n by omega)
  have h5 := Int.emod_nonneg v (show n ≠ 0 by omega)
  refine ⟨?_, h1⟩
  rw [h2]; split <;> omega
theorem tmod_mod (v n : Int) : v.tmod n % n = v % n := by
  have h := Int.tmod_def v n
  rw [h, Int.sub_mul_emod_self_left]
theorem tmod_neg (v n : Int) (hn : 1 ≤ n) (h : v.tmod n < 0) : v.tmod n + n = v % n := by
  have hp : v.tmod n % n = v % n := tmod_mod v n
  have h1 := tmod_lo v n hn
  have : (v.tmod n + n) % n = v % n := by rw [Int.add_emod_right]; exact hp
  rw [← this]; exact (Int.emod_eq_of_lt (by omega) (by omega)).symm
theorem tmod_pos (v n : Int) (hn : 1 ≤ n) (h : 0 ≤ v.tmod n) : v.tmod n = v % n := by
  have hp : v.tmod n % n = v % n := tmod_mod v n
  have h1 := tmod_lo v n hn
  rw [← hp]; exact (Int.emod_eq_of_lt (by omega) (by omega)).symm
theorem two_pow_cast (k : Nat) : ((2 ^ k : Nat) : Int) = 2 ^ k := by simp
/-- make([]T, n) at cells of one: the new block under a name of its own. -/
theorem make_named {P : Program} (w : World) (t e : TypeId) (i : TypeInfo) (z : Value) (ht : P.underlying t = some (.slice e)) (hi : P.info? e = some i) (hz : i.zero = some z)
    (hs : i.size = 1) (hzc : z.cells = #[z]) (c : Int) (h0 : 0 ≤ c) (hbytes : (i.bytes : Int) * c ≤ 281474976710656) (h63 : c ≤ 9223372036854775807) :
    ∃ C : Array Value, C.size = c.toNat ∧ (∀ j, j < c.toNat → C[j]? = some z) ∧
    (Instr.makeSlice t (.int .i64 c) (.int .i64 c)).run P w = .ok (.slice (some ⟨w.heap.size, 0, none⟩) c.toNat c.toNat) (w.alloc (.cells C e)) := by
  refine ⟨madeCells z.cells (c.toNat * i.size), ?_, ?_, run_make w t e i z ht hi hz .i64 .i64 c c h0 (Int.le_refl _) hbytes h63⟩
  · rw [size_madeCells, hs]; omega
  · intro j hj; rw [hs, hzc]; simp [madeCells, hj, Nat.mod_one]

set_option maxHeartbeats 400000 in
theorem within_any (v n : Int) (w : World) (hn : 1 ≤ n) (hn2 : n ≤ 9223372036854775807) :
    Calls Tryz.prog 10 #[.int .i64 v, .int .i64 n] w fun e w' => e = .returned (.int .i64 (v % n)) ∧ w = w' := by
  have h := tmod_lo v n hn
  obtain ⟨h1, h2⟩ := h
  by_cases hv : v.tmod n < 0
  · have e1 := tmod_neg v n hn hv
    go_enter Tryz.func10, Tryz.ntmps10
    go_wp2
    go_ret
    exact ⟨rfl, rfl⟩
  · have e1 := tmod_pos v n hn (by omega)
    go_enter Tryz.func10, Tryz.ntmps10
    go_wp2
    go_ret
    exact ⟨rfl, rfl⟩

/-! ### Worlds behind calls -/
theorem cell_below {w w' : World} {a : Addr} {v : Value} (hb : Below w.heap.size w w') (h : w.cell? a = some v) : w'.cell? a = some v := (hb.cell (World.block_lt_of_cell? w a h)).trans h
theorem kept_call {wr W w' : World} (hb : Below W.heap.size W w') (h : Below wr.heap.size wr W) : Below wr.heap.size wr w' := h.trans (hb.mono h.size)
theorem below_drewN {B : Nat} {w w' : World} (h : Below B w w') (n : Nat) : Below B w (w'.drewN n) := h.trans ⟨rfl, rfl, rfl, Nat.le_refl _, fun _ _ => rfl⟩
end Go.Proofs.YtlnboheahbfgfaaGreat
