/- The constants of SHA-256, in both worlds. -/
import Derived.Test.YtlnboheahbfgfaaShaD
namespace Go.Proofs.Ytlnboheahbfgfaa
open Go.RowKit
set_option linter.unusedSimpArgs false
set_option linter.unusedVariables false

/-- The constants; the words before any block. -/
def kS : List Int := [1116352408, 1899447441, 3049323471, 3921009573, 961987163, 1508970993, 2453635748, 2870763221, 3624381080, 310598401, 607225278, 1426881987, 1925078388, 2162078206, 2614888103, 3248222580, 3835390401, 4022224774, 264347078, 604807628, 770255983, 1249150122, 1555081692, 1996064986, 2554220882, 2821834349, 2952996808, 3210313671, 3336571891, 3584528711, 113926993, 338241895, 666307205, 773529912, 1294757372, 1396182291, 1695183700, 1986661051, 2177026350, 2456956037, 2730485921, 2820302411, 3259730800, 3345764771, 3516065817, 3600352804, 4094571909, 275423344, 430227734, 506948616, 659060556, 883997877, 958139571, 1322822218, 1537002063, 1747873779, 1955562222, 2024104815, 2227730452, 2361852424, 2428436474, 2756734187, 3204031479, 3329325298]
def firstS : St8 := ⟨1779033703, 3144134277, 1013904242, 2773480762, 1359893119, 2600822924, 528734635, 1541459225⟩
theorem kS_len : kS.length = 64 := by decide +kernel
theorem kS_ok : InW kS := by unfold InW; decide +kernel
theorem firstS_ok : firstS.ok := by unfold St8.ok InW; decide +kernel
def kcells : Array Value := (kS.map (Value.int .u32 ·)).toArray
theorem kcells_get (j : Nat) (hj : j < kS.length) : kcells[j]? = some (.int .u32 (kS.getD j 0)) := by
  simp [kcells, List.getD_eq_getElem?_getD, List.getElem?_eq_getElem hj]
theorem WdAt.k {T : TypeId} {w : World} {g : Nat} (h : Blk w g T kcells) : WdAt T w g kS := ⟨_, h, kcells_get⟩
set_option maxRecDepth 100000 in
set_option maxHeartbeats 4000000 in
theorem rconst_any (w : World) : Calls Try.prog 27 #[] w (fun e w' => ∃ g, e = .returned (.slice (some ⟨g, 0, none⟩) 64 64) ∧ w.heap.size ≤ g ∧ WdAt 42 w' g kS ∧ Below w.heap.size w w') := by
  go_enter Try.func27, Try.ntmps27
  go_wp2
  go_ret
  exact ⟨w.heap.size, rfl, Nat.le_refl _, WdAt.k (Blk.new _ _ _), (by (repeat' (first | (with_reducible exact Below.refl _ _) | (with_reducible refine Below.setCell ?_ ?_ _) | (with_reducible refine Below.alloc ?_ ?_ _) | (with_reducible refine Below.drew ?_) | (with_reducible refine below_drewN ?_ _))) <;> (first | omega | (simp <;> omega)))⟩
set_option maxRecDepth 100000 in
set_option maxHeartbeats 4000000 in
theorem hconst_any (w : World) : Calls Try.prog 30 #[] w (fun e w' => ∃ g, e = .returned (.pointer (some ⟨g, 0, none⟩)) ∧ w.heap.size ≤ g ∧ WdAt 58 w' g kS ∧ Below w.heap.size w w') := by
  go_enter Try.func30, Try.ntmps30
  go_wp2
  go_ret
  exact ⟨w.heap.size, rfl, Nat.le_refl _, WdAt.k (Blk.new _ _ _), (by (repeat' (first | (with_reducible exact Below.refl _ _) | (with_reducible refine Below.setCell ?_ ?_ _) | (with_reducible refine Below.alloc ?_ ?_ _) | (with_reducible refine Below.drew ?_) | (with_reducible refine below_drewN ?_ _))) <;> (first | omega | (simp <;> omega)))⟩
set_option maxRecDepth 100000 in
set_option maxHeartbeats 4000000 in
theorem rfirst_any (w : World) : Calls Try.prog 26 #[] w (fun e w' => ∃ g, e = .returned (.slice (some ⟨g, 0, none⟩) 8 8) ∧ w.heap.size ≤ g ∧ Blk w' g 42 firstS.cells ∧ Below w.heap.size w w') := by
  go_enter Try.func26, Try.ntmps26
  go_wp2
  go_ret
  exact ⟨w.heap.size, rfl, Nat.le_refl _, Blk.new _ _ _, (by (repeat' (first | (with_reducible exact Below.refl _ _) | (with_reducible refine Below.setCell ?_ ?_ _) | (with_reducible refine Below.alloc ?_ ?_ _) | (with_reducible refine Below.drew ?_) | (with_reducible refine below_drewN ?_ _))) <;> (first | omega | (simp <;> omega)))⟩
set_option maxRecDepth 100000 in
set_option maxHeartbeats 4000000 in
theorem hfirst_any (w : World) : Calls Try.prog 22 #[] w (fun e w' => e = .returned (.agg firstS.cells) ∧ Below w.heap.size w w') := by
  go_enter Try.func22, Try.ntmps22
  go_wp2
  exact bodyPost_ret (v := .agg firstS.cells) (by simp [results, Try.results22, go_sem, firstS, St8.cells]) rfl ⟨rfl, (by (repeat' (first | (with_reducible exact Below.refl _ _) | (with_reducible refine Below.setCell ?_ ?_ _) | (with_reducible refine Below.alloc ?_ ?_ _) | (with_reducible refine Below.drew ?_) | (with_reducible refine below_drewN ?_ _))) <;> (first | omega | (simp <;> omega)))⟩
end Go.Proofs.Ytlnboheahbfgfaa
