/- How slices of pairs of numbers, and tables of leap seconds, come in. -/
import Derived.Deep.SlicePairs
import Derived.Lib.SmallJoins
import Derived.Test.YtlfkkfdolnkjfaaJ0
namespace Go.Proofs.Ytlfkkfdolnkjfaa
open Go.ChangeShapes Go.WideShapes Go.ChangeAt Go.RowKit Go.Deep Go.Joins

section
variable {H : Type} {enc : TypeId × Value → H} {W : World} {base : Nat}
/-- The number that a value is. -/
def numV : Value → Int
  | .int _ n => n
  | _ => 0
theorem come_pairs {te e : TypeId} {f0 f1 : Field} {fuel : Nat} {cs : List Value} {x : DataW H × List MemPlace} (ht : Try.prog.underlying te = some (.slice e)) (he : Try.prog.underlying e = some (.struct #[f0, f1]))
    (ce : Try.prog.cellsOf e = 2) (o0 : f0.offset = 0) (o1 : f1.offset = 1) (c0 : Try.prog.cellsOf f0.type = 1) (c1 : Try.prog.cellsOf f1.type = 1) (t0 : Try.prog.underlying f0.type = some (.int .i64)) (t1 : Try.prog.underlying f1.type = some (.int .i64))
    (h : DataW.trod enc Try.prog W 0 (fun _ => true) true fuel te cs = some x) :
    ∃ (A : Option Addr) (len cap : Nat) (zs : List (Int × Int)), cs = [.slice A len cap] ∧ (A = none → cap = 0) ∧ (zs.length = len ∧ len ≤ 9223372036854775807 ∧ (0 < len → ∃ b off, A = some ⟨b, off, none⟩ ∧ b < W.heap.size ∧ ∀ j, j < len → W.cell? ⟨b, off + j * 2, none⟩ = some (.int .i64 (zs.getD j (0, 0)).1) ∧ W.cell? ⟨b, off + j * 2 + 1, none⟩ = some (.int .i64 (zs.getD j (0, 0)).2))) ∧
      ∀ z ∈ zs, IntIn z.1 ∧ IntIn z.2 := by
  rcases open_slice_pairs ht he ce o0 o1 c0 c1 h with ⟨rfl, -⟩ | ⟨a, len, cap, m, n, V0, V1, D0, D1, P0, P1, rfl, -, hl, hm, hmm, -, hx⟩
  · exact ⟨none, 0, 0, [], rfl, fun _ => rfl, ⟨rfl, by omega, by omega⟩, by simp⟩
  · unfold maxLen at hm
    have hmc : m = cap := by rw [hmm]; rfl
    have ea : ∀ i, i < len → ∃ y0 y1 : Int, V0 i = .int .i64 y0 ∧ V1 i = .int .i64 y1 ∧ IntIn y0 ∧ IntIn y1 := fun i hi => by
      obtain ⟨-, -, h0, h1⟩ := hx i (by omega)
      obtain ⟨y0, e0, _, w0⟩ := DataW.trod_int t0 h0
      obtain ⟨y1, e1, _, w1⟩ := DataW.trod_int t1 h1
      exact ⟨y0, y1, by simpa using e0, by simpa using e1, bounds_i64 w0, bounds_i64 w1⟩
    have eg : ∀ i, i < len → (((List.range len).map fun i => (numV (V0 i), numV (V1 i))).getD i (0, 0)) = (numV (V0 i), numV (V1 i)) := fun i hi => by
      rw [List.getD_eq_getElem?_getD, List.getElem?_map, List.getElem?_range hi]; rfl
    refine ⟨some a, len, cap, (List.range len).map fun i => (numV (V0 i), numV (V1 i)), rfl, (fun h => by cases h), ⟨by simp, by omega, fun h0 => ?_⟩, fun z hz => ?_⟩
    · obtain ⟨b, off, spot⟩ := a
      obtain ⟨hc, -, -, -⟩ := hx 0 (by omega)
      have hspot : spot = none := by simpa [Addr.add] using World.cell?_spot hc
      subst hspot
      have e : ∀ k, (⟨b, off, none⟩ : Addr).add k = ⟨b, off + k, none⟩ := fun k => by unfold Addr.add; split <;> simp_all
      refine ⟨b, off, rfl, World.block_lt_of_cell? W _ (by simpa [Addr.add] using hc), fun j hj => ?_⟩
      obtain ⟨hc0, hc1, -, -⟩ := hx j (by omega)
      obtain ⟨y0, y1, q0, q1, -, -⟩ := ea j hj
      rw [e] at hc0 hc1
      rw [eg j hj, hc0, Nat.add_assoc, hc1, q0, q1]
      exact ⟨rfl, rfl⟩
    · obtain ⟨i, hi, rfl⟩ := List.mem_map.1 hz
      obtain ⟨y0, y1, q0, q1, i0, i1⟩ := ea i (List.mem_range.1 hi)
      rw [q0, q1]; exact ⟨i0, i1⟩
set_option maxRecDepth 100000 in
/-- A slice of spans that came in. -/
theorem come_spans {v : Value} {d : DataW H} {p : List MemPlace} (hv : Value.okWide Try.prog W .any base 43 v) (h : DataW.Trod enc Try.prog W 0 (fun _ => true) true 43 v d p) :
    ∃ (A : Option Addr) (len cap : Nat) (zs : List (Int × Int)), v = .slice A len cap ∧ (A = none → cap = 0) ∧ (zs.length = len ∧ len ≤ 9223372036854775807 ∧ (0 < len → ∃ b off, A = some ⟨b, off, none⟩ ∧ b < W.heap.size ∧ ∀ j, j < len → W.cell? ⟨b, off + j * 2, none⟩ = some (.int .i64 (zs.getD j (0, 0)).1) ∧ W.cell? ⟨b, off + j * 2 + 1, none⟩ = some (.int .i64 (zs.getD j (0, 0)).2))) ∧
      ∀ z ∈ zs, IntIn z.1 ∧ IntIn z.2 := by
  obtain ⟨A, len, cap, rfl⟩ := okWide_slice Try.underlying43 hv
  obtain ⟨fuel, hf⟩ := h
  obtain ⟨A', len', cap', zs, e1, hnc, hp, hz⟩ := come_pairs Try.underlying43 Try.underlying35 (by kernel_rfl) rfl rfl (by kernel_rfl) (by kernel_rfl) Try.underlying3 Try.underlying3 hf
  simp [Value.cells] at e1
  obtain ⟨rfl, rfl, rfl⟩ := e1
  exact ⟨A, len, cap, zs, rfl, hnc, hp, hz⟩
end
end Go.Proofs.Ytlfkkfdolnkjfaa
