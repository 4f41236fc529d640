/- How a slice of bytes comes in. -/
import Derived.Test.YtlnboheahbfgfaaFrameB
import Derived.Test.YtlnboheahbfgfaaDraw2
namespace Go.Proofs.Ytlnboheahbfgfaa
open Go.ChangeShapes Go.WideShapes Go.ChangeAt Go.RowKit
section
variable {H : Type} {enc : TypeId × Value → H} {W : World} {base : Nat}
set_option maxRecDepth 100000 in
/-- A slice of bytes that came in. -/
theorem come_bytes {v : Value} {d : DataW H} {p : List MemPlace} (hv : Value.okWide Try.prog W .any base 22 v) (h : DataW.Trod enc Try.prog W 0 (fun _ => true) true 22 v d p) :
    ∃ A len cap bs, v = .slice A len cap ∧ BysAt W A len bs := by
  obtain ⟨A, len, cap, rfl⟩ := okWide_slice Try.underlying22 hv
  obtain ⟨fuel, hf⟩ := h
  rcases open_ints Try.underlying22 Try.underlying5 (by kernel_rfl) hf with ⟨hcs, _⟩ | ⟨x, l, c, zs, hcs, _, hl, hm, hz, _, hcell, hwz⟩
  · simp [Value.cells] at hcs
    obtain ⟨rfl, rfl, rfl⟩ := hcs
    exact ⟨_, _, _, [], rfl, rfl, (fun x hx => by simp at hx), by omega⟩
  · simp [Value.cells] at hcs
    obtain ⟨rfl, rfl, rfl⟩ := hcs
    unfold maxLen at hm
    have hz' : zs.length = cap := by simpa using hz
    refine ⟨_, _, _, zs.take len, rfl, by rw [List.length_take]; omega, ?_, ?_⟩
    · intro z hz2
      have := hwz z (List.mem_of_mem_take hz2)
      simp [Lit.wf, IntKind.has, IntKind.min, IntKind.max, IntKind.bits, IntKind.signed] at this
      omega
    · intro h0
      obtain ⟨b, off, spot⟩ := x
      have hc := hcell 0 (by omega)
      have hspot : spot = none := by simpa [Addr.add] using World.cell?_spot hc
      subst hspot
      refine ⟨b, off, rfl, World.block_lt_of_cell? W _ (by simpa [Addr.add] using hc), fun j hj => ?_⟩
      rw [List.length_take] at hj
      have hcj := hcell j (by omega)
      have ea : (⟨b, off, none⟩ : Addr).add j = ⟨b, off + j, none⟩ := by unfold Addr.add; split <;> simp_all
      rw [ea] at hcj
      rw [hcj]
      have hjl : j < len := by omega
      simp [List.getD, List.getElem?_take, hjl]
end
end Go.Proofs.Ytlnboheahbfgfaa
