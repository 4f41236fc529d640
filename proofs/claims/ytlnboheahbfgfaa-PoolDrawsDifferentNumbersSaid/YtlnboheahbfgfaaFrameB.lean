/- How structs and slices of numbers come in. -/
import Derived.Test.YtlnboheahbfgfaaFrame
namespace Go.Proofs.Ytlnboheahbfgfaa
open Go.ChangeShapes Go.WideShapes Go.ChangeAt Go.RowKit Go.Deep

section
variable {H : Type} {enc : TypeId × Value → H} {W : World} {base : Nat}
set_option maxRecDepth 100000 in
theorem trods_cons {t : TypeId} {ts : List TypeId} {v : Value} {vs : List Value} {ds : List (DataW H)} {ps : List MemPlace} (h : DataW.TrodAll enc Try.prog W 0 (fun _ => true) true (t :: ts) (v :: vs) ds ps) :
    ∃ (d : DataW H) (p : List MemPlace) (_ : DataW.Trod enc Try.prog W 0 (fun _ => true) true t v d p) (ds' : List (DataW H)) (ps' : List MemPlace), DataW.TrodAll enc Try.prog W 0 (fun _ => true) true ts vs ds' ps' := by
  cases ds with
  | nil => simp [DataW.TrodAll] at h
  | cons d ds => obtain ⟨p, q, h1, h2, _⟩ := h; exact ⟨d, p, h1, ds, q, h2⟩
set_option maxRecDepth 100000 in
theorem cell_int {v : Value} (h : Cell.okWide Try.prog W .any base 3 v) : ∃ a, v = .int .i64 a ∧ IntIn a := by
  simp only [Try.underlying3, Cell.okWide, Cell.ok] at h
  cases v <;> simp_all [IntIn, IntKind.has, IntKind.min, IntKind.max, IntKind.bits, IntKind.signed]
set_option maxRecDepth 100000 in
theorem cell_bool {v : Value} (h : Cell.okWide Try.prog W .any base 4 v) : ∃ b, v = .bool b := by
  simp only [Try.underlying4, Cell.okWide, Cell.ok] at h
  cases v <;> simp_all




set_option maxRecDepth 100000 in
/-- A slice of numbers that came in. -/
theorem come_ints {v : Value} {d : DataW H} {p : List MemPlace} (hv : Value.okWide Try.prog W .any base 24 v) (h : DataW.Trod enc Try.prog W 0 (fun _ => true) true 24 v d p) :
    ∃ A len cap zs, v = .slice A len cap ∧ IntsAt W A len zs := by
  obtain ⟨A, len, cap, rfl⟩ := okWide_slice Try.underlying24 hv
  obtain ⟨fuel, hf⟩ := h
  rcases open_ints Try.underlying24 Try.underlying3 (by kernel_rfl) hf with ⟨hcs, _⟩ | ⟨x, l, c, zs, hcs, _, hl, hm, hz, _, hcell, hwz⟩
  · simp [Value.cells] at hcs
    obtain ⟨rfl, rfl, rfl⟩ := hcs
    exact ⟨_, _, _, [], rfl, rfl, by omega, by simp, by omega⟩
  · simp [Value.cells] at hcs
    obtain ⟨rfl, rfl, rfl⟩ := hcs
    unfold maxLen at hm
    have hz' : zs.length = cap := by simpa using hz
    refine ⟨_, _, _, zs.take len, rfl, by rw [List.length_take]; omega, by omega, ?_, ?_⟩
    · intro z hz2
      have := hwz z (List.mem_of_mem_take hz2)
      exact bounds_i64 this
    · intro h0
      obtain ⟨b, off, spot⟩ := x
      have hc := hcell 0 (by omega)
      have hspot : spot = none := by simpa [Addr.add] using World.cell?_spot hc
      subst hspot
      refine ⟨b, off, rfl, World.block_lt_of_cell? W _ (by simpa [Addr.add] using hc), fun j hj => ?_⟩
      have hcj := hcell j (by omega)
      have ea : (⟨b, off, none⟩ : Addr).add j = ⟨b, off + j, none⟩ := by unfold Addr.add; split <;> simp_all
      rw [ea] at hcj
      rw [hcj]
      simp [List.getD, List.getElem?_take, hj]
end
end Go.Proofs.Ytlnboheahbfgfaa
