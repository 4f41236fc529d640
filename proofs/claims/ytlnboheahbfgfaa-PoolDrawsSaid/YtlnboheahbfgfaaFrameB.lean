/- How structs and slices of numbers come in. -/
import Derived.Test.YtlnboheahbfgfaaFrame
namespace Go.Proofs.Ytlnboheahbfgfaa
open Go.ChangeShapes Go.WideShapes Go.ChangeAt Go.RowKit Go.Deep

section
variable {H : Type} {enc : TypeId × Value → H} {W : World} {base : Nat}
set_option maxRecDepth 100000 in
theorem trods_cons {t : TypeId} {ts : List TypeId} {v : Value} {vs : List Value} {ds : List (DataW H)} {ps : List MemPlace} (h : DataW.TrodAll enc Try.prog W 0 (fun _ => true) true (t :: ts) (v :: vs) ds ps) :
    ∃ (d : DataW H) (p : List MemPlace) (_ : DataW.Trod enc Try.prog W 0 (fun _ => true) true t v d p) (ds' : List (DataW H)) (ps' : List MemPlace), DataW.TrodAll enc Try.prog W 0 (fun _ => true) true ts vs ds' ps' := by
  cases ds with
  | nil => simp [DataW.TrodAll] at h
  | cons d ds => obtain ⟨p, q, h1, h2, _⟩ := h; exact ⟨d, p, h1, ds, q, h2⟩
end
end Go.Proofs.Ytlnboheahbfgfaa
