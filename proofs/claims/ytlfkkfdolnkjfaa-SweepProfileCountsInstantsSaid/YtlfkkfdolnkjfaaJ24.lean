/- Texts joined: RSwD, RSwE, RSwF, RSwG -/
import Derived.Test.YtlfkkfdolnkjfaaAppX
import Derived.Test.YtlfkkfdolnkjfaaCalmP
import Derived.Test.YtlfkkfdolnkjfaaJ13
import Derived.Test.YtlfkkfdolnkjfaaJ22
import Derived.Test.YtlfkkfdolnkjfaaJ11
namespace Go.Proofs.Ytlfkkfdolnkjfaa
open Go.RowKit Go.Shelf Go.Sort
set_option linter.unusedSimpArgs false
set_option linter.unusedVariables false

/-- Numbers in memory; none is nil. -/
def NumI (w : World) (A : Option Addr) (len cap : Nat) (xs : List Int) : Prop :=
  xs.length = len ∧ len ≤ cap ∧ len ≤ 1000 ∧ (len = 0 → A = none ∧ cap = 0) ∧ (0 < len → ∃ b off, A = some ⟨b, off, none⟩ ∧ b < w.heap.size ∧ ∀ j, j < len → w.cell? ⟨b, off + j, none⟩ = some (.int .i64 (xs.getD j 0)))
theorem NumI.below {w w' : World} {A : Option Addr} {len cap : Nat} {xs : List Int} (h : NumI w A len cap xs) (hb : Below w.heap.size w w') : NumI w' A len cap xs := by
  obtain ⟨h1, h2, h3, h4, h5⟩ := h
  refine ⟨h1, h2, h3, h4, fun hl => ?_⟩
  obtain ⟨b, off, e, hlt, hc⟩ := h5 hl
  exact ⟨b, off, e, Nat.lt_of_lt_of_le hlt hb.size, fun j hj => cell_below hb (hc j hj)⟩
end Go.Proofs.Ytlfkkfdolnkjfaa
namespace Go.Proofs.Ytlfkkfdolnkjfaa
open Go.RowKit Go.Shelf Go.Sort
set_option linter.unusedSimpArgs false
set_option linter.unusedVariables false

end Go.Proofs.Ytlfkkfdolnkjfaa
namespace Go.Proofs.Ytlfkkfdolnkjfaa
open Go.RowKit Go.Shelf Go.Sort
set_option linter.unusedSimpArgs false
set_option linter.unusedVariables false

theorem grown_belowP {w w' : World} (X : Option Nat) (h : Below w.heap.size w w') : w.grownBy w' X := ⟨h.os, h.tape, h.output, h.size, fun k hk _ => h.block k hk⟩
theorem RowP.below {w w' : World} {base : Nat} {v : Value} {ps : List Pc} (h : RowP w base v ps) (hb : Below w.heap.size w w') : RowP w' base v ps := RowP.kept h (grown_belowP none hb) (fun k _ e => by cases e)
end Go.Proofs.Ytlfkkfdolnkjfaa
namespace Go.Proofs.Ytlfkkfdolnkjfaa
open Go.RowKit Go.Shelf Go.Sort
set_option linter.unusedSimpArgs false
set_option linter.unusedVariables false

end Go.Proofs.Ytlfkkfdolnkjfaa
