/- PROVED: the tied card of WorkbenchRuns: for every input the call returns true, and each argument reads afterwards as it did, where the listed variables hold what the program's text lays. No other condition. -/
import Derived.Test.YtiinmhfolfgobaaGreatDoorJ3
import Derived.Test.YtiinmhfolfgobaaGreatDoorJ1
import Derived.Test.YtiinmhfolfgobaaGreatDoorJ50
set_option linter.unusedVariables false
set_option linter.unusedSimpArgs false
namespace Go.Proofs.YtiinmhfolfgobaaGreatDoor.workbenchRuns
open Go.ChangeShapes Go.WideShapes Go.ChangeAt Go.RowKit
set_option maxRecDepth 100000
theorem lifted (os : Os) (started : os.Started) (H : Type) (enc : TypeId × Value → H) :
  ReturnsInHanded {} Tryz.checked os 3 .any (fun w args => (Rows.workbenchRunsSpec.pre enc Tryz.prog Tryz.f3 [] false w args ∧ laidMet Tryz.prog laidW w) ∧ sizedMet enc Tryz.prog Tryz.f3 (OpenSpec.ofChange Rows.workbenchRunsSpec) false w args) (Rows.workbenchRunsSpec.post enc Tryz.prog Tryz.f3 false true false false) := by
 refine lift_laidW os started H enc _ _ _ Tryz.func3 Yr rfl (of_decide_eq_true Yr) rfl ?_
  (ChangeSpec.witness_at (enc := enc) (C := Tryz.checked) (os := os) (X := fun w _ => laidMet Tryz.prog laidW w) false (laidWorldW os) #[.slice none 0 0] 8 rfl Yr Yr Yr Yr Yr (laid_metW os _)) ?_
 ·intro ds hd
  match ds, hd with
  | [_], _ => rfl
 ·intro W base args ds p hP hM hval hA
  rw [Tryz.params3] at hA hval
  have hsz := (trodAll_size hA).1
  obtain ⟨args⟩ := args
  match args, hsz with
  | [v0], _ =>
   have T := hA
   obtain ⟨_, _, t0, _, _, T⟩ := trods_cons T
   obtain ⟨A0, len0, cap0, zs0, rfl, w0⟩ := come_ints (hval 0 _ _ rfl rfl) t0
   exact runs_core A0 len0 cap0 zs0 W w0 hP hM
theorem over : Rows.WorkbenchRunsSaid :=
 OpenClaim.holds_of_wide 3 Tryz.f3 rfl rfl rfl rfl rfl rfl rfl ⟨rfl, rfl, rfl, rfl, rfl⟩ rfl rfl rfl rfl rfl Yr Tryz.func3 Yr
  (of_decide_eq_true Yr) (by unfold Func.isWrapper; first | (rw [if_pos (by decide +kernel)]; kernel_rfl) | (rw [if_neg (by decide +kernel)]; exact ⟨rfl, rfl⟩))
  (fun os started H enc _ => lifted os started H enc)
theorem proved : Rows.WorkbenchRunsCardSaid :=
 Claim7.holds_tied_plain_at .later [] [.data, .data, .data, .data, .sentinel, .sentinel, .pinned] true _ true over (fun _ h => by cases h) Yr (fun _ h => by cases h) workbenchRuns_row_tie rfl ⟨rfl, rfl⟩ Yr rfl
  (fun f fn hf hfn => by
   obtain rfl : f = 3 := (Option.some.inj ((show Tryz.prog.funcNamed Tryz.f3.name = some 3 by kernel_rfl).symm.trans hf)).symm
   obtain rfl : fn = Tryz.f3 := (Option.some.inj (Tryz.func3.symm.trans hfn)).symm
   have hall : ∀ t ∈ Tryz.f3.params.toList, Tryz.prog.wantsStandIn t = false := of_decide_eq_true Yr
   exact ⟨by kernel_rfl, fun j t ht => hall t (by have := Array.mem_of_getElem? ht; simpa using this)⟩)
  Yr
end Go.Proofs.YtiinmhfolfgobaaGreatDoor.workbenchRuns
