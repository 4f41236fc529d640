/- PROVED: the tied card of WorkbenchRepeats: for every input the call returns true, and each argument reads afterwards as it did, where the listed variables hold what the program's text lays. No other condition. -/
import Derived.Test.YtiinmhfolfgobaaGreatDoorJ2
import Derived.Test.YtiinmhfolfgobaaGreatDoorJ0
import Derived.Test.YtiinmhfolfgobaaGreatDoorWkZ
namespace Go.Proofs.YtiinmhfolfgobaaGreatDoor.workbenchRepeats
open Go.ChangeShapes Go.WideShapes Go.ChangeAt Go.RowKit

set_option maxRecDepth 100000 in
theorem lifted (os : Os) (started : os.Started) (H : Type) (enc : TypeId × Value → H) :
    ReturnsInHanded {} Tryz.checked os 6 .any (fun w args => (Rows.workbenchRepeatsSpec.pre enc Tryz.prog Tryz.f6 [] false w args ∧ laidMet Tryz.prog laidW w) ∧ sizedMet enc Tryz.prog Tryz.f6 (OpenSpec.ofChange Rows.workbenchRepeatsSpec) false w args) (Rows.workbenchRepeatsSpec.post enc Tryz.prog Tryz.f6 false true false false) := by
  refine lift_laidW os started H enc _ _ _ Tryz.func6 (by kernel_rfl) rfl (of_decide_eq_true (by kernel_rfl)) rfl ?_
    (ChangeSpec.witness_at (enc := enc) (C := Tryz.checked) (os := os) (X := fun w _ => laidMet Tryz.prog laidW w) false (laidWorldW os) #[.slice none 0 0] 8 rfl (by kernel_rfl) (by kernel_rfl) (by kernel_rfl) (by kernel_rfl) (by kernel_rfl) (laid_metW os _)) ?_
  · intro ds hd
    match ds, hd with
    | [_], _ => rfl
  · intro W base args ds p hP hM hval hA
    rw [Tryz.params6] at hA hval
    have hsz := (trodAll_size hA).1
    obtain ⟨args⟩ := args
    match args, hsz with
    | [v0], _ =>
      have T := hA
      obtain ⟨_, _, t0, _, _, T⟩ := trods_cons T
      obtain ⟨A0, len0, cap0, zs0, rfl, w0⟩ := come_ints (hval 0 _ _ rfl rfl) t0
      exact repeats_core A0 len0 cap0 zs0 W w0 hP hM

theorem over : Rows.WorkbenchRepeatsSaid :=
  OpenClaim.holds_of_wide 6 Tryz.f6 rfl rfl rfl rfl rfl rfl rfl ⟨rfl, rfl, rfl, rfl, rfl⟩ rfl rfl rfl rfl rfl (by kernel_rfl) Tryz.func6 (by kernel_rfl)
    (of_decide_eq_true (by kernel_rfl)) (by unfold Func.isWrapper; first | (rw [if_pos (by decide +kernel)]; kernel_rfl) | (rw [if_neg (by decide +kernel)]; exact ⟨rfl, rfl⟩))
    (fun os started H enc _ => lifted os started H enc)
theorem proved : Rows.WorkbenchRepeatsCardSaid :=
  Claim7.holds_tied_plain_at .later [] [.data, .data, .data, .data, .sentinel, .sentinel, .pinned] true _ true over (fun _ h => by cases h) (by kernel_rfl) (fun _ h => by cases h) workbenchRepeats_row_tie rfl ⟨rfl, rfl⟩ (by kernel_rfl) rfl
    (fun f fn hf hfn => by
      obtain rfl : f = 6 := (Option.some.inj ((show Tryz.prog.funcNamed Tryz.f6.name = some 6 by kernel_rfl).symm.trans hf)).symm
      obtain rfl : fn = Tryz.f6 := (Option.some.inj (Tryz.func6.symm.trans hfn)).symm
      have hall : ∀ t ∈ Tryz.f6.params.toList, Tryz.prog.wantsStandIn t = false := of_decide_eq_true (by kernel_rfl)
      exact ⟨by kernel_rfl, fun j t ht => hall t (by have := Array.mem_of_getElem? ht; simpa using this)⟩)
    (by kernel_rfl)
end Go.Proofs.YtiinmhfolfgobaaGreatDoor.workbenchRepeats
