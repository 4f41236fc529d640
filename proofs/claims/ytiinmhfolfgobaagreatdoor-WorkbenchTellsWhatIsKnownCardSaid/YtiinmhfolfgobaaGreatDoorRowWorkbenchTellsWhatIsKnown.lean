/- PROVED: the tied card of WorkbenchTellsWhatIsKnown: for every input the call returns true, and each argument reads afterwards as it did, where the listed variables hold what the program's text lays. No other condition. -/
import Derived.Test.YtiinmhfolfgobaaGreatDoorJ2
import Derived.Test.YtiinmhfolfgobaaGreatDoorJ0
import Derived.Test.YtiinmhfolfgobaaGreatDoorWkW
namespace Go.Proofs.YtiinmhfolfgobaaGreatDoor.workbenchTellsWhatIsKnown
open Go.ChangeShapes Go.WideShapes Go.ChangeAt Go.RowKit

set_option maxRecDepth 100000 in
theorem come_u16 {W : World} {base : Nat} {v : Value} (h : Value.okWide Tryz.prog W .any base 34 v) : ∃ a, v = .int .u16 a ∧ 0 ≤ a ∧ a < 65536 := by
  simp only [Value.okWide, Tryz.underlying34, Cell.okWide, Cell.ok] at h
  cases v <;> simp_all [IntKind.has, IntKind.min, IntKind.max, IntKind.bits, IntKind.signed]
  omega

set_option maxRecDepth 100000 in
theorem lifted (os : Os) (started : os.Started) (H : Type) (enc : TypeId × Value → H) :
    ReturnsInHanded {} Tryz.checked os 5 .any (fun w args => (Rows.workbenchTellsWhatIsKnownSpec.pre enc Tryz.prog Tryz.f5 [] false w args ∧ laidMet Tryz.prog laidW w) ∧ sizedMet enc Tryz.prog Tryz.f5 (OpenSpec.ofChange Rows.workbenchTellsWhatIsKnownSpec) false w args) (Rows.workbenchTellsWhatIsKnownSpec.post enc Tryz.prog Tryz.f5 false true false false) := by
  refine lift_laidW os started H enc _ _ _ Tryz.func5 (by kernel_rfl) rfl (of_decide_eq_true (by kernel_rfl)) rfl ?_
    (ChangeSpec.witness_at (enc := enc) (C := Tryz.checked) (os := os) (X := fun w _ => laidMet Tryz.prog laidW w) false (laidWorldW os) #[.slice none 0 0, .int .u16 0] 8 rfl (by kernel_rfl) (by kernel_rfl) (by kernel_rfl) (by kernel_rfl) (by kernel_rfl) (laid_metW os _)) ?_
  · intro ds hd
    match ds, hd with
    | [_, _], _ => rfl
  · intro W base args ds p hP hM hval hA
    rw [Tryz.params5] at hA hval
    have hsz := (trodAll_size hA).1
    obtain ⟨args⟩ := args
    match args, hsz with
    | [v0, v1], _ =>
      have T := hA
      obtain ⟨_, _, t0, _, _, T⟩ := trods_cons T
      obtain ⟨A0, len0, cap0, zs0, rfl, w0⟩ := come_ints (hval 0 _ _ rfl rfl) t0
      obtain ⟨a1, rfl, w1, w2⟩ := come_u16 (hval 1 _ _ rfl rfl)
      exact tells_core A0 len0 cap0 zs0 a1 W w0 w1 w2 hP hM

theorem over : Rows.WorkbenchTellsWhatIsKnownSaid :=
  OpenClaim.holds_of_wide 5 Tryz.f5 rfl rfl rfl rfl rfl rfl rfl ⟨rfl, rfl, rfl, rfl, rfl⟩ rfl rfl rfl rfl rfl (by kernel_rfl) Tryz.func5 (by kernel_rfl)
    (of_decide_eq_true (by kernel_rfl)) (by unfold Func.isWrapper; first | (rw [if_pos (by decide +kernel)]; kernel_rfl) | (rw [if_neg (by decide +kernel)]; exact ⟨rfl, rfl⟩))
    (fun os started H enc _ => lifted os started H enc)
theorem proved : Rows.WorkbenchTellsWhatIsKnownCardSaid :=
  Claim7.holds_tied_plain_at .later [] [.data, .data, .data, .data, .sentinel, .sentinel, .pinned] true _ true over (fun _ h => by cases h) (by kernel_rfl) (fun _ h => by cases h) workbenchTellsWhatIsKnown_row_tie rfl ⟨rfl, rfl⟩ (by kernel_rfl) rfl
    (fun f fn hf hfn => by
      obtain rfl : f = 5 := (Option.some.inj ((show Tryz.prog.funcNamed Tryz.f5.name = some 5 by kernel_rfl).symm.trans hf)).symm
      obtain rfl : fn = Tryz.f5 := (Option.some.inj (Tryz.func5.symm.trans hfn)).symm
      have hall : ∀ t ∈ Tryz.f5.params.toList, Tryz.prog.wantsStandIn t = false := of_decide_eq_true (by kernel_rfl)
      exact ⟨by kernel_rfl, fun j t ht => hall t (by have := Array.mem_of_getElem? ht; simpa using this)⟩)
    (by kernel_rfl)
end Go.Proofs.YtiinmhfolfgobaaGreatDoor.workbenchTellsWhatIsKnown
