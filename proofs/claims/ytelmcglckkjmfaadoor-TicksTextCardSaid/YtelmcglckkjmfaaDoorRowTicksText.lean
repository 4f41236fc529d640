/- PROVED: the tied card of TicksText: for every input the call returns true, and each argument reads afterwards as it did, where the listed tables hold what the program's text lays. No other condition. -/
import Derived.Test.YtelmcglckkjmfaaDoorFrameS
import Derived.Test.YtelmcglckkjmfaaDoorLawTText
namespace Go.Proofs.YtelmcglckkjmfaaDoor.ticksText
open Go.ChangeShapes Go.WideShapes Go.ChangeAt Go.RowKit

set_option maxRecDepth 100000 in
theorem lifted (os : Os) (started : os.Started) (H : Type) (enc : TypeId × Value → H) :
    ReturnsInHanded {} Tryd.checked os 8 .any (fun w args => (Rows.ticksTextSpec.pre enc Tryd.prog Tryd.f8 [] false w args ∧ laidMet Tryd.prog laidL w) ∧ sizedMet enc Tryd.prog Tryd.f8 (OpenSpec.ofChange Rows.ticksTextSpec) false w args) (Rows.ticksTextSpec.post enc Tryd.prog Tryd.f8 false true false false) := by
  refine lift_laidS os started H enc _ _ _ Tryd.func8 (by kernel_rfl) rfl (of_decide_eq_true (by kernel_rfl)) rfl ?_
    (ChangeSpec.witness_at (enc := enc) (C := Tryd.checked) (os := os) (X := fun w _ => laidMet Tryd.prog laidL w) false (laidWorld os) #[.int .i64 0, .string ⟨#[]⟩] 8 rfl (by kernel_rfl) (by kernel_rfl) (by kernel_rfl) (by kernel_rfl) (by kernel_rfl) (laid_met os _)) ?_
  · intro ds hd
    match ds, hd with
    | [_, _], _ => rfl
  · intro W base args ds p hP hM hval hA
    rw [Tryd.params8] at hA hval
    have hsz := (trodAll_size hA).1
    obtain ⟨args⟩ := args
    match args, hsz with
    | [v0, v1], _ =>
      obtain ⟨a0, rfl, w0⟩ := come_int (hval 0 _ _ rfl rfl)
      obtain ⟨a1, rfl⟩ := come_string (hval 1 _ _ rfl rfl)
      exact ticksText_walk a0 w0 a1 W hP hM

theorem over : Rows.TicksTextSaid :=
  OpenClaim.holds_of_wide 8 Tryd.f8 rfl rfl rfl rfl rfl rfl rfl ⟨rfl, rfl, rfl, rfl, rfl⟩ rfl rfl rfl rfl rfl (by kernel_rfl) Tryd.func8 (by kernel_rfl)
    (of_decide_eq_true (by kernel_rfl)) (by unfold Func.isWrapper; first | (rw [if_pos (by decide +kernel)]; kernel_rfl) | (rw [if_neg (by decide +kernel)]; exact ⟨rfl, rfl⟩))
    (fun os started H enc _ => lifted os started H enc)
theorem proved : Rows.TicksTextCardSaid :=
  Claim7.holds_tied_plain_at .later [] [.data, .data, .data] true _ false over (fun _ h => by cases h) (by kernel_rfl) (fun _ h => by cases h) ticksText_row_tie rfl ⟨rfl, rfl⟩ (by kernel_rfl) rfl
    (fun f fn hf hfn => by
      obtain rfl : f = 8 := (Option.some.inj ((show Tryd.prog.funcNamed Tryd.f8.name = some 8 by kernel_rfl).symm.trans hf)).symm
      obtain rfl : fn = Tryd.f8 := (Option.some.inj (Tryd.func8.symm.trans hfn)).symm
      have hall : ∀ t ∈ Tryd.f8.params.toList, Tryd.prog.wantsStandIn t = false := of_decide_eq_true (by kernel_rfl)
      exact ⟨by kernel_rfl, fun j t ht => hall t (by have := Array.mem_of_getElem? ht; simpa using this)⟩)
    (by kernel_rfl)
end Go.Proofs.YtelmcglckkjmfaaDoor.ticksText
