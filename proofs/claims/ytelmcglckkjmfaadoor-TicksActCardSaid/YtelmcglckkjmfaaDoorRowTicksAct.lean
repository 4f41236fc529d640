/- PROVED: the tied card of TicksAct: for every input the call returns true, and each argument reads afterwards as it did, where the listed tables hold what the program's text lays. No other condition. -/
import Derived.Test.YtelmcglckkjmfaaDoorFrameS
import Derived.Test.YtelmcglckkjmfaaDoorLawTAct
namespace Go.Proofs.YtelmcglckkjmfaaDoor.ticksAct
open Go.ChangeShapes Go.WideShapes Go.ChangeAt Go.RowKit

set_option maxRecDepth 100000 in
theorem lifted (os : Os) (started : os.Started) (H : Type) (enc : TypeId × Value → H) :
    ReturnsInHanded {} Tryd.checked os 9 .any (fun w args => (Rows.ticksActSpec.pre enc Tryd.prog Tryd.f9 [] false w args ∧ laidMet Tryd.prog laidL w) ∧ sizedMet enc Tryd.prog Tryd.f9 (OpenSpec.ofChange Rows.ticksActSpec) false w args) (Rows.ticksActSpec.post enc Tryd.prog Tryd.f9 false true false false) := by
  refine lift_laidS os started H enc _ _ _ Tryd.func9 (by kernel_rfl) rfl (of_decide_eq_true (by kernel_rfl)) rfl ?_
    (ChangeSpec.witness_at (enc := enc) (C := Tryd.checked) (os := os) (X := fun w _ => laidMet Tryd.prog laidL w) false (laidWorld os) #[.int .i64 0, .int .i64 0, .bool false, .int .u64 0, .int .u32 0, .string ⟨#[]⟩] 8 rfl (by kernel_rfl) (by kernel_rfl) (by kernel_rfl) (by kernel_rfl) (by kernel_rfl) (laid_met os _)) ?_
  · intro ds hd
    match ds, hd with
    | [_, _, _, _, _, _], _ => rfl
  · intro W base args ds p hP hM hval hA
    rw [Tryd.params9] at hA hval
    have hsz := (trodAll_size hA).1
    obtain ⟨args⟩ := args
    match args, hsz with
    | [v0, v1, v2, v3, v4, v5], _ =>
      obtain ⟨a0, rfl, w0⟩ := come_int (hval 0 _ _ rfl rfl)
      obtain ⟨a1, rfl, w1⟩ := come_int (hval 1 _ _ rfl rfl)
      obtain ⟨a2, rfl⟩ := come_bool (hval 2 _ _ rfl rfl)
      obtain ⟨a3, rfl, w3, x3⟩ := come_u64 (hval 3 _ _ rfl rfl)
      obtain ⟨a4, rfl, w4, x4⟩ := come_u32 (hval 4 _ _ rfl rfl)
      obtain ⟨a5, rfl⟩ := come_string (hval 5 _ _ rfl rfl)
      exact ticksAct_walk a0 w0 a1 w1 a2 a3 w3 x3 a4 w4 x4 a5 W hP hM

theorem over : Rows.TicksActSaid :=
  OpenClaim.holds_of_wide 9 Tryd.f9 rfl rfl rfl rfl rfl rfl rfl ⟨rfl, rfl, rfl, rfl, rfl⟩ rfl rfl rfl rfl rfl (by kernel_rfl) Tryd.func9 (by kernel_rfl)
    (of_decide_eq_true (by kernel_rfl)) (by unfold Func.isWrapper; first | (rw [if_pos (by decide +kernel)]; kernel_rfl) | (rw [if_neg (by decide +kernel)]; exact ⟨rfl, rfl⟩))
    (fun os started H enc _ => lifted os started H enc)
theorem proved : Rows.TicksActCardSaid :=
  Claim7.holds_tied_plain_at .later [] [.data, .data, .data] true _ false over (fun _ h => by cases h) (by kernel_rfl) (fun _ h => by cases h) ticksAct_row_tie rfl ⟨rfl, rfl⟩ (by kernel_rfl) rfl
    (fun f fn hf hfn => by
      obtain rfl : f = 9 := (Option.some.inj ((show Tryd.prog.funcNamed Tryd.f9.name = some 9 by kernel_rfl).symm.trans hf)).symm
      obtain rfl : fn = Tryd.f9 := (Option.some.inj (Tryd.func9.symm.trans hfn)).symm
      have hall : ∀ t ∈ Tryd.f9.params.toList, Tryd.prog.wantsStandIn t = false := of_decide_eq_true (by kernel_rfl)
      exact ⟨by kernel_rfl, fun j t ht => hall t (by have := Array.mem_of_getElem? ht; simpa using this)⟩)
    (by kernel_rfl)
end Go.Proofs.YtelmcglckkjmfaaDoor.ticksAct
