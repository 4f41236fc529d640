/- A drawn region, each operation shown once, where a slot is read and written by it. -/
import Derived.Test.YtlnboheahbfgfaaCalm
namespace Go.Proofs.Ytlnboheahbfgfaa
open Go
section
variable {P : Program} {ops : Array Oper}
variable {A : (Nat → Value) → Act}
/-- **A region that draws its order, each operation shown once; it is known what the slots hold ahead of it.** -/
theorem wp_region_calmS {id : Nat} {l : List Oper} {Q : Exit → Act → World → Prop} {a : Act} {w : World} (hm : P.follows .mixedOrders = true)
    (C : Nat → List Value → World → Prop) (R : World → World → Prop) (Fs : List (List Value → Value → World → Prop)) (Ds : List (List Nat)) (chain sel : List Nat)
    (hlen : Fs.length = l.length) (hB : calmB l.toArray Ds chain = true) (hA : ∀ u, calmPut l u 0 a = A u) (hC : C 0 (sel.map fun j => ((l[j - 0]?).bind (·.dst)).bind (a.tmps[·]?) |>.getD undef) w.drew) (hk : CalmKeep R Fs)
    (hs : CalmSteps P l.toArray Q C R Fs Ds chain sel A l Fs Ds 0) (hl : ∀ (u : Nat → Value) (w' : World), C chain.length (sel.map u) w' → calmFacts u w' Fs Ds 0 → Q .normal (A u) w') :
    (Code.region id l.toArray true).wp P Q a w := by
  refine wp_region_any hm ?_
  have S : CalmSpec P l.toArray Q C R Fs Ds chain sel a := by
    refine ⟨calmKeep_of hk, fun i o f ho hf u w n hn hn2 hC hkn K hK => ?_, fun u w' h1 h2 => by rw [show l.toArray.toList = l from rfl, hA]; exact hl u w' h1 h2⟩
    refine calm_wanted ho ?_
    rw [show l.toArray.toList = l from rfl, hA] at *
    have h := calmSteps_of hs i o f (by simpa using ho) hf
    rw [Nat.zero_add] at h
    exact h u w n hn hn2 hC hkn K (fun a' v w' he h1 h2 h3 => he ▸ hK v w' h1 h2 h3)
  have h := calm_any S (by simpa using hlen) hB l.toArray.size (Array.replicate l.toArray.size false) (fun j => ((l[j - 0]?).bind (·.dst)).bind (a.tmps[·]?) |>.getD undef) w.drew (by simp) ?_ ?_ ?_ ?_
  · rw [show l.toArray.toList = l from rfl, calmPut_self] at h
    exact h
  · intro i o _ hl
    exfalso
    rw [Array.getD_eq_getD_getElem?] at hl
    simp [Array.getElem?_replicate] at hl
    split at hl <;> simp at hl
  · exact Nat.le_trans (List.length_filter_le _ _) (by simp)
  · rw [show calmAt chain (Array.replicate l.toArray.size false) = 0 from ?_]
    · exact hC
    · unfold calmAt
      cases chain with
      | nil => rfl
      | cons x l' =>
        rw [List.takeWhile_cons, if_neg]
        · rfl
        · simp only [Array.getD_eq_getD_getElem?, Array.getElem?_replicate]
          split <;> simp
  · intro j f _ hl
    exfalso
    simp only [Array.getD_eq_getD_getElem?, Array.getElem?_replicate] at hl
    split at hl <;> simp at hl

end
end Go.Proofs.Ytlnboheahbfgfaa
