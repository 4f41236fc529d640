/- The reference's Same of equal lists; the seed. -/
import Derived.Test.YtlnboheahbfgfaaDraw2
import Derived.Test.YtlnboheahbfgfaaPoolC
import Derived.Test.YtlnboheahbfgfaaCk
namespace Go.Proofs.Ytlnboheahbfgfaa
open Go.RowKit
set_option linter.unusedSimpArgs false
set_option linter.unusedVariables false

def SameRel (w : World) (n : Nat) (i : Value) (G : Nat) (wr : World) : Prop := ∃ q : Nat, q ≤ n ∧ G = n - q ∧ i = .int .i64 q ∧ Below w.heap.size w wr
set_option maxRecDepth 100000 in
set_option maxHeartbeats 1000000 in
theorem nsame_yes (A B : Option Addr) (ca cb : Nat) (zs : List Int) (hm : zs.length ≤ 4611686018427387904) (n : Nat) (hz : zs.length = n) (w : World) (h : NsAt w A zs) (k : NsAt w B zs) :
    Calls Try.prog 8 #[.slice A n ca, .slice B n cb] w (RB w (.bool true)) := by
  subst hz
  have HA := Lib.hid h; have HB := Lib.hid k; clear h k
  have g0 : decide ((zs.length : Int) = (zs.length : Int)) = true := decide_eq_true rfl
  go_enter Try.func8, Try.ntmps8
  go_wp2
  go_loopg [5] zs.length (fun G i wr => SameRel w zs.length i G wr)
  case atStart => exact ⟨0, by omega, by omega, rfl, Below.refl _ _⟩
  case round =>
    obtain ⟨q, hq, rfl, rfl, KR⟩ := hrel
    have HK := Lib.hid KR
    by_cases hlt : q < zs.length
    · have gq : decide ((q : Int) < (zs.length : Int)) = true := decide_eq_true (by omega)
      have gqn : decide (q < zs.length) = true := decide_eq_true hlt
      have wq : IntKind.i64.wrap ((q : Int) + 1) = ((q + 1 : Nat) : Int) := by rw [IntWalk.i64_in _ (by omega)]; omega
      obtain ⟨ga, oa, rfl, la, hca⟩ := (HA.out.below KR) (by omega)
      obtain ⟨gb, ob, rfl, lb, hcb⟩ := (HB.out.below KR) (by omega)
      have e1 := hca q hlt
      have e2 := hcb q hlt
      clear hca hcb KR HA HB
      generalize zs.getD q 0 = x at *
      go_wp2_with fail
      go_quiet (fail)
      go_wp2
      go_roundg (zs.length - (q + 1))
      case measure => omega
      case rel => exact ⟨q + 1, by omega, by omega, by go_num, (by (repeat' (first | (with_reducible exact HK.out) | (with_reducible refine Below.setCell ?_ ?_ _) | (with_reducible refine Below.alloc ?_ ?_ _) | (with_reducible refine Below.drew ?_) | (with_reducible refine below_drewN ?_ _))) <;> (first | omega | (simp <;> omega)))⟩
    · obtain rfl : q = zs.length := by omega
      have gq : decide ((zs.length : Int) < (zs.length : Int)) = false := decide_eq_false (by omega)
      clear KR
      go_wp2
      go_ret
      exact ⟨rfl, HK.out⟩
theorem rand_bys {w : World} {g : Nat} {v : Int} (h : ByAt w g (randS v)) : BysAt w (some ⟨g, 0, none⟩) 32 (randS v) := ⟨shaS_len _, shaS_in _, fun _ => ⟨g, 0, rfl, h.sl⟩⟩
theorem drL_le (seed : List Int) (n k : Int) : (drL seed n k).length ≤ 32 := by
  by_cases h : drE seed.length n k = 0
  · have := drL_in h; omega
  · unfold drL; rw [if_neg h]; simp
end Go.Proofs.Ytlnboheahbfgfaa
