/- The frame: from a law's walk (it returns true and writes nothing that was there) to the given statement. -/
import Derived.Deep.Slices
import Derived.Lib.SmallJoins
import Derived.OpenShut
import Derived.ProofKit
import Derived.WalkKit
import Derived.Test.YtiinmhfolfgobaaGreatDoorRows
namespace Go.Proofs.YtiinmhfolfgobaaGreatDoor
open Go.ChangeShapes Go.WideShapes Go.ChangeAt Go.RowKit Go.Deep

theorem own_ : ownKnob Tryz.prog.godebug = none := by kernel_rfl
theorem laidOut_ : laidOutB Tryz.prog = true := by kernel_rfl

/-- What a number of the kind int holds. -/
def IntIn (a : Int) : Prop := -9223372036854775808 ≤ a ∧ a ≤ 9223372036854775807
/-- A slice of numbers that came in: its elements. -/
def IntsAt (w : World) (A : Option Addr) (len : Nat) (zs : List Int) : Prop :=
  zs.length = len ∧ len ≤ 9223372036854775807 ∧ (∀ z ∈ zs, IntIn z) ∧
  (0 < len → ∃ b off, A = some ⟨b, off, none⟩ ∧ b < w.heap.size ∧ ∀ j, j < len → w.cell? ⟨b, off + j, none⟩ = some (.int .i64 (zs.getD j 0)))

section
variable {H : Type} {enc : TypeId × Value → H} {P : Program}
theorem trodAll_below (hl : laidOutB P = true) {W W' : World} (hb : Below W.heap.size W W') :
    ∀ {ts : List TypeId} {vs : List Value} {ds : List (DataW H)} {ps : List MemPlace}, (∀ t ∈ ts, P.readableRec t = true ∧ t < P.types.size) →
      DataW.TrodAll enc P W 0 (fun _ => true) true ts vs ds ps → DataW.TrodAll enc P W' 0 (fun b => decide (b < W.heap.size)) true ts vs ds ps
  | [], [], [], _, _, h => h
  | t :: ts, v :: vs, d :: ds, ps, hr, h => by
    obtain ⟨p, q, h1, h2, rfl⟩ := h
    have lt1 : ∀ x ∈ p, x.block < W.heap.size := by obtain ⟨m, hm⟩ := h1; exact DataW.trod_lt m _ _ _ hm
    exact ⟨p, q, Below.trod hl (hr t (by simp)).1 (hr t (by simp)).2 h1 hb lt1, trodAll_below hl hb (fun t ht => hr t (by simp [ht])) h2, rfl⟩
  | [], [], _ :: _, _, _, h => h.elim
  | [], _ :: _, _, _, _, h => by simp [DataW.TrodAll] at h
  | _ :: _, [], _, _, _, h => by simp [DataW.TrodAll] at h
  | _ :: _, _ :: _, [], _, _, h => by simp [DataW.TrodAll] at h
theorem trodAll_size {W : World} {b : Nat} {sp : Nat → Bool} {hd : Bool} :
    ∀ {ts : List TypeId} {vs : List Value} {ds : List (DataW H)} {ps : List MemPlace}, DataW.TrodAll enc P W b sp hd ts vs ds ps → vs.length = ts.length ∧ ds.length = ts.length
  | [], [], [], _, _ => ⟨rfl, rfl⟩
  | t :: ts, v :: vs, d :: ds, ps, h => by
    obtain ⟨p, q, _, h2, _⟩ := h
    have := trodAll_size h2
    exact ⟨by simp [this.1], by simp [this.2]⟩
  | [], [], _ :: _, _, h => h.elim
  | [], _ :: _, _, _, h => by simp [DataW.TrodAll] at h
  | _ :: _, [], _, _, h => by simp [DataW.TrodAll] at h
  | _ :: _, _ :: _, [], _, h => by simp [DataW.TrodAll] at h
end

/-- What the walk of a law shows. -/
def Walked (F : FuncId) (args : Array Value) (W : World) : Prop := Calls Tryz.prog F args W fun e w' => e = .returned (.bool true) ∧ Below W.heap.size W w'

section
variable {H : Type} {enc : TypeId × Value → H} {W : World} {base : Nat}
end
end Go.Proofs.YtiinmhfolfgobaaGreatDoor
