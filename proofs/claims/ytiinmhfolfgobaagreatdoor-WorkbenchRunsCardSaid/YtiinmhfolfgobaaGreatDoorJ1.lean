/- Lemmas. -/
import Derived.Deep.Slices
import Derived.Lib.SmallJoins
import Derived.OpenShut
import Derived.ProofKit
import Derived.WalkKit
import Derived.Test.YtiinmhfolfgobaaGreatDoorPk
import Derived.Test.YtiinmhfolfgobaaGreatDoorRows
set_option linter.unusedVariables false
set_option linter.unusedSimpArgs false
namespace Go.Proofs.YtiinmhfolfgobaaGreatDoor
open Go.ChangeShapes Go.WideShapes Go.ChangeAt Go.RowKit Go.Deep
theorem own_ : ownKnob Tryz.prog.godebug = none := by kernel_rfl
theorem laidOut_ : laidOutB Tryz.prog = true := by kernel_rfl
def IntIn (a : Int) : Prop := -9223372036854775808 ≤ a ∧ a ≤ 9223372036854775807
def IntsAt (w : World) (A : Option Addr) (len : Nat) (zs : List Int) : Prop :=
 zs.length = len ∧ len ≤ 9223372036854775807 ∧ (∀ z ∈ zs, IntIn z) ∧
 (0 < len → ∃ b off, A = some ⟨b, off, none⟩ ∧ b < w.heap.size ∧ ∀ j, j < len → w.cell? ⟨b, off + j, none⟩ = some (.int .i64 (zs.getD j 0)))
section
variable {H : Type} {enc : TypeId × Value → H} {P : Program}
theorem trodAll_below (hl : laidOutB P = true) {W W' : World} (hb : Below W.heap.size W W') :
  ∀ {ts : List TypeId} {vs : List Value} {ds : List (DataW H)} {ps : List MemPlace}, (∀ t ∈ ts, P.readableRec t = true ∧ t < P.types.size) →
   DataW.TrodAll enc P W 0 (fun _ => true) true ts vs ds ps → DataW.TrodAll enc P W' 0 (fun b => decide (b < W.heap.size)) true ts vs ds ps
 | [], [], [], _, _, h => h
 | t :: ts, v :: vs, d :: ds, ps, hr, h => by
  obtain ⟨p, q, h1, h2, rfl⟩ := h
  have lt1 : ∀ x ∈ p, x.block < W.heap.size := by obtain ⟨m, hm⟩ := h1; exact DataW.trod_lt m _ _ _ hm
  exact ⟨p, q, Below.trod hl (hr t Ys).1 (hr t Ys).2 h1 hb lt1, trodAll_below hl hb (fun t ht => hr t (by simp [ht])) h2, rfl⟩
 | [], [], _ :: _, _, _, h => h.elim
 | [], _ :: _, _, _, _, h => by simp [DataW.TrodAll] at h
 | _ :: _, [], _, _, _, h => by simp [DataW.TrodAll] at h
 | _ :: _, _ :: _, [], _, _, h => by simp [DataW.TrodAll] at h
theorem trodAll_size {W : World} {b : Nat} {sp : Nat → Bool} {hd : Bool} :
  ∀ {ts : List TypeId} {vs : List Value} {ds : List (DataW H)} {ps : List MemPlace}, DataW.TrodAll enc P W b sp hd ts vs ds ps → vs.length = ts.length ∧ ds.length = ts.length
 | [], [], [], _, _ => ⟨rfl, rfl⟩
 | t :: ts, v :: vs, d :: ds, ps, h => by
  obtain ⟨p, q, _, h2, _⟩ := h
  have := trodAll_size h2
  exact ⟨by simp [this.1], by simp [this.2]⟩
 | [], [], _ :: _, _, h => h.elim
 | [], _ :: _, _, _, h => by simp [DataW.TrodAll] at h
 | _ :: _, [], _, _, h => by simp [DataW.TrodAll] at h
 | _ :: _, _ :: _, [], _, h => by simp [DataW.TrodAll] at h
end
def Walked (F : FuncId) (args : Array Value) (W : World) : Prop := Calls Tryz.prog F args W fun e w' => e = .returned (.bool true) ∧ Below W.heap.size W w'
section
variable {H : Type} {enc : TypeId × Value → H} {W : World} {base : Nat}
end
end Go.Proofs.YtiinmhfolfgobaaGreatDoor
namespace Go.Proofs.YtiinmhfolfgobaaGreatDoor
open Go.ChangeShapes Go.WideShapes Go.ChangeAt Go.RowKit Go.Deep
set_option maxRecDepth 100000
section
variable {H : Type} {enc : TypeId × Value → H} {W : World} {base : Nat}
theorem trods_cons {t : TypeId} {ts : List TypeId} {v : Value} {vs : List Value} {ds : List (DataW H)} {ps : List MemPlace} (h : DataW.TrodAll enc Tryz.prog W 0 (fun _ => true) true (t :: ts) (v :: vs) ds ps) :
  ∃ (d : DataW H) (p : List MemPlace) (_ : DataW.Trod enc Tryz.prog W 0 (fun _ => true) true t v d p) (ds' : List (DataW H)) (ps' : List MemPlace), DataW.TrodAll enc Tryz.prog W 0 (fun _ => true) true ts vs ds' ps' := by
 cases ds with
 | nil => simp [DataW.TrodAll] at h
 | cons d ds => obtain ⟨p, q, h1, h2, _⟩ := h; exact ⟨d, p, h1, ds, q, h2⟩
theorem come_ints {v : Value} {d : DataW H} {p : List MemPlace} (hv : Value.okWide Tryz.prog W .any base 22 v) (h : DataW.Trod enc Tryz.prog W 0 (fun _ => true) true 22 v d p) :
  ∃ A len cap zs, v = .slice A len cap ∧ IntsAt W A len zs := by
 obtain ⟨A, len, cap, rfl⟩ := okWide_slice Tryz.underlying22 hv
 obtain ⟨fuel, hf⟩ := h
 rcases open_ints Tryz.underlying22 Tryz.underlying3 Yr hf with ⟨hcs, _⟩ | ⟨x, l, c, zs, hcs, _, hl, hm, hz, _, hcell, hwz⟩
 ·simp [Value.cells] at hcs
  obtain ⟨rfl, rfl, rfl⟩ := hcs
  exact ⟨_, _, _, [], rfl, rfl, Yo, by simp, Yo⟩
 ·simp [Value.cells] at hcs
  obtain ⟨rfl, rfl, rfl⟩ := hcs
  unfold maxLen at hm
  have hz' : zs.length = cap := by simpa using hz
  refine ⟨_, _, _, zs.take len, rfl, by rw [List.length_take]; omega, Yo, ?_, ?_⟩
  ·intro z hz2
   have := hwz z (List.mem_of_mem_take hz2)
   exact bounds_i64 this
  ·intro h0
   obtain ⟨b, off, spot⟩ := x
   have hc := hcell 0 Yo
   have hspot : spot = none := by simpa [Addr.add] using World.cell?_spot hc
   subst hspot
   refine ⟨b, off, rfl, World.block_lt_of_cell? W _ (by simpa [Addr.add] using hc), fun j hj => ?_⟩
   have hcj := hcell j Yo
   have ea : (⟨b, off, none⟩ : Addr).add j = ⟨b, off + j, none⟩ := by unfold Addr.add; split <;> simp_all
   rw [ea] at hcj
   rw [hcj]
   simp [List.getD, List.getElem?_take, hj]
end
end Go.Proofs.YtiinmhfolfgobaaGreatDoor
