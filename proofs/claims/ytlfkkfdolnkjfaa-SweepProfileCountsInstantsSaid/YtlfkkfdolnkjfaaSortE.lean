/- slices.SortFunc over the events of a sweep. -/
import Derived.Test.YtlfkkfdolnkjfaaJ11
namespace Go.Proofs.Ytlfkkfdolnkjfaa
open Go.RowKit Go.Shelf Go.Sort

/-- slices.SortFunc over a row of events that is owned. -/
theorem sortFuncE (cf : Int × Int → Int × Int → Int) (hO : SWO (ltOf cf)) (g : Nat) (eg : ∀ args w, (callFunc g args).run Try.prog w = .ok (.enter g args) w)
    (hcmp : ∀ x y W, Calls Try.prog g #[.agg #[.int .i64 x.1, .int .i64 x.2], .agg #[.int .i64 y.1, .int .i64 y.2]] W fun e w' => e = .returned (.int .i64 (cf x y)) ∧ ∃ q os', w' = grow (W.drewN q) os')
    (base : Nat) (v : Value) (zs : List (Int × Int)) (w : World) (hr : w.ownsRow base 136 2 v zs.length (cellsS zs)) (hbase : base ≤ w.heap.size) (hsz : zs.length < 4611686018427387904) :
    Calls Try.prog 139 #[v, .func (.func g) #[] #[]] w fun e w' => e = .returned (.tuple #[]) ∧ ∃ A cap ds, v = .slice A zs.length cap ∧ SortedBy cf zs ds ∧ SpansAt w' A zs.length ds ∧ Below base w w' := by
  rcases hr.2 with ⟨rfl, h0⟩ | ⟨b, cap, cur, rfl, hb1, hb2, hb3, hb4, hb5, hb6⟩
  · obtain rfl : zs = [] := List.eq_nil_of_length_eq_zero h0
    exact (AnyF.slices_SortFunc_none Try.sortEvent none 0 (.func (.func g) #[] #[]) w).mono fun e w' ⟨he, hw⟩ => ⟨he, none, 0, [], rfl, ⟨List.Perm.refl _, List.Pairwise.nil⟩, ⟨rfl, by decide, fun h => absurd h (by decide)⟩, by rw [hw]; exact Below.refl _ _⟩
  · have hc := fun j hj => row_cells hb2 hb6 j hj
    have hf : ∀ i, w.frozen? ⟨b, i, none⟩ = false := fun i => by simp [World.frozen?, hb2]
    have hH : HoldsK encL 2 w b 0 zs.toArray := holdsK_of hc hf
    have hlt : b < w.heap.size := (Array.getElem?_eq_some_iff.1 hb2).1
    have hcon := AnyQ.slices_SortFunc Try.sortEvent 2 Try.isAgg136 Try.sizeOf136 encL (fun _ => rfl) (fun x v hv => by simp [encL] at hv; rcases hv with rfl | rfl <;> rfl) cf hO g #[] b 0 cap zs.toArray w eg (fun _ _ _ _ x y => hcmp x y _) hH hlt (by simpa using hsz)
    have e : zs.toArray.size = zs.length := by simp
    rw [e] at hcon
    refine hcon.mono ?_
    rintro e1 w' ⟨rfl, d', n, os, hp, hs, rfl⟩
    have hds : d'.size = zs.toArray.size := hp.1
    have hK : HoldsK encL 2 (sortWorldK encL 2 w b 0 n d' os) b 0 d' := (show SWK encL 2 w b 0 d' _ from ⟨n, os, rfl⟩).holds hlt hH hds
    have hsz' : b < (sortWorldK encL 2 w b 0 n d' os).heap.size := (show SWK encL 2 w b 0 d' _ from ⟨n, os, rfl⟩).lt hlt
    refine ⟨rfl, some ⟨b, 0, none⟩, cap, d'.toList, rfl, sortedBy_of (by rw [e]; exact hp) (by rw [e]; exact hs), ⟨by simp [hds], by omega, fun _ => ⟨b, 0, rfl, hsz', fun j hj => holdsK_cells hK j (by rw [hds, e]; exact hj)⟩⟩, below_sortedK _ hb1 hbase⟩

end Go.Proofs.Ytlfkkfdolnkjfaa
