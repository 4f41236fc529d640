/- slices.SortedFunc over spans: a sorted permutation, in a slice of the call's own. -/
import Derived.Shelf.SlSortCmp.NoneTotal
import Derived.Test.YtlfkkfdolnkjfaaSeqS
import Derived.Test.YtlfkkfdolnkjfaaSortLay
namespace Go.Proofs.Ytlfkkfdolnkjfaa
open Go.RowKit Go.Shelf Go.Sort

/-- A span's two cells; the comparison of two numbers. -/
def encL (x : Int × Int) : List Value := [.int .i64 x.1, .int .i64 x.2]
def cmpI (a b : Int) : Int := if a < b then -1 else if b < a then 1 else 0
theorem cmpI_lt (a b : Int) : decide (cmpI a b < 0) = decide (a < b) := by
  unfold cmpI
  by_cases h1 : a < b
  · simp [h1]
  · by_cases h2 : b < a <;> simp [h1, h2]
theorem loSwo : SWO (ltOf fun x y : Int × Int => cmpI x.1 y.1) where
  irrefl x := by simp only [ltOf, cmpI_lt]; simp
  trans x y z h1 h2 := by simp only [ltOf, cmpI_lt] at *; simp at *; omega
  ntrans x y z h1 h2 := by simp only [ltOf, cmpI_lt] at *; simp at *; omega

theorem cellsS_get (zs : List (Int × Int)) : ∀ j, j < zs.length → (cellsS zs)[j * 2]? = some (.int .i64 (zs.getD j (0, 0)).1) ∧ (cellsS zs)[j * 2 + 1]? = some (.int .i64 (zs.getD j (0, 0)).2) := by
  induction zs with
  | nil => intro j hj; simp at hj
  | cons z zs ih =>
    intro j hj
    cases j with
    | zero => simp [cellsS]
    | succ j =>
      have := ih j (by simpa using hj)
      have e : cellsS (z :: zs) = .int .i64 z.1 :: .int .i64 z.2 :: cellsS zs := by simp [cellsS]
      rw [e, show (j + 1) * 2 = j * 2 + 1 + 1 by omega]
      simpa using this
theorem row_cells {w : World} {g : Nat} {cur : Array Value} {e : TypeId} {zs : List (Int × Int)} (hb : w.heap[g]? = some (.cells cur e (0, 0))) (ht : cur.toList.take (zs.length * 2) = cellsS zs) (j : Nat) (hj : j < zs.length) :
    w.cell? ⟨g, 0 + j * 2, none⟩ = some (.int .i64 (zs.getD j (0, 0)).1) ∧ w.cell? ⟨g, 0 + j * 2 + 1, none⟩ = some (.int .i64 (zs.getD j (0, 0)).2) := by
  obtain ⟨h1, h2⟩ := cellsS_get zs j hj
  rw [← ht, List.getElem?_take_of_lt (by omega), Array.getElem?_toList] at h1 h2
  refine ⟨?_, ?_⟩ <;> simp only [World.cell?, hb, Nat.zero_add] <;> simp only [Option.isSome_none, Bool.false_eq_true, if_false] <;> assumption
theorem holdsK_of {w : World} {g off : Nat} {zs : List (Int × Int)} (hc : ∀ j, j < zs.length → w.cell? ⟨g, off + j * 2, none⟩ = some (.int .i64 (zs.getD j (0, 0)).1) ∧ w.cell? ⟨g, off + j * 2 + 1, none⟩ = some (.int .i64 (zs.getD j (0, 0)).2)) (hf : ∀ i, w.frozen? ⟨g, i, none⟩ = false) : HoldsK encL 2 w g off zs.toArray := by
  intro t ht
  rw [size_flatK] at ht
  rw [get_flatK _ _ _ _ ht]
  have hj : t / 2 < zs.length := by simp at ht; omega
  refine ⟨?_, hf _⟩
  obtain ⟨h1, h2⟩ := hc (t / 2) hj
  have e0 : zs.toArray[t / 2]! = zs.getD (t / 2) (0, 0) := by rw [getElem!_pos _ _ (by simpa using hj), List.getElem_toArray, List.getD_eq_getElem?_getD, List.getElem?_eq_getElem hj]; rfl
  rw [e0]
  rcases Nat.mod_two_eq_zero_or_one t with h | h
  · rw [h, show off + t = off + t / 2 * 2 by omega, h1]; rfl
  · rw [h, show off + t = off + t / 2 * 2 + 1 by omega, h2]; rfl
theorem holdsK_cells {w : World} {g off : Nat} {d : Array (Int × Int)} (h : HoldsK encL 2 w g off d) (j : Nat) (hj : j < d.size) :
    w.cell? ⟨g, off + j * 2, none⟩ = some (.int .i64 (d.toList.getD j (0, 0)).1) ∧ w.cell? ⟨g, off + j * 2 + 1, none⟩ = some (.int .i64 (d.toList.getD j (0, 0)).2) := by
  have h1 := (h.cell hj (show 0 < 2 by omega)).1
  have h2 := (h.cell hj (show 1 < 2 by omega)).1
  have e0 : d[j]! = d.toList.getD j (0, 0) := by rw [getElem!_pos d j hj, List.getD_eq_getElem?_getD, List.getElem?_eq_getElem (by simpa using hj)]; rfl
  rw [e0] at h1 h2
  exact ⟨h1, h2⟩
theorem below_sortedK {w : World} {g n base : Nat} {os : Array Obj} (d : Array (Int × Int)) (hb : base ≤ g) (hw : base ≤ w.heap.size) : Below base w (sortWorldK encL 2 w g 0 n d os) := by
  refine ⟨rfl, rfl, rfl, ?_, fun k hk => ?_⟩
  · unfold sortWorldK; rw [size_grow, size_putRowK]; show w.heap.size ≤ w.heap.size + _; omega
  · unfold sortWorldK
    rw [heap_grow_old _ _ (by rw [size_putRowK]; show k < w.heap.size; omega)]
    have hne : g ≠ k := fun e => by omega
    simp [putRowK, putRow, mapBlock, Sort.ahead, Array.getElem?_modify, hne]

/-- What a sort by a comparison makes of a list. -/
def SortedBy (cf : Int × Int → Int × Int → Int) (zs ds : List (Int × Int)) : Prop := ds.Perm zs ∧ ds.Pairwise fun x y => ltOf cf y x = false
theorem sortedBy_of {cf : Int × Int → Int × Int → Int} {zs : List (Int × Int)} {d' : Array (Int × Int)} (hp : PermIn 0 zs.toArray.size zs.toArray d') (hs : SortedIn (ltOf cf) 0 zs.toArray.size d') : SortedBy cf zs d'.toList := by
  obtain ⟨h1, _, h3⟩ := hp
  refine ⟨?_, ?_⟩
  · have e1 : d'.extract 0 zs.toArray.size = d' := by rw [← h1]; simp
    rw [e1] at h3
    simpa using h3
  · rw [List.pairwise_iff_getElem]
    intro i j hi hj hij
    have := hs i j (Nat.zero_le _) hij (by rw [← h1]; simpa using hj)
    rw [getElem!_pos _ _ (by simpa using hj), getElem!_pos _ _ (by simpa using hi)] at this
    simpa using this

/-- slices.SortFunc over a row of spans that is owned. -/
theorem sortFuncS (cf : Int × Int → Int × Int → Int) (hO : SWO (ltOf cf)) (g : Nat) (eg : ∀ args w, (callFunc g args).run Try.prog w = .ok (.enter g args) w)
    (hcmp : ∀ x y W, Calls Try.prog g #[.agg #[.int .i64 x.1, .int .i64 x.2], .agg #[.int .i64 y.1, .int .i64 y.2]] W fun e w' => e = .returned (.int .i64 (cf x y)) ∧ ∃ q os', w' = grow (W.drewN q) os')
    (base : Nat) (v : Value) (zs : List (Int × Int)) (w : World) (hr : w.ownsRow base 35 2 v zs.length (cellsS zs)) (hbase : base ≤ w.heap.size) (hsz : zs.length < 4611686018427387904) :
    Calls Try.prog 107 #[v, .func (.func g) #[] #[]] w fun e w' => e = .returned (.tuple #[]) ∧ ∃ A cap ds, v = .slice A zs.length cap ∧ SortedBy cf zs ds ∧ SpansAt w' A zs.length ds ∧ Below base w w' := by
  rcases hr.2 with ⟨rfl, h0⟩ | ⟨b, cap, cur, rfl, hb1, hb2, hb3, hb4, hb5, hb6⟩
  · obtain rfl : zs = [] := List.eq_nil_of_length_eq_zero h0
    exact (AnyF.slices_SortFunc_none Try.sortSpan none 0 (.func (.func g) #[] #[]) w).mono fun e w' ⟨he, hw⟩ => ⟨he, none, 0, [], rfl, ⟨List.Perm.refl _, List.Pairwise.nil⟩, ⟨rfl, by decide, fun h => absurd h (by decide)⟩, by rw [hw]; exact Below.refl _ _⟩
  · have hc := fun j hj => row_cells hb2 hb6 j hj
    have hf : ∀ i, w.frozen? ⟨b, i, none⟩ = false := fun i => by simp [World.frozen?, hb2]
    have hH : HoldsK encL 2 w b 0 zs.toArray := holdsK_of hc hf
    have hlt : b < w.heap.size := (Array.getElem?_eq_some_iff.1 hb2).1
    have hcon := AnyQ.slices_SortFunc Try.sortSpan 2 Try.isAgg35 Try.sizeOf35 encL (fun _ => rfl) (fun x v hv => by simp [encL] at hv; rcases hv with rfl | rfl <;> rfl) cf hO g #[] b 0 cap zs.toArray w eg (fun _ _ _ _ x y => hcmp x y _) hH hlt (by simpa using hsz)
    have e : zs.toArray.size = zs.length := by simp
    rw [e] at hcon
    refine hcon.mono ?_
    rintro e1 w' ⟨rfl, d', n, os, hp, hs, rfl⟩
    have hds : d'.size = zs.toArray.size := hp.1
    have hK : HoldsK encL 2 (sortWorldK encL 2 w b 0 n d' os) b 0 d' := (show SWK encL 2 w b 0 d' _ from ⟨n, os, rfl⟩).holds hlt hH hds
    have hsz' : b < (sortWorldK encL 2 w b 0 n d' os).heap.size := (show SWK encL 2 w b 0 d' _ from ⟨n, os, rfl⟩).lt hlt
    refine ⟨rfl, some ⟨b, 0, none⟩, cap, d'.toList, rfl, sortedBy_of (by rw [e]; exact hp) (by rw [e]; exact hs), ⟨by simp [hds], by omega, fun _ => ⟨b, 0, rfl, hsz', fun j hj => holdsK_cells hK j (by rw [hds, e]; exact hj)⟩⟩, below_sortedK _ hb1 hbase⟩

/-- slices.Collect inside a fence. -/
theorem collectS (F : Fence) (n : Nat) (hC : F.fn 106) (hA : F.fn 136) (hro : F.round = none) (hn : 4 ≤ n) (gf : Nat) (hgf : F.fn gf) (eg : ∀ args w, (callFunc gf args).run Try.prog w = .ok (.enter gf args) w) (lb : Array Value) (zs : List (Int × Int)) (hlen : zs.length ≤ maxLen) (hbytes : zs.length * 16 ≤ 140737488355328) (w : World)
    (hseq : ∀ W, Below w.heap.size w W → SeqStopsK F (n - 2) Try.prog gf lb encS (Below w.heap.size) (fun ys => ys = zs) (fun pre => pre <+: zs) zs.length W) :
    CallsIn F n Try.prog 106 #[.func (.func gf) #[] lb] w fun e W' => ∃ v, e = .returned v ∧ W'.ownsRow w.heap.size 35 2 v zs.length (cellsS zs) ∧ Below w.heap.size w W' := by
  refine callsIn_of_wp Try.func106 rfl hC ?_ hro
  simp only [Try.ntmps106, List.size_toArray, List.length_cons, List.length_nil, Nat.reduceAdd, Nat.reduceSub, Array.replicate_succ, Array.replicate_zero, List.push_toArray, List.append_toArray, List.nil_append, List.cons_append]
  have hcon := appendSeqS F (n - 1) hA hro (by omega) gf hgf eg lb zs hlen hbytes w (fun W hW => by have := hseq W hW; rwa [show n - 1 - 1 = n - 2 by omega])
  have H := Lib.hid hcon; clear hcon hseq
  have h1 : 1 ≤ n := by omega
  gi_wp2_with (gi_at_call 136; refine H.out.mono ?_; rintro e w' ⟨v, rfl, hrow, _, hb⟩)
  go_ret
  exact ⟨_, rfl, hrow, hb⟩

set_option maxHeartbeats 1000000 in
/-- slices.SortedFunc(slices.Values(s), cmp). -/
theorem sortedFuncS (cf : Int × Int → Int × Int → Int) (hO : SWO (ltOf cf)) (g : Nat) (eg : ∀ args w, (callFunc g args).run Try.prog w = .ok (.enter g args) w)
    (hcmp : ∀ x y W, Calls Try.prog g #[.agg #[.int .i64 x.1, .int .i64 x.2], .agg #[.int .i64 y.1, .int .i64 y.2]] W fun e w' => e = .returned (.int .i64 (cf x y)) ∧ ∃ q os', w' = grow (W.drewN q) os')
    (Bs : Nat) (A : Option Addr) (len cap : Nat) (zs : List (Int × Int)) (w : World) (hBs : Bs < w.heap.size) (hreach : len * 16 ≤ 140737488351232) (hc : w.cell? ⟨Bs, 0, none⟩ = some (.slice A len cap)) (hI : SpansAt w A len zs) :
    Calls Try.prog 69 #[.func (.func 108) #[] #[.pointer (some ⟨Bs, 0, none⟩)], .func (.func g) #[] #[]] w fun e w' => ∃ A' cap' ds, e = .returned (.slice A' len cap') ∧ SortedBy cf zs ds ∧ SpansAt w' A' len ds ∧ Below w.heap.size w w' := by
  have hz := hI.1
  have hcol : Calls Try.prog 106 #[.func (.func 108) #[] #[.pointer (some ⟨Bs, 0, none⟩)]] w fun e W' => ∃ v, e = .returned v ∧ W'.ownsRow w.heap.size 35 2 v zs.length (cellsS zs) ∧ Below w.heap.size w W' :=
    (callsIn_wide (n := 4)).1 (collectS Fence.wide 4 trivial trivial rfl (by omega) _ trivial (enters_of Try.func108 (by kernel_rfl) rfl) _ zs (by rw [hz]; unfold maxLen; omega) (by rw [hz]; omega) w
      (fun W hW => valuesS_stops Fence.wide (4 - 2) trivial rfl (by omega) Bs A len cap zs hreach w W (Nat.lt_of_lt_of_le hBs hW.size) hW.size ((hW.cell (p := ⟨Bs, 0, none⟩) hBs).trans hc) hI hW))
  have hsrt := fun v W => sortFuncS cf hO g eg hcmp w.heap.size v zs W
  have HC := Lib.hid hcol
  have HS := Lib.hid hsrt
  clear hcol hsrt hI hc hcmp hO
  subst hz
  go_enter Try.func69, Try.ntmps69
  go_wp2_with fail
  refine HC.out.mono ?_
  rintro e w1 ⟨v, rfl, hrow, hb⟩
  have R := Lib.hid (HS.out v w1 hrow hb.size (by omega))
  go_wp2_with fail
  refine R.out.mono ?_
  rintro e w2 ⟨rfl, A', cap', ds, rfl, hsb, hsp, hb2⟩
  go_wp2
  go_ret
  exact ⟨_, _, ds, rfl, hsb, hsp, hb.trans hb2⟩
end Go.Proofs.Ytlfkkfdolnkjfaa
