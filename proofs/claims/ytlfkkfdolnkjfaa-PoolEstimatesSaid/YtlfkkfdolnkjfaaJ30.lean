/- Texts joined: SortS, UnionW -/
import Derived.Shelf.SlSortCmp.NoneTotal
import Derived.Deep.LoopGhost
import Derived.OwnWalk
import Derived.Test.YtlfkkfdolnkjfaaSeqS
import Derived.Test.YtlfkkfdolnkjfaaSortLay
namespace Go.Proofs.Ytlfkkfdolnkjfaa
open Go.RowKit Go.Shelf Go.Sort

/-- A span's two cells; the comparison of two numbers. -/
def encL (x : Int × Int) : List Value := [.int .i64 x.1, .int .i64 x.2]
def cmpI (a b : Int) : Int := if a < b then -1 else if b < a then 1 else 0
theorem cmpI_lt (a b : Int) : decide (cmpI a b < 0) = decide (a < b) := by
  unfold cmpI
  by_cases h1 : a < b
  · simp [h1]
  · by_cases h2 : b < a <;> simp [h1, h2]
theorem loSwo : SWO (ltOf fun x y : Int × Int => cmpI x.1 y.1) where
  irrefl x := by simp only [ltOf, cmpI_lt]; simp
  trans x y z h1 h2 := by simp only [ltOf, cmpI_lt] at *; simp at *; omega
  ntrans x y z h1 h2 := by simp only [ltOf, cmpI_lt] at *; simp at *; omega

theorem cellsS_get (zs : List (Int × Int)) : ∀ j, j < zs.length → (cellsS zs)[j * 2]? = some (.int .i64 (zs.getD j (0, 0)).1) ∧ (cellsS zs)[j * 2 + 1]? = some (.int .i64 (zs.getD j (0, 0)).2) := by
  induction zs with
  | nil => intro j hj; simp at hj
  | cons z zs ih =>
    intro j hj
    cases j with
    | zero => simp [cellsS]
    | succ j =>
      have := ih j (by simpa using hj)
      have e : cellsS (z :: zs) = .int .i64 z.1 :: .int .i64 z.2 :: cellsS zs := by simp [cellsS]
      rw [e, show (j + 1) * 2 = j * 2 + 1 + 1 by omega]
      simpa using this
theorem row_cells {w : World} {g : Nat} {cur : Array Value} {e : TypeId} {zs : List (Int × Int)} (hb : w.heap[g]? = some (.cells cur e (0, 0))) (ht : cur.toList.take (zs.length * 2) = cellsS zs) (j : Nat) (hj : j < zs.length) :
    w.cell? ⟨g, 0 + j * 2, none⟩ = some (.int .i64 (zs.getD j (0, 0)).1) ∧ w.cell? ⟨g, 0 + j * 2 + 1, none⟩ = some (.int .i64 (zs.getD j (0, 0)).2) := by
  obtain ⟨h1, h2⟩ := cellsS_get zs j hj
  rw [← ht, List.getElem?_take_of_lt (by omega), Array.getElem?_toList] at h1 h2
  refine ⟨?_, ?_⟩ <;> simp only [World.cell?, hb, Nat.zero_add] <;> simp only [Option.isSome_none, Bool.false_eq_true, if_false] <;> assumption
theorem holdsK_of {w : World} {g off : Nat} {zs : List (Int × Int)} (hc : ∀ j, j < zs.length → w.cell? ⟨g, off + j * 2, none⟩ = some (.int .i64 (zs.getD j (0, 0)).1) ∧ w.cell? ⟨g, off + j * 2 + 1, none⟩ = some (.int .i64 (zs.getD j (0, 0)).2)) (hf : ∀ i, w.frozen? ⟨g, i, none⟩ = false) : HoldsK encL 2 w g off zs.toArray := by
  intro t ht
  rw [size_flatK] at ht
  rw [get_flatK _ _ _ _ ht]
  have hj : t / 2 < zs.length := by simp at ht; omega
  refine ⟨?_, hf _⟩
  obtain ⟨h1, h2⟩ := hc (t / 2) hj
  have e0 : zs.toArray[t / 2]! = zs.getD (t / 2) (0, 0) := by rw [getElem!_pos _ _ (by simpa using hj), List.getElem_toArray, List.getD_eq_getElem?_getD, List.getElem?_eq_getElem hj]; rfl
  rw [e0]
  rcases Nat.mod_two_eq_zero_or_one t with h | h
  · rw [h, show off + t = off + t / 2 * 2 by omega, h1]; rfl
  · rw [h, show off + t = off + t / 2 * 2 + 1 by omega, h2]; rfl
theorem holdsK_cells {w : World} {g off : Nat} {d : Array (Int × Int)} (h : HoldsK encL 2 w g off d) (j : Nat) (hj : j < d.size) :
    w.cell? ⟨g, off + j * 2, none⟩ = some (.int .i64 (d.toList.getD j (0, 0)).1) ∧ w.cell? ⟨g, off + j * 2 + 1, none⟩ = some (.int .i64 (d.toList.getD j (0, 0)).2) := by
  have h1 := (h.cell hj (show 0 < 2 by omega)).1
  have h2 := (h.cell hj (show 1 < 2 by omega)).1
  have e0 : d[j]! = d.toList.getD j (0, 0) := by rw [getElem!_pos d j hj, List.getD_eq_getElem?_getD, List.getElem?_eq_getElem (by simpa using hj)]; rfl
  rw [e0] at h1 h2
  exact ⟨h1, h2⟩
theorem below_sortedK {w : World} {g n base : Nat} {os : Array Obj} (d : Array (Int × Int)) (hb : base ≤ g) (hw : base ≤ w.heap.size) : Below base w (sortWorldK encL 2 w g 0 n d os) := by
  refine ⟨rfl, rfl, rfl, ?_, fun k hk => ?_⟩
  · unfold sortWorldK; rw [size_grow, size_putRowK]; show w.heap.size ≤ w.heap.size + _; omega
  · unfold sortWorldK
    rw [heap_grow_old _ _ (by rw [size_putRowK]; show k < w.heap.size; omega)]
    have hne : g ≠ k := fun e => by omega
    simp [putRowK, putRow, mapBlock, Sort.ahead, Array.getElem?_modify, hne]

/-- What a sort by a comparison makes of a list. -/
def SortedBy (cf : Int × Int → Int × Int → Int) (zs ds : List (Int × Int)) : Prop := ds.Perm zs ∧ ds.Pairwise fun x y => ltOf cf y x = false
theorem sortedBy_of {cf : Int × Int → Int × Int → Int} {zs : List (Int × Int)} {d' : Array (Int × Int)} (hp : PermIn 0 zs.toArray.size zs.toArray d') (hs : SortedIn (ltOf cf) 0 zs.toArray.size d') : SortedBy cf zs d'.toList := by
  obtain ⟨h1, _, h3⟩ := hp
  refine ⟨?_, ?_⟩
  · have e1 : d'.extract 0 zs.toArray.size = d' := by rw [← h1]; simp
    rw [e1] at h3
    simpa using h3
  · rw [List.pairwise_iff_getElem]
    intro i j hi hj hij
    have := hs i j (Nat.zero_le _) hij (by rw [← h1]; simpa using hj)
    rw [getElem!_pos _ _ (by simpa using hj), getElem!_pos _ _ (by simpa using hi)] at this
    simpa using this

/-- slices.SortFunc over a row of spans that is owned. -/
theorem sortFuncS (cf : Int × Int → Int × Int → Int) (hO : SWO (ltOf cf)) (g : Nat) (eg : ∀ args w, (callFunc g args).run Try.prog w = .ok (.enter g args) w)
    (hcmp : ∀ x y W, Calls Try.prog g #[.agg #[.int .i64 x.1, .int .i64 x.2], .agg #[.int .i64 y.1, .int .i64 y.2]] W fun e w' => e = .returned (.int .i64 (cf x y)) ∧ ∃ q os', w' = grow (W.drewN q) os')
    (base : Nat) (v : Value) (zs : List (Int × Int)) (w : World) (hr : w.ownsRow base 35 2 v zs.length (cellsS zs)) (hbase : base ≤ w.heap.size) (hsz : zs.length < 4611686018427387904) :
    Calls Try.prog 107 #[v, .func (.func g) #[] #[]] w fun e w' => e = .returned (.tuple #[]) ∧ ∃ A cap ds, v = .slice A zs.length cap ∧ SortedBy cf zs ds ∧ SpansAt w' A zs.length ds ∧ Below base w w' := by
  rcases hr.2 with ⟨rfl, h0⟩ | ⟨b, cap, cur, rfl, hb1, hb2, hb3, hb4, hb5, hb6⟩
  · obtain rfl : zs = [] := List.eq_nil_of_length_eq_zero h0
    exact (AnyF.slices_SortFunc_none Try.sortSpan none 0 (.func (.func g) #[] #[]) w).mono fun e w' ⟨he, hw⟩ => ⟨he, none, 0, [], rfl, ⟨List.Perm.refl _, List.Pairwise.nil⟩, ⟨rfl, by decide, fun h => absurd h (by decide)⟩, by rw [hw]; exact Below.refl _ _⟩
  · have hc := fun j hj => row_cells hb2 hb6 j hj
    have hf : ∀ i, w.frozen? ⟨b, i, none⟩ = false := fun i => by simp [World.frozen?, hb2]
    have hH : HoldsK encL 2 w b 0 zs.toArray := holdsK_of hc hf
    have hlt : b < w.heap.size := (Array.getElem?_eq_some_iff.1 hb2).1
    have hcon := AnyQ.slices_SortFunc Try.sortSpan 2 Try.isAgg35 Try.sizeOf35 encL (fun _ => rfl) (fun x v hv => by simp [encL] at hv; rcases hv with rfl | rfl <;> rfl) cf hO g #[] b 0 cap zs.toArray w eg (fun _ _ _ _ x y => hcmp x y _) hH hlt (by simpa using hsz)
    have e : zs.toArray.size = zs.length := by simp
    rw [e] at hcon
    refine hcon.mono ?_
    rintro e1 w' ⟨rfl, d', n, os, hp, hs, rfl⟩
    have hds : d'.size = zs.toArray.size := hp.1
    have hK : HoldsK encL 2 (sortWorldK encL 2 w b 0 n d' os) b 0 d' := (show SWK encL 2 w b 0 d' _ from ⟨n, os, rfl⟩).holds hlt hH hds
    have hsz' : b < (sortWorldK encL 2 w b 0 n d' os).heap.size := (show SWK encL 2 w b 0 d' _ from ⟨n, os, rfl⟩).lt hlt
    refine ⟨rfl, some ⟨b, 0, none⟩, cap, d'.toList, rfl, sortedBy_of (by rw [e]; exact hp) (by rw [e]; exact hs), ⟨by simp [hds], by omega, fun _ => ⟨b, 0, rfl, hsz', fun j hj => holdsK_cells hK j (by rw [hds, e]; exact hj)⟩⟩, below_sortedK _ hb1 hbase⟩

/-- slices.Collect inside a fence. -/
theorem collectS (F : Fence) (n : Nat) (hC : F.fn 106) (hA : F.fn 136) (hro : F.round = none) (hn : 4 ≤ n) (gf : Nat) (hgf : F.fn gf) (eg : ∀ args w, (callFunc gf args).run Try.prog w = .ok (.enter gf args) w) (lb : Array Value) (zs : List (Int × Int)) (hlen : zs.length ≤ maxLen) (hbytes : zs.length * 16 ≤ 140737488355328) (w : World)
    (hseq : ∀ W, Below w.heap.size w W → SeqStopsK F (n - 2) Try.prog gf lb encS (Below w.heap.size) (fun ys => ys = zs) (fun pre => pre <+: zs) zs.length W) :
    CallsIn F n Try.prog 106 #[.func (.func gf) #[] lb] w fun e W' => ∃ v, e = .returned v ∧ W'.ownsRow w.heap.size 35 2 v zs.length (cellsS zs) ∧ Below w.heap.size w W' := by
  refine callsIn_of_wp Try.func106 rfl hC ?_ hro
  simp only [Try.ntmps106, List.size_toArray, List.length_cons, List.length_nil, Nat.reduceAdd, Nat.reduceSub, Array.replicate_succ, Array.replicate_zero, List.push_toArray, List.append_toArray, List.nil_append, List.cons_append]
  have hcon := appendSeqS F (n - 1) hA hro (by omega) gf hgf eg lb zs hlen hbytes w (fun W hW => by have := hseq W hW; rwa [show n - 1 - 1 = n - 2 by omega])
  have H := Lib.hid hcon; clear hcon hseq
  have h1 : 1 ≤ n := by omega
  gi_wp2_with (gi_at_call 136; refine H.out.mono ?_; rintro e w' ⟨v, rfl, hrow, _, hb⟩)
  go_ret
  exact ⟨_, rfl, hrow, hb⟩

set_option maxHeartbeats 1000000 in
/-- slices.SortedFunc(slices.Values(s), cmp). -/
theorem sortedFuncS (cf : Int × Int → Int × Int → Int) (hO : SWO (ltOf cf)) (g : Nat) (eg : ∀ args w, (callFunc g args).run Try.prog w = .ok (.enter g args) w)
    (hcmp : ∀ x y W, Calls Try.prog g #[.agg #[.int .i64 x.1, .int .i64 x.2], .agg #[.int .i64 y.1, .int .i64 y.2]] W fun e w' => e = .returned (.int .i64 (cf x y)) ∧ ∃ q os', w' = grow (W.drewN q) os')
    (Bs : Nat) (A : Option Addr) (len cap : Nat) (zs : List (Int × Int)) (w : World) (hBs : Bs < w.heap.size) (hreach : len * 16 ≤ 140737488351232) (hc : w.cell? ⟨Bs, 0, none⟩ = some (.slice A len cap)) (hI : SpansAt w A len zs) :
    Calls Try.prog 69 #[.func (.func 108) #[] #[.pointer (some ⟨Bs, 0, none⟩)], .func (.func g) #[] #[]] w fun e w' => ∃ A' cap' ds, e = .returned (.slice A' len cap') ∧ SortedBy cf zs ds ∧ SpansAt w' A' len ds ∧ Below w.heap.size w w' := by
  have hz := hI.1
  have hcol : Calls Try.prog 106 #[.func (.func 108) #[] #[.pointer (some ⟨Bs, 0, none⟩)]] w fun e W' => ∃ v, e = .returned v ∧ W'.ownsRow w.heap.size 35 2 v zs.length (cellsS zs) ∧ Below w.heap.size w W' :=
    (callsIn_wide (n := 4)).1 (collectS Fence.wide 4 trivial trivial rfl (by omega) _ trivial (enters_of Try.func108 (by kernel_rfl) rfl) _ zs (by rw [hz]; unfold maxLen; omega) (by rw [hz]; omega) w
      (fun W hW => valuesS_stops Fence.wide (4 - 2) trivial rfl (by omega) Bs A len cap zs hreach w W (Nat.lt_of_lt_of_le hBs hW.size) hW.size ((hW.cell (p := ⟨Bs, 0, none⟩) hBs).trans hc) hI hW))
  have hsrt := fun v W => sortFuncS cf hO g eg hcmp w.heap.size v zs W
  have HC := Lib.hid hcol
  have HS := Lib.hid hsrt
  clear hcol hsrt hI hc hcmp hO
  subst hz
  go_enter Try.func69, Try.ntmps69
  go_wp2_with fail
  refine HC.out.mono ?_
  rintro e w1 ⟨v, rfl, hrow, hb⟩
  have R := Lib.hid (HS.out v w1 hrow hb.size (by omega))
  go_wp2_with fail
  refine R.out.mono ?_
  rintro e w2 ⟨rfl, A', cap', ds, rfl, hsb, hsp, hb2⟩
  go_wp2
  go_ret
  exact ⟨_, _, ds, rfl, hsb, hsp, hb.trans hb2⟩
end Go.Proofs.Ytlfkkfdolnkjfaa
namespace Go.Proofs.Ytlfkkfdolnkjfaa
open Go.RowKit Go.Shelf Go.Sort

/-- The comparison that Union sorts by; one step of its merge; the merge. -/
def loC (x y : Int × Int) : Int := cmpI x.1 y.1
def lastS (out : List (Int × Int)) : Int × Int := out.getD (out.length - 1) (0, 0)
def stepS (out : List (Int × Int)) (s : Int × Int) : List (Int × Int) := if 0 < out.length ∧ s.1 ≤ (lastS out).2 + 1 then out.set (out.length - 1) ((lastS out).1, max (lastS out).2 s.2) else out ++ [s]
def mergeS (ds : List (Int × Int)) : List (Int × Int) := ds.foldl stepS []
theorem mergeS_snoc (ds : List (Int × Int)) (s : Int × Int) : mergeS (ds ++ [s]) = stepS (mergeS ds) s := by simp [mergeS]
theorem stepS_grow {out : List (Int × Int)} {s : Int × Int} (h : ¬ (0 < out.length ∧ s.1 ≤ (lastS out).2 + 1)) : stepS out s = out ++ [s] := if_neg h
theorem stepS_join {out : List (Int × Int)} {s : Int × Int} (h : 0 < out.length) (h2 : s.1 ≤ (lastS out).2 + 1) : stepS out s = out.set (out.length - 1) ((lastS out).1, max (lastS out).2 s.2) := if_pos ⟨h, h2⟩
theorem lastS_mem {out : List (Int × Int)} (h : 0 < out.length) : lastS out ∈ out := by
  unfold lastS
  rw [List.getD_eq_getElem?_getD, List.getElem?_eq_getElem (by omega)]
  exact List.getElem_mem _
theorem stepS_ok {out : List (Int × Int)} {s : Int × Int} (h : ∀ z ∈ out, vS z.1 z.2 = true) (hs : vS s.1 s.2 = true) : ∀ z ∈ stepS out s, vS z.1 z.2 = true := by
  intro z hz
  unfold stepS at hz
  split at hz
  · next hc =>
    rcases List.mem_or_eq_of_mem_set hz with hz | rfl
    · exact h z hz
    · have h1 := vS_true.1 (h _ (lastS_mem hc.1))
      have h2 := vS_true.1 hs
      exact vS_true.2 (by simp only; omega)
  · rcases List.mem_append.1 hz with hz | hz
    · exact h z hz
    · rw [List.mem_singleton.1 hz]; exact hs
theorem stepS_length (out : List (Int × Int)) (s : Int × Int) : (stepS out s).length ≤ out.length + 1 := by
  unfold stepS
  split
  · rw [List.length_set]; omega
  · simp
theorem mergeS_inv (ds : List (Int × Int)) (h : ∀ z ∈ ds, vS z.1 z.2 = true) : (mergeS ds).length ≤ ds.length ∧ ∀ z ∈ mergeS ds, vS z.1 z.2 = true := by
  suffices H : ∀ ds out : List (Int × Int), (∀ z ∈ out, vS z.1 z.2 = true) → (∀ z ∈ ds, vS z.1 z.2 = true) → (ds.foldl stepS out).length ≤ out.length + ds.length ∧ ∀ z ∈ ds.foldl stepS out, vS z.1 z.2 = true by
    have := H ds [] (by simp) h
    simpa [mergeS] using this
  intro ds
  induction ds with
  | nil => intro out ho _; exact ⟨by simp, ho⟩
  | cons s ds ih =>
    intro out ho hd
    have := ih (stepS out s) (stepS_ok ho (hd s (by simp))) (fun z hz => hd z (by simp [hz]))
    have h2 := stepS_length out s
    refine ⟨?_, this.2⟩
    have := this.1
    simp only [List.foldl_cons, List.length_cons] at *
    omega
theorem cellsS_set (m : Int) (zs : List (Int × Int)) : ∀ j, j < zs.length → (cellsS zs).set (j * 2 + 1) (.int .i64 m) = cellsS (zs.set j ((zs.getD j (0, 0)).1, m)) := by
  induction zs with
  | nil => intro j hj; simp at hj
  | cons z zs ih =>
    intro j hj
    have e : ∀ (y : Int × Int) ys, cellsS (y :: ys) = .int .i64 y.1 :: .int .i64 y.2 :: cellsS ys := fun y ys => by simp [cellsS]
    cases j with
    | zero => simp [e]
    | succ j =>
      have := ih j (by simpa using hj)
      rw [e, show (j + 1) * 2 + 1 = (j * 2 + 1) + 1 + 1 by omega]
      simp only [List.set_cons_succ, e]
      rw [this]
      simp

theorem isnan_any (a : Int) (w : World) : Calls Try.prog 109 #[.int .i64 a] w fun e w' => e = .returned (.bool false) ∧ w' = w := by
  go_enter Try.func109, Try.ntmps109
  go_wp2
  go_ret
  exact ⟨by simp, rfl⟩
theorem compare_any (a b : Int) (w : World) : Calls Try.prog 72 #[.int .i64 a, .int .i64 b] w fun e w' => e = .returned (.int .i64 (cmpI a b)) ∧ w' = w := by
  have h := fun x => isnan_any x w
  have H := Lib.hid h; clear h
  unfold cmpI
  by_cases h1 : a < b
  · rw [if_pos h1]
    go_enter Try.func72, Try.ntmps72
    go_wp2_with fail
    refine (H.out a).mono ?_
    rintro e w1 ⟨rfl, rfl⟩
    go_wp2_with fail
    refine (H.out b).mono ?_
    rintro e w1 ⟨rfl, rfl⟩
    go_wp2
    go_ret
    exact ⟨rfl, rfl⟩
  · rw [if_neg h1]
    have g1 : decide (a < b) = false := decide_eq_false h1
    by_cases h2 : b < a
    · rw [if_pos h2]
      go_enter Try.func72, Try.ntmps72
      go_wp2_with fail
      refine (H.out a).mono ?_
      rintro e w1 ⟨rfl, rfl⟩
      go_wp2_with fail
      refine (H.out b).mono ?_
      rintro e w1 ⟨rfl, rfl⟩
      go_wp2
      go_ret
      exact ⟨rfl, rfl⟩
    · rw [if_neg h2]
      have g2 : decide (b < a) = false := decide_eq_false h2
      go_enter Try.func72, Try.ntmps72
      go_wp2_with fail
      refine (H.out a).mono ?_
      rintro e w1 ⟨rfl, rfl⟩
      go_wp2_with fail
      refine (H.out b).mono ?_
      rintro e w1 ⟨rfl, rfl⟩
      go_wp2
      go_ret
      exact ⟨rfl, rfl⟩
theorem union2_any (x y : Int × Int) (W : World) : Calls Try.prog 71 #[.agg #[.int .i64 x.1, .int .i64 x.2], .agg #[.int .i64 y.1, .int .i64 y.2]] W fun e w' => e = .returned (.int .i64 (loC x y)) ∧ ∃ q os', w' = grow (W.drewN q) os' := by
  have h := fun W' => compare_any x.1 y.1 W'
  unfold loC
  have H := Lib.hid h; clear h
  go_enter Try.func71, Try.ntmps71
  go_wp2_with fail
  refine (H.out _).mono ?_
  rintro e w' ⟨rfl, rfl⟩
  go_wp2
  go_ret
  exact ⟨rfl, 0, _, by rw [alloc_eq_grow, alloc_eq_grow, grow_grow]; rfl⟩
theorem union1_any (lo hi : Int) (w : World) : Calls Try.prog 67 #[.agg #[.int .i64 lo, .int .i64 hi]] w (RB w (.bool (!vS lo hi))) := by
  have h := fun W' => svalid_any lo hi W'
  have H := Lib.hid h; clear h
  go_enter Try.func67, Try.ntmps67
  go_wp2_with fail
  refine (H.out _).mono ?_
  rintro e w' ⟨rfl, rfl⟩
  go_wp2
  go_ret
  exact ⟨by simp, by (repeat' (first | (with_reducible exact Below.refl _ _) | (with_reducible refine Below.alloc ?_ ?_ _) | (simp; done) | omega))⟩

/-- What Union returns. -/
def UnionR (w : World) (zs : List (Int × Int)) (e : Ending) (w' : World) : Prop := Below w.heap.size w w' ∧
  ((badS zs = true ∧ e = .returned (.tuple #[.slice none 0 0, .int .i64 3])) ∨ (badS zs = false ∧ 64 < zs.length ∧ e = .returned (.tuple #[.slice none 0 0, .int .i64 8])) ∨
   (badS zs = false ∧ zs.length ≤ 64 ∧ ∃ ds A' cap', SortedBy loC zs ds ∧ e = .returned (.tuple #[.slice A' (mergeS ds).length cap', .int .i64 0]) ∧ SpansAt w' A' (mergeS ds).length (mergeS ds)))
def URel (w1 : World) (base len : Nat) (ds : List (Int × Int)) (G : Nat) (v i : Value) (wr : World) : Prop :=
  ∃ q : Nat, q ≤ len ∧ G = len - q ∧ i = .int .i64 q ∧ (∃ A cap, v = .slice A (mergeS (ds.take q)).length cap) ∧ wr.ownsRow base 35 2 v (mergeS (ds.take q)).length (cellsS (mergeS (ds.take q))) ∧ Below base w1 wr
theorem spans_of_own {w : World} {base : Nat} {A : Option Addr} {cap : Nat} {zs : List (Int × Int)} (h : w.ownsRow base 35 2 (.slice A zs.length cap) zs.length (cellsS zs)) (hm : zs.length ≤ 9223372036854775807) : SpansAt w A zs.length zs := by
  refine ⟨rfl, hm, fun hl => ?_⟩
  obtain ⟨g, c, e, _, hg⟩ := h.form hl
  cases e
  refine ⟨g, 0, rfl, hg, fun j hj => ?_⟩
  obtain ⟨h1, h2⟩ := cellsS_get zs j hj
  refine ⟨?_, ?_⟩
  · rw [Nat.zero_add, h.cellAt _ (by omega)]; exact h1
  · rw [Nat.zero_add, h.cellAt _ (by omega)]; exact h2
theorem own2 {w : World} {base : Nat} {e : TypeId} {size : Nat} {v : Value} {n : Nat} {xs : List Value} (h : w.ownsRow base e size v n xs) (o : Obj) (m : Nat) (o2 : Obj) : (((w.alloc o).drewN m).alloc o2).ownsRow base e size v n xs := by
  have h1 : ((w.alloc o).drewN m).ownsRow base e size v n xs := h.alloc o
  exact h1.alloc o2
theorem news2 {w : World} {cs : Array Value} {t : TypeId} (o : Obj) (m : Nat) (fr : Unit) : ∀ j u, cs.toList[j]? = some u → (((w.alloc o).drewN m).alloc (.cells cs t)).cell? ((⟨w.heap.size + 1, 0, none⟩ : Addr).add j) = some u :=
  World.news_of_block (t := t) (fr := (0, 0)) (by have := heap_alloc_new ((w.alloc o).drewN m) (.cells cs t); simpa using this)
theorem round_join {base : Nat} {e : TypeId} {size : Nat} {g n cap : Nat} {xs : List Value} {w3 wr : World} {o : Obj} {m : Nat} (hb : Below base w3 wr) (hw : base ≤ wr.heap.size) (hg : base ≤ g) (hr : wr.ownsRow base e size (.slice (some ⟨g, 0, none⟩) n cap) n xs) (j : Nat) (u : Value) :
    (((wr.alloc o).drewN m).setCell ⟨g, j, none⟩ u).ownsRow base e size (.slice (some ⟨g, 0, none⟩) n cap) n (xs.set j u) ∧ Below base w3 (((wr.alloc o).drewN m).setCell ⟨g, j, none⟩ u) := by
  have h0 := hb.alloc hw o
  have h1 : Below base w3 ((wr.alloc o).drewN m) := ⟨h0.os, h0.tape, h0.output, h0.size, h0.block⟩
  have h2 : ((wr.alloc o).drewN m).ownsRow base e size (.slice (some ⟨g, 0, none⟩) n cap) n xs := hr.alloc o
  exact ⟨(h2.stored j u).1, h1.setCell hg _⟩
theorem round_append {base : Nat} {e : TypeId} {size : Nat} {v : Value} {n : Nat} {xs : List Value} {w3 wr w' : World} {o : Obj} {m : Nat} {o2 : Obj} (hb : Below base w3 wr) (hw : base ≤ wr.heap.size) (hr : wr.ownsRow base e size v n xs) (hg : (((wr.alloc o).drewN m).alloc o2).grownBy w' v.ownBlock) : Below base w3 w' := by
  have h0 := hb.alloc hw o
  have h1 : Below base w3 ((wr.alloc o).drewN m) := ⟨h0.os, h0.tape, h0.output, h0.size, h0.block⟩
  have hs : base ≤ ((wr.alloc o).drewN m).heap.size := by show base ≤ (wr.alloc o).heap.size; simp; omega
  exact (h1.alloc hs o2).grown hg (by have h2 := ((hr.alloc o).lt); simp only [World.size_alloc]; omega) (fun k hk => (hr.lt k hk).1)

set_option maxRecDepth 100000 in
set_option maxHeartbeats 4000000 in
theorem union_any (A : Option Addr) (len cap : Nat) (zs : List (Int × Int)) (w : World) (h : SpansAt w A len zs) : Calls Try.prog 24 #[.slice A len cap] w (UnionR w zs) := by
  have hz := h.1
  have hc := contS 67 (enters_of Try.func67 (by kernel_rfl) rfl) (fun lo hi => !vS lo hi) union1_any A len cap zs w h
  rw [show anyS (fun lo hi => !vS lo hi) zs = badS zs from rfl] at hc
  have H := Lib.hid h; clear h
  rcases hbad : badS zs
  · rw [hbad] at hc
    have HC := Lib.hid hc; clear hc
    have HB := Lib.hid hbad; clear hbad
    subst hz
    by_cases hl : 64 < zs.length
    · have gl : decide (64 < (zs.length : Int)) = true := decide_eq_true (by omega)
      go_enter Try.func24, Try.ntmps24
      go_wp2_with fail
      refine HC.out.mono ?_
      rintro e w1 ⟨rfl, hb1⟩
      go_wp2
      refine bodyPost_ret (v := .tuple #[.slice none 0 0, .int .i64 8]) (by simp [results, Try.results24, go_sem, *]) rfl ⟨hb1, .inr (.inl ⟨HB.out, hl, rfl⟩)⟩
    · have gl : decide (64 < (zs.length : Int)) = false := decide_eq_false (by omega)
      go_enter Try.func24, Try.ntmps24
      go_wp2_with fail
      refine HC.out.mono ?_
      rintro e w1 ⟨rfl, hb1⟩
      have HV := Lib.hid ((callsIn_wide (n := 1)).1 (valuesS_in Fence.wide 1 trivial rfl A zs.length cap w1))
      go_wp2_with fail
      refine HV.out.mono ?_
      rintro e w2 ⟨rfl, rfl⟩
      have hI1 := (H.out.below hb1).alloc (.cells #[.slice A zs.length cap] 43)
      have HS := Lib.hid (sortedFuncS loC loSwo 71 (enters_of Try.func71 (by kernel_rfl) rfl) union2_any w1.heap.size A zs.length cap zs (w1.alloc (.cells #[.slice A zs.length cap] 43)) (by simp) (by omega) (by simp) hI1)
      clear hI1
      go_wp2_with fail
      refine HS.out.mono ?_
      rintro e w3 ⟨A', cap', ds, rfl, hsb, hsp, hb3⟩
      have hb03 : Below w.heap.size w w3 := hb1.trans (((Below.refl _ w1).alloc (Nat.le_refl _) _ |>.trans (hb3.mono (by simp))).mono hb1.size)
      clear hb3
      have S := Lib.hid hsp
      have hdl := hsp.1
      have SB := Lib.hid hsb
      clear hsp hsb
      generalize zs.length = len at *
      go_wp2
      go_loopg [4, 19] len (fun G v i wr => URel w3 w3.heap.size len ds G v i wr)
      case atStart => exact ⟨0, by omega, by omega, rfl, ⟨none, 0, rfl⟩, World.ownsRow_nil _ _ _ _, Below.refl _ _⟩
      case round =>
        obtain ⟨q, hq, rfl, rfl, ⟨Ao, co, rfl⟩, hrow, hbel⟩ := hrel
        obtain ⟨i0, hi, hz0, hz1, hz2⟩ := info_parts infoSpan
        by_cases hlt : q < len
        · obtain ⟨b, off, rfl, hb, hcs⟩ := S.out.2.2 (by omega)
          obtain ⟨c0, c1⟩ := hcs q hlt
          have c0 := (hbel.cell (p := ⟨b, off + q * 2, none⟩) hb).trans c0
          have c1 := (hbel.cell (p := ⟨b, off + q * 2 + 1, none⟩) hb).trans c1
          clear hcs
          have hmem : ds.getD q (0, 0) ∈ ds := by rw [List.getD_eq_getElem?_getD, List.getElem?_eq_getElem (by omega)]; exact List.getElem_mem _
          have hvz : ∀ z ∈ ds, vS z.1 z.2 = true := fun z hz => by
            have h1 := List.any_eq_false.1 HB.out z (SB.out.1.mem_iff.1 hz)
            simpa using h1
          have hm : mergeS (ds.take (q + 1)) = stepS (mergeS (ds.take q)) (ds.getD q (0, 0)) := by rw [take_snoc' (0, 0) ds (by omega), mergeS_snoc]
          have hv := hvz _ hmem
          have hok := (mergeS_inv (ds.take q) (fun z hz => hvz z (List.mem_of_mem_take hz))).2
          have hsmall := (mergeS_inv (ds.take q) (fun z hz => hvz z (List.mem_of_mem_take hz))).1
          rw [List.length_take] at hsmall
          clear hmem hvz
          generalize ds.getD q (0, 0) = z at *
          obtain ⟨x, y⟩ := z
          dsimp only at c0 c1 hv
          generalize mergeS (ds.take q) = out at *
          have HM := Lib.hid hm; clear hm
          have HO := Lib.hid hok; clear hok
          have hW := hbel.size
          have hbW : b < wr.heap.size := Nat.lt_of_lt_of_le hb hW
          obtain ⟨v1, v2, v3⟩ := vS_true.1 hv
          clear hv
          have n64 : out.length ≤ 64 := by omega
          by_cases h0 : out.length = 0
          · have g0 : decide (0 < (out.length : Int)) = false := decide_eq_false (by omega)
            obtain rfl : out = [] := List.eq_nil_of_length_eq_zero h0
            simp only [List.length_nil] at hrow g0
            go_wp2_with fail
            go_quiet (fail)
            go_wp2_with (first | (at_builtin; refine wpList_append_own _ rfl _ _ 43 rfl w3.heap.size 35 i0 (.agg #[.int .i64 0, .int .i64 0]) 2 16 Try.underlying43 hi hz0 hz1 hz2 rfl (by decide) _ _ _ rfl (own2 hrow _ _ _) ⟨_, 0, none⟩ 1 1 [.int .i64 x, .int .i64 y] rfl rfl (news2 (cs := #[.int .i64 x, .int .i64 y]) _ _ ()) (by simp [Value.oneCell']) (by unfold maxLen; omega) (by omega) (by simp; omega) ?_; intro v' w' hown' hgrow _))
            obtain ⟨g', c', rfl⟩ := ownsRow_succ hown'
            go_roundg (len - (q + 1))
            case measure => omega
            case rel =>
              refine ⟨q + 1, by omega, by omega, by go_num, ?_, ?_, round_append hbel hW hrow hgrow⟩
              · rw [HM.out, stepS_grow (by simp)]; exact ⟨some ⟨g', 0, none⟩, c', by simp⟩
              · rw [HM.out, stepS_grow (by simp), cellsS_snoc]; simpa using hown'
          · have g0 : decide (0 < (out.length : Int)) = true := decide_eq_true (by omega)
            have g0n : 0 < out.length := by omega
            obtain ⟨g, c, e, hg1, hg2⟩ := hrow.form (by omega)
            cases e
            obtain ⟨d0, d1⟩ := cellsS_get out (out.length - 1) (by omega)
            rw [← hrow.cellAt _ (by omega)] at d0 d1
            have f1 := fun i => hrow.frozenAt i
            have hl := HO.out _ (lastS_mem (by omega))
            rw [show out.getD (out.length - 1) (0, 0) = lastS out from rfl] at d0 d1
            have wn : IntKind.i64.wrap ((out.length : Int) - 1) = ((out.length - 1 : Nat) : Int) := by rw [show ((out.length : Int) - 1) = ((out.length - 1 : Nat) : Int) by omega]; simp [IntKind.wrap, IntKind.bits, IntKind.signed]; omega
            have hlt1 : out.length - 1 < out.length := by omega
            obtain ⟨l1, l2, l3⟩ := vS_true.1 hl
            have HL := Lib.hid (show (lastS out) = ((lastS out).1, (lastS out).2) from rfl)
            clear hl
            generalize (lastS out).1 = lo at *
            generalize (lastS out).2 = hi' at *
            have wh : IntKind.i64.wrap (hi' + 1) = hi' + 1 := by simp [IntKind.wrap, IntKind.bits, IntKind.signed]; omega
            by_cases hj : x ≤ hi' + 1
            · have gj : decide (x ≤ hi' + 1) = true := decide_eq_true hj
              go_wp2_with fail
              go_quiet (fail)
              go_wp2
              have hmx : max hi' y = max hi' y := rfl
              go_region
              go_wp2
              go_roundg (len - (q + 1))
              case measure => omega
              case rel =>
                have hyes : stepS out (x, y) = out.set (out.length - 1) (lo, max hi' y) := by rw [stepS_join g0n (by rw [HL.out]; exact hj), HL.out]
                have hset : cellsS (out.set (out.length - 1) (lo, max hi' y)) = (cellsS out).set ((out.length - 1) * 2 + 1) (.int .i64 (max hi' y)) := by
                  rw [cellsS_set _ out _ hlt1, show out.getD (out.length - 1) (0, 0) = lastS out from rfl, HL.out]
                obtain ⟨r1, r2⟩ := round_join (o := .cells #[.int .i64 x, .int .i64 y] 35) (m := nq + 1) hbel hW hg1 hrow ((out.length - 1) * 2 + 1) (.int .i64 (max hi' y))
                refine ⟨q + 1, by omega, by omega, by go_num, ?_, ?_, r2⟩
                · rw [HM.out, hyes, List.length_set]; exact ⟨some ⟨g, 0, none⟩, co, rfl⟩
                · rw [HM.out, hyes, List.length_set, hset]; exact r1
            · have gj : decide (x ≤ hi' + 1) = false := decide_eq_false hj
              go_wp2_with fail
              go_quiet (fail)
              go_wp2_with (first | (at_builtin; refine wpList_append_own _ rfl _ _ 43 rfl w3.heap.size 35 i0 (.agg #[.int .i64 0, .int .i64 0]) 2 16 Try.underlying43 hi hz0 hz1 hz2 rfl (by decide) _ _ _ rfl (own2 hrow _ _ _) ⟨_, 0, none⟩ 1 1 [.int .i64 x, .int .i64 y] rfl rfl (news2 (cs := #[.int .i64 x, .int .i64 y]) _ _ ()) (by simp [Value.oneCell']) (by unfold maxLen; omega) (by omega) (by simp; omega) ?_; intro v' w' hown' hgrow _))
              have hno : ¬ (0 < out.length ∧ (x, y).1 ≤ (lastS out).2 + 1) := fun h => by rw [HL.out] at h; have := h.2; dsimp only at this; omega
              obtain ⟨g', c', rfl⟩ := ownsRow_succ hown'
              go_roundg (len - (q + 1))
              case measure => omega
              case rel =>
                refine ⟨q + 1, by omega, by omega, by go_num, ?_, ?_, round_append hbel hW hrow hgrow⟩
                · rw [HM.out, stepS_grow hno]; exact ⟨some ⟨g', 0, none⟩, c', by simp⟩
                · rw [HM.out, stepS_grow hno, cellsS_snoc]; simpa using hown'
        · obtain rfl : q = len := by omega
          have ht : ds.take q = ds := List.take_of_length_le (by omega)
          rw [ht] at hrow
          have hmi := (mergeS_inv ds (fun z hz => by
            have h1 := List.any_eq_false.1 HB.out z (SB.out.1.mem_iff.1 hz)
            simpa using h1)).1
          have HT := Lib.hid ht; clear ht
          have hsp := Lib.hid (spans_of_own hrow (by omega))
          have HR := Lib.hid hb03; clear hb03
          have hbel' : Below w.heap.size w wr := HR.out.trans (hbel.mono HR.out.size)
          go_wp2
          refine bodyPost_ret (v := .tuple #[.slice Ao (mergeS ds).length co, .int .i64 0]) (by simp [results, Try.results24, go_sem, HT.out]) rfl ⟨hbel', .inr (.inr ⟨HB.out, by have := H.out.1; omega, ds, Ao, co, SB.out, rfl, hsp.out⟩)⟩
  · rw [hbad] at hc
    have HC := Lib.hid hc; clear hc
    have HB := Lib.hid hbad; clear hbad
    go_enter Try.func24, Try.ntmps24
    go_wp2_with fail
    refine HC.out.mono ?_
    rintro e w1 ⟨rfl, hb1⟩
    go_wp2
    refine bodyPost_ret (v := .tuple #[.slice none 0 0, .int .i64 3]) (by simp [results, Try.results24, go_sem, *]) rfl ⟨hb1, .inl ⟨HB.out, rfl⟩⟩
end Go.Proofs.Ytlfkkfdolnkjfaa
