/- Texts joined: FrameD, CalmD -/
import Derived.Deep.SlicePairs
import Derived.Lib.SmallJoins
import Derived.Test.YtlnboheahbfgfaaGreatJ0
import Derived.Test.YtlnboheahbfgfaaGreatJ32
import Derived.Test.YtlnboheahbfgfaaGreatJ10
namespace Go.Proofs.YtlnboheahbfgfaaGreat
open Go.ChangeShapes Go.WideShapes Go.ChangeAt Go.RowKit Go.Deep Go.Joins
set_option linter.unusedSimpArgs false
set_option linter.unusedVariables false

section
variable {H : Type} {enc : TypeId × Value → H} {W : World} {base : Nat}
def numC (W : World) (a : Addr) : Int := match W.cell? a with
 | some (.int _ n) => n
 | _ => 0
theorem numC_of {a : Addr} {n : Int} (h : W.cell? a = some (.int .i64 n)) : W.cell? a = some (.int .i64 (numC W a)) := by unfold numC; rw [h]
theorem take_one {l : List Value} {j : Nat} {v : Value} (h : (l.drop j).take 1 = [v]) : l[j]? = some v := by
 have h1 := congrArg (fun x => x[0]?) h
 simpa [List.getElem?_take, List.getElem?_drop] using h1
theorem come_nums {te e : TypeId} {fuel : Nat} {cs : List Value} {x : DataW H × List MemPlace} (ht : Tryz.prog.underlying te = some (.slice e)) (ce : Tryz.prog.cellsOf e = 1) (t0 : Tryz.prog.underlying e = some (.int .i64))
  (h : DataW.trod enc Tryz.prog W 0 (fun _ => true) true fuel te cs = some x) : ∃ (A : Option Addr) (len cap : Nat) (zs : List Int), cs = [.slice A len cap] ∧ NsAt W A len zs := by
 rcases open_slice ht h with ⟨rfl, -⟩ | ⟨a, len, cap, m, n, D, Pl, rfl, -, hl, hm, hmm, -, hx⟩
 ·exact ⟨none, 0, 0, [], rfl, rfl, by omega, by omega⟩
 ·unfold maxLen at hm
  have hmc : m = cap := by rw [hmm]; rfl
  have each : ∀ i, i < len → ∃ y : Int, W.cell? (a.add i) = some (.int .i64 y) := fun i hi => by
   obtain ⟨cs', h1, h2⟩ := hx i (by omega)
   rw [ce] at h1
   obtain ⟨_, hlen, hcell⟩ := World.cells?_some h1
   obtain ⟨y, e0, _, _⟩ := DataW.trod_int t0 h2
   subst e0
   have := hcell 0 (by omega)
   rw [add_add] at this
   exact ⟨y, by simpa using this⟩
  refine ⟨some a, len, cap, (List.range len).map fun i => numC W (a.add i), rfl, by simp, by omega, fun h0 => ?_⟩
  obtain ⟨b, off, spot⟩ := a
  obtain ⟨y, hc⟩ := each 0 h0
  have hspot : spot = none := by simpa [Addr.add] using World.cell?_spot hc
  subst hspot
  have ea : ∀ k, (⟨b, off, none⟩ : Addr).add k = ⟨b, off + k, none⟩ := fun k => by unfold Addr.add; split <;> simp_all
  refine ⟨b, off, rfl, World.block_lt_of_cell? W _ (by simpa [Addr.add] using hc), fun j hj => ?_⟩
  obtain ⟨y, hy⟩ := each j hj
  have h9 := numC_of hy
  rw [List.getD_eq_getElem?_getD, List.getElem?_map, List.getElem?_range hj, ← ea]
  exact h9
set_option maxRecDepth 100000 in
theorem step_cells {n : Nat} {cs' : List Value} {x : DataW H × List MemPlace} (h2 : DataW.trod enc Tryz.prog W 0 (fun _ => true) true n 57 cs' = some x) : ∀ j, j < 11 → ∃ y : Int, cs'[j]? = some (.int .i64 y) := by
 obtain ⟨xs, k, -, -, hcl, hxl, hf⟩ := DataW.trod_struct Tryz.underlying57 h2
 have hxl' : xs.length = 11 := hxl
 have ci : Tryz.prog.cellsOf 3 = 1 := by kernel_rfl
 have one : ∀ j, j < 11 → ∀ (g : DataW.trod enc Tryz.prog W 0 (fun _ => true) true k 3 ((cs'.drop j).take (Tryz.prog.cellsOf 3)) = xs[j]?), ∃ y : Int, cs'[j]? = some (.int .i64 y) := fun j hj g => by
  rw [List.getElem?_eq_getElem (by omega), ci] at g
  obtain ⟨y, e0, _, _⟩ := DataW.trod_int Tryz.underlying3 g
  exact ⟨y, take_one e0⟩
 intro j hj
 obtain rfl | rfl | rfl | rfl | rfl | rfl | rfl | rfl | rfl | rfl | rfl : j = 0 ∨ j = 1 ∨ j = 2 ∨ j = 3 ∨ j = 4 ∨ j = 5 ∨ j = 6 ∨ j = 7 ∨ j = 8 ∨ j = 9 ∨ j = 10 := by omega
 ·have g := hf 0 _ rfl
  exact one 0 hj g
 ·have g := hf 1 _ rfl
  exact one 1 hj g
 ·have g := hf 2 _ rfl
  exact one 2 hj g
 ·have g := hf 3 _ rfl
  exact one 3 hj g
 ·have g := hf 4 _ rfl
  exact one 4 hj g
 ·have g := hf 5 _ rfl
  exact one 5 hj g
 ·have g := hf 6 _ rfl
  exact one 6 hj g
 ·have g := hf 7 _ rfl
  exact one 7 hj g
 ·have g := hf 8 _ rfl
  exact one 8 hj g
 ·have g := hf 9 _ rfl
  exact one 9 hj g
 ·have g := hf 10 _ rfl
  exact one 10 hj g
set_option maxRecDepth 100000 in
theorem come_stps {fuel : Nat} {cs : List Value} {x : DataW H × List MemPlace} (h : DataW.trod enc Tryz.prog W 0 (fun _ => true) true fuel 52 cs = some x) :
  ∃ (A : Option Addr) (len cap : Nat) (xs : List Stp), cs = [.slice A len cap] ∧ StpsAt W A len xs := by
 rcases open_slice Tryz.underlying52 h with ⟨rfl, -⟩ | ⟨a, len, cap, m, n, D, Pl, rfl, -, hl, hm, hmm, -, hx⟩
 ·exact ⟨none, 0, 0, [], rfl, rfl, by omega, by omega⟩
 ·unfold maxLen at hm
  have hmc : m = cap := by rw [hmm]; rfl
  have ce : Tryz.prog.cellsOf 57 = 11 := by kernel_rfl
  have each : ∀ i, i < len → ∀ j, j < 11 → ∃ y : Int, W.cell? (a.add (i * 11 + j)) = some (.int .i64 y) := fun i hi j hj => by
   obtain ⟨cs', h1, h2⟩ := hx i (by omega)
   rw [ce] at h1
   obtain ⟨_, hlen, hcell⟩ := World.cells?_some h1
   obtain ⟨y, hy⟩ := step_cells h2 j hj
   have h9 := hcell j (by omega)
   rw [add_add] at h9
   exact ⟨y, h9.trans (by first | exact hy | simpa using hy)⟩
  refine ⟨some a, len, cap, (List.range len).map fun i => (⟨numC W (a.add (i * 11 + 0)), numC W (a.add (i * 11 + 1)), numC W (a.add (i * 11 + 2)), numC W (a.add (i * 11 + 3)), numC W (a.add (i * 11 + 4)), numC W (a.add (i * 11 + 5)), numC W (a.add (i * 11 + 6)), numC W (a.add (i * 11 + 7)), numC W (a.add (i * 11 + 8)), numC W (a.add (i * 11 + 9)), numC W (a.add (i * 11 + 10))⟩ : Stp), rfl, by simp, by omega, fun h0 => ?_⟩
  obtain ⟨b, off, spot⟩ := a
  obtain ⟨y, hc⟩ := each 0 h0 0 (by omega)
  have hspot : spot = none := by simpa [Addr.add] using World.cell?_spot hc
  subst hspot
  have ea : ∀ k, (⟨b, off, none⟩ : Addr).add k = ⟨b, off + k, none⟩ := fun k => by unfold Addr.add; split <;> simp_all
  refine ⟨b, off, rfl, World.block_lt_of_cell? W _ (by simpa [Addr.add] using hc), fun j hj i hi => ?_⟩
  obtain ⟨y, hy⟩ := each j hj i hi
  have h9 := numC_of hy
  rw [List.getD_eq_getElem?_getD, List.getElem?_map, List.getElem?_range hj, Nat.add_assoc, ← ea]
  obtain rfl | rfl | rfl | rfl | rfl | rfl | rfl | rfl | rfl | rfl | rfl : i = 0 ∨ i = 1 ∨ i = 2 ∨ i = 3 ∨ i = 4 ∨ i = 5 ∨ i = 6 ∨ i = 7 ∨ i = 8 ∨ i = 9 ∨ i = 10 := by omega
  all_goals exact h9
theorem array7 {α : Type} {cs : Array α} (h : cs.size = 7) : ∃ c0 c1 c2 c3 c4 c5 c6, cs = #[c0, c1, c2, c3, c4, c5, c6] := by
 obtain ⟨l⟩ := cs
 match l, h with
 | [c0, c1, c2, c3, c4, c5, c6], _ => exact ⟨c0, c1, c2, c3, c4, c5, c6, rfl⟩
set_option maxRecDepth 100000 in
theorem come_sched {v : Value} {d : DataW H} {p : List MemPlace} (hv : Value.okWide Tryz.prog W .any base 54 v) (h : DataW.Trod enc Tryz.prog W 0 (fun _ => true) true 54 v d p) :
  ∃ (S : Sch) (A SA : Option Addr) (c sc : Nat), v = .agg #[.int .i64 S.sta, .int .i64 S.loc, .int .i64 S.p, .int .i64 S.li, .int .i64 S.ai, .slice A S.es.length c, .slice SA S.xs.length sc] ∧ SchAt W S A SA := by
 obtain ⟨cs, rfl, hsz⟩ := okWide_struct Tryz.underlying54 hv
 have hC : Tryz.prog.cellsOf 54 = 7 := by kernel_rfl
 obtain ⟨v0, v1, v2, v3, v4, v5, v6, rfl⟩ := array7 (hsz.trans hC)
 obtain ⟨fuel, hf⟩ := h
 simp only [Value.cells] at hf
 obtain ⟨xs, k, -, -, hcl, hxl, hg⟩ := DataW.trod_struct Tryz.underlying54 hf
 have hxl' : xs.length = 7 := hxl
 have ci : Tryz.prog.cellsOf 3 = 1 := by kernel_rfl
 have cs1 : Tryz.prog.cellsOf 22 = 1 := by kernel_rfl
 have cs2 : Tryz.prog.cellsOf 52 = 1 := by kernel_rfl
 have one : ∀ (j : Nat) (u : Value), j < 7 → ([v0, v1, v2, v3, v4, v5, v6] : List Value)[j]? = some u → ∀ (g : DataW.trod enc Tryz.prog W 0 (fun _ => true) true k 3 ((([v0, v1, v2, v3, v4, v5, v6] : List Value).drop j).take (Tryz.prog.cellsOf 3)) = xs[j]?), ∃ y : Int, u = .int .i64 y := fun j u hj hu g => by
  rw [List.getElem?_eq_getElem (by omega), ci] at g
  obtain ⟨y, e0, _, _⟩ := DataW.trod_int Tryz.underlying3 g
  have := take_one e0
  rw [hu] at this
  exact ⟨y, by injection this⟩
 have z0 := hg 0 _ rfl
 obtain ⟨y0, e0⟩ := one 0 v0 (by omega) rfl z0
 have z1 := hg 1 _ rfl
 obtain ⟨y1, e1⟩ := one 1 v1 (by omega) rfl z1
 have z2 := hg 2 _ rfl
 obtain ⟨y2, e2⟩ := one 2 v2 (by omega) rfl z2
 have z3 := hg 3 _ rfl
 obtain ⟨y3, e3⟩ := one 3 v3 (by omega) rfl z3
 have z4 := hg 4 _ rfl
 obtain ⟨y4, e4⟩ := one 4 v4 (by omega) rfl z4
 subst e0; subst e1; subst e2; subst e3; subst e4
 have g5 : DataW.trod enc Tryz.prog W 0 (fun _ => true) true k 22 (([Value.int .i64 y0, .int .i64 y1, .int .i64 y2, .int .i64 y3, .int .i64 y4, v5, v6].drop 5).take (Tryz.prog.cellsOf 22)) = xs[5]? := by have g := hg 5 _ rfl; exact g
 have g6 : DataW.trod enc Tryz.prog W 0 (fun _ => true) true k 52 (([Value.int .i64 y0, .int .i64 y1, .int .i64 y2, .int .i64 y3, .int .i64 y4, v5, v6].drop 6).take (Tryz.prog.cellsOf 52)) = xs[6]? := by have g := hg 6 _ rfl; exact g
 rw [List.getElem?_eq_getElem (by omega), cs1] at g5
 rw [List.getElem?_eq_getElem (by omega), cs2] at g6
 obtain ⟨A, len, cap, zs, e5, n5⟩ := come_nums Tryz.underlying22 ci Tryz.underlying3 g5
 obtain ⟨SA, slen, scap, ys, e6, n6⟩ := come_stps g6
 obtain rfl : v5 = .slice A len cap := by simpa using e5
 obtain rfl : v6 = .slice SA slen scap := by simpa using e6
 obtain rfl := n5.1
 obtain rfl := n6.1
 exact ⟨⟨y0, y1, y2, y3, y4, zs, ys⟩, A, SA, cap, scap, rfl, n5, n6⟩
end
end Go.Proofs.YtlnboheahbfgfaaGreat
namespace Go.Proofs.YtlnboheahbfgfaaGreat
open Go
section
variable {P : Program} {ops : Array Oper}
def updB (D : Nat → Bool) (i : Nat) : Nat → Bool := fun j => if j = i then true else D j
@[simp] theorem updB_self {D : Nat → Bool} {i : Nat} : updB D i i = true := by simp [updB]
structure DSpec (P : Program) (ops : Array Oper) (Q : Exit → Act → World → Prop) (C : (Nat → Bool) → (Nat → Value) → World → Prop) (R : World → World → Prop) (Fs : List (List Value → Value → World → Prop)) (Ds : List (List Nat)) (a : Act) : Prop where
 keep : ∀ (i : Nat) (f : List Value → Value → World → Prop), Fs[i]? = some f → ∀ d v w w', R w w' → f d v w → f d v w'
 step : ∀ (i : Nat) (o : Oper) (f : List Value → Value → World → Prop), ops[i]? = some o → Fs[i]? = some f → ∀ (u : Nat → Value) (w : World) (D : Nat → Bool), D i = false → (∀ j, calmReach ops ops.size j i = true → D j = false) → (∀ j, calmReach ops ops.size i j = true → D j = true) → C D u w → calmKnown Fs Ds u w (Ds.getD i []) →
  ∀ K : Act → World → Prop, (∀ v w', C (updB D i) (upd u i v) w' → R w w' → f ((Ds.getD i []).map u) v w' → K ((calmPut ops.toList u 0 a).put o.dst v) w') → wpOp P ops Q i K (calmPut ops.toList u 0 a) w
 last : ∀ (u : Nat → Value) (w : World) (D : Nat → Bool), (∀ i, i < ops.size → D i = true) → C D u w → calmFacts u w Fs Ds 0 → Q .normal (calmPut ops.toList u 0 a) w

variable {Q : Exit → Act → World → Prop} {C : (Nat → Bool) → (Nat → Value) → World → Prop} {R : World → World → Prop} {Fs : List (List Value → Value → World → Prop)} {Ds : List (List Nat)} {a : Act}

theorem calm_anyD (S : DSpec P ops Q C R Fs Ds a) (hlen : Fs.length = ops.size) (hB : calmB ops Ds [] = true) :
  ∀ (fuel : Nat) (listed : Array Bool) (u : Nat → Value) (w : World), listed.size = ops.size → Closed ops listed → (listed.toList.filter (! ·)).length ≤ fuel → C (fun j => listed.getD j false) u w →
   (∀ (j : Nat) (f : List Value → Value → World → Prop), Fs[j]? = some f → listed.getD j false = true → f ((Ds.getD j []).map u) (u j) w) → wpAny P .any ops Q fuel listed (calmPut ops.toList u 0 a) w := by
 simp only [calmB, Bool.and_eq_true, List.all_eq_true, List.mem_range] at hB
 obtain ⟨⟨⟨⟨hB1, hB2⟩, hB3⟩, hB4⟩, hB5⟩ := hB
 have back : ∀ i o, ops[i]? = some o → ∀ e ∈ o.after, Region.binds .any e = true → e.on < i := by
  intro i o ho e he hb
  have h := hB1 i (Array.getElem?_eq_some_iff.1 ho).1
  simp only [ho, Option.map_some, Option.getD_some, Array.all_eq_true] at h
  obtain ⟨n, hn, rfl⟩ := Array.getElem_of_mem he
  have h2 := h n hn
  simp only [hb, Bool.not_true, Bool.false_or, decide_eq_true_eq] at h2
  exact h2
 have dist : ∀ (p q : Nat) (o o' : Oper), ops.toList[p]? = some o → ops.toList[q]? = some o' → q < p → ∀ x, o.dst = some x → o'.dst ≠ some x := by
  intro p q o o' hp hq hqp x hx hx'
  rw [Array.getElem?_toList] at hp hq
  have h := hB2 p (Array.getElem?_eq_some_iff.1 hp).1 q hqp
  simp [hp, hq, hx, hx'] at h
 -- none ready: all are listed
 have all : ∀ listed : Array Bool, listed.size = ops.size → Region.ready .any ops listed = [] → ∀ i, i < ops.size → listed.getD i false = true := by
  intro listed hs hr i
  induction i using Nat.strongRecOn with
  | ind i ih =>
   intro hi
   rcases h : listed.getD i false with _ | _
   ·exfalso
    have hmem : i ∈ Region.ready .any ops listed := by
     rw [mem_ready]
     refine ⟨?_, ops[i], by simp [hi], fun e he hb => ih e.on (back i _ (by simp [hi]) e he hb) (Nat.lt_trans (back i _ (by simp [hi]) e he hb) hi)⟩
     rw [Array.getD_eq_getD_getElem?, Array.getElem?_eq_getElem (by omega)] at h ⊢
     exact h
    rw [hr] at hmem; cases hmem
   ·rfl
 have done : ∀ (listed : Array Bool) (u : Nat → Value) (w : World), listed.size = ops.size → C (fun j => listed.getD j false) u w → (∀ (j : Nat) (f : List Value → Value → World → Prop), Fs[j]? = some f → listed.getD j false = true → f ((Ds.getD j []).map u) (u j) w) → Region.ready .any ops listed = [] → Q .normal (calmPut ops.toList u 0 a) w := by
  intro listed u w hs hC hF hr
  have hall := all listed hs hr
  refine S.last u w _ hall hC (facts_of _ _ _ fun j f hf => ?_)
  have hj : j < ops.size := by rw [← hlen]; exact (List.getElem?_eq_some_iff.1 hf).1
  simpa using hF j f hf (hall j hj)
 intro fuel
 induction fuel with
 | zero =>
  intro listed u w hs hcl hfu hC hF
  have hr : Region.ready .any ops listed = [] := by
   cases hr : Region.ready .any ops listed with
   | nil => rfl
   | cons i l =>
    exfalso
    have hi : i ∈ Region.ready .any ops listed := by rw [hr]; simp
    obtain ⟨h0, o, ho, _⟩ := mem_ready.1 hi
    have hlt : i < listed.size := by rw [hs]; exact (Array.getElem?_eq_some_iff.1 ho).1
    rw [Array.getD_eq_getD_getElem?, Array.getElem?_eq_getElem hlt] at h0
    have : listed[i] ∈ listed.toList.filter (! ·) := by
     rw [List.mem_filter]; exact ⟨by simp, by simpa using h0⟩
    have h1 := List.length_pos_of_mem this
    omega
  exact ⟨hr, done listed u w hs hC hF hr⟩
 | succ fuel ih =>
  intro listed u w hs hcl hfu hC hF
  refine ⟨fun hr => done listed u w hs hC hF hr, fun i hi => ?_⟩
  obtain ⟨h0, o, ho, hall⟩ := mem_ready.1 hi
  have hlt : i < ops.size := (Array.getElem?_eq_some_iff.1 ho).1
  have hf : Fs[i]? = some (Fs[i]'(by omega)) := List.getElem?_eq_getElem _
  have h0' : listed.getD i false = false := by
   rw [Array.getD_eq_getD_getElem?, Array.getElem?_eq_getElem (by omega)] at h0 ⊢; exact h0
  have kn : ∀ j, calmReach ops ops.size i j = true → listed.getD j false = true := fun j hj => reach_listed hcl _ i j o ho hall hj
  have un : ∀ j, calmReach ops ops.size j i = true → listed.getD j false = false := by
   intro j hj
   rcases h : listed.getD j false with _ | _
   ·rfl
   ·exfalso
    cases hoj : ops[j]? with
    | none => cases hsz : ops.size with
     | zero => omega
     | succ s => rw [hsz] at hj; simp [calmReach, hoj] at hj
    | some oj =>
     have := reach_listed hcl _ j i oj hoj (fun e he hb => hcl j oj hoj h e he hb) hj
     rw [h0'] at this; cases this
  refine S.step i o _ ho hf u w (fun j => listed.getD j false) h0' un kn hC (known_of _ fun j hj f hjf => ?_) _ (fun v w' hC' hR hv => ?_)
  ·refine hF j f hjf (kn j ?_)
   have := hB3 i hlt
   exact this j hj
  ·have e : (calmPut ops.toList u 0 a).put o.dst v = calmPut ops.toList (upd u i v) 0 a := by
    have := calmPut_upd v ops.toList u 0 i a (by simpa using hlt) dist
    simpa [ho] using this
   rw [e]
   refine ih _ _ _ (by simpa using hs) ?_ ?_ ?_ ?_
   ·intro j oj hoj hlj e2 he2 hb2
    by_cases hji : j = i
    ·subst hji; rw [ho] at hoj; cases hoj
     exact getD_set_true (hall e2 he2 hb2)
    ·rw [getD_set_ne false (Ne.symm hji)] at hlj
     exact getD_set_true (hcl j oj hoj hlj e2 he2 hb2)
   ·have h1 : ((listed.setIfInBounds i true).toList.filter (! ·)).length < (listed.toList.filter (! ·)).length := by
     have hil : i < listed.toList.length := by simp; omega
     have hx : listed.toList[i] = false := by
      rw [Array.getD_eq_getD_getElem?, Array.getElem?_eq_getElem (by omega)] at h0
      simpa using h0
     have e1 : listed.toList = listed.toList.take i ++ false :: listed.toList.drop (i + 1) := by
      rw [← hx, List.getElem_cons_drop, List.take_append_drop]
     have e2 : (listed.setIfInBounds i true).toList = listed.toList.take i ++ true :: listed.toList.drop (i + 1) := by
      rw [Array.toList_setIfInBounds, List.set_eq_take_append_cons_drop, if_pos hil]
     rw [e2]
     conv => rhs; rw [e1]
     simp
    omega
   ·have e2 : (fun j => (listed.setIfInBounds i true).getD j false) = updB (fun j => listed.getD j false) i := by
     funext j
     unfold updB
     by_cases hj : j = i
     ·subst hj; rw [if_pos rfl]; simp [Array.getD_eq_getD_getElem?, hs, hlt]
     ·rw [if_neg hj]; exact getD_set_ne false (Ne.symm hj)
    rw [e2]; exact hC'
   ·intro j f hjf hlj
    have same : (Ds.getD j []).map (upd u i v) = (Ds.getD j []).map u := by
     refine List.map_congr_left fun k hk => ?_
     have hj : j < ops.size := by rw [← hlen]; exact (List.getElem?_eq_some_iff.1 hjf).1
     have hr := hB3 j hj k hk
     have hki : k ≠ i := by
      intro e; subst e
      by_cases hji : j = k
      ·subst hji
       have := un j hr
       have h2 := kn j hr
       rw [h0'] at h2; cases h2
      ·rw [getD_set_ne false (Ne.symm hji)] at hlj
       have := un j hr
       rw [hlj] at this; cases this
     simp [upd, hki]
    rw [same]
    by_cases hji : j = i
    ·subst hji
     rw [hf] at hjf; cases hjf
     simpa [upd] using hv
    ·rw [getD_set_ne false (Ne.symm hji)] at hlj
     simp only [upd, hji, if_false]
     exact S.keep j f hjf _ _ _ _ hR (hF j f hjf hlj)

def DStep (P : Program) (ops : Array Oper) (Q : Exit → Act → World → Prop) (C : (Nat → Bool) → (Nat → Value) → World → Prop) (R : World → World → Prop) (Fs : List (List Value → Value → World → Prop)) (Ds : List (List Nat)) (A : (Nat → Value) → Act) (o : Oper) (f : List Value → Value → World → Prop) (d : List Nat) (i : Nat) : Prop :=
 ∀ (u : Nat → Value) (w : World) (D : Nat → Bool), D i = false → (∀ j, calmReach ops ops.size j i = true → D j = false) → (∀ j, calmReach ops ops.size i j = true → D j = true) → C D u w → calmKnown Fs Ds u w d → ∀ K : Act → World → Prop,
  (∀ a' v w', a' = (A u).put o.dst v → C (updB D i) (upd u i v) w' → R w w' → f (d.map u) v w' → K a' w') →
  if Region.wanted o (yielded ops (A u).tmps) = true then Oper.wp P o (A u) w K Q else K ((A u).put o.dst undef) w
def DSteps (P : Program) (ops : Array Oper) (Q : Exit → Act → World → Prop) (C : (Nat → Bool) → (Nat → Value) → World → Prop) (R : World → World → Prop) (Fs : List (List Value → Value → World → Prop)) (Ds : List (List Nat)) (A : (Nat → Value) → Act) : List Oper → List (List Value → Value → World → Prop) → List (List Nat) → Nat → Prop
 | [], _, _, _ => True
 | o :: l, f :: fs, d :: ds, i => DStep P ops Q C R Fs Ds A o f d i ∧ DSteps P ops Q C R Fs Ds A l fs ds (i + 1)
 | _ :: _, _, _, _ => False
variable {A : (Nat → Value) → Act}
theorem dSteps_nil {fs : List (List Value → Value → World → Prop)} {ds : List (List Nat)} {i : Nat} : DSteps P ops Q C R Fs Ds A [] fs ds i := by unfold DSteps; trivial
theorem dSteps_cons {o : Oper} {l : List Oper} {f : List Value → Value → World → Prop} {fs : List (List Value → Value → World → Prop)} {d : List Nat} {ds : List (List Nat)} {i : Nat}
  (h : DStep P ops Q C R Fs Ds A o f d i) (h' : DSteps P ops Q C R Fs Ds A l fs ds (i + 1)) : DSteps P ops Q C R Fs Ds A (o :: l) (f :: fs) (d :: ds) i := ⟨h, h'⟩
theorem dSteps_of : ∀ {l : List Oper} {fs : List (List Value → Value → World → Prop)} {ds : List (List Nat)} {i : Nat}, DSteps P ops Q C R Fs Ds A l fs ds i → ∀ (j : Nat) (o : Oper) (f : List Value → Value → World → Prop), l[j]? = some o → fs[j]? = some f →
  DStep P ops Q C R Fs Ds A o f (ds.getD j []) (i + j)
 | [], _, _, _, _, _, _, _, h, _ => by simp at h
 | o :: l, [], ds, i, h, _, _, _, _, _ => by unfold DSteps at h; exact h.elim
 | o :: l, f :: fs, [], i, h, _, _, _, _, _ => by unfold DSteps at h; exact h.elim
 | o :: l, f :: fs, d :: ds, i, h, 0, o', f', h1, h2 => by
  simp at h1 h2; subst h1; subst h2
  exact h.1
 | o :: l, f :: fs, d :: ds, i, h, j + 1, o', f', h1, h2 => by
  have := dSteps_of h.2 j o' f' (by simpa using h1) (by simpa using h2)
  rw [show i + 1 + j = i + (j + 1) by omega] at this
  simpa [List.getD] using this
theorem wp_region_calmD {id : Nat} {l : List Oper} {Q : Exit → Act → World → Prop} {a : Act} {w : World} (hm : P.follows .mixedOrders = true)
  (C : (Nat → Bool) → (Nat → Value) → World → Prop) (R : World → World → Prop) (Fs : List (List Value → Value → World → Prop)) (Ds : List (List Nat))
  (hlen : Fs.length = l.length) (hB : calmB l.toArray Ds [] = true) (hA : ∀ u, calmPut l u 0 a = A u) (hC : C (fun _ => false) (fun j => ((l[j - 0]?).bind (·.dst)).bind (a.tmps[·]?) |>.getD undef) w.drew) (hk : CalmKeep R Fs)
  (hs : DSteps P l.toArray Q C R Fs Ds A l Fs Ds 0) (hl : ∀ (u : Nat → Value) (w' : World) (D : Nat → Bool), (∀ i, i < l.length → D i = true) → C D u w' → calmFacts u w' Fs Ds 0 → Q .normal (A u) w') :
  (Code.region id l.toArray true).wp P Q a w := by
 refine wp_region_any hm ?_
 have S : DSpec P l.toArray Q C R Fs Ds a := by
  refine ⟨calmKeep_of hk, fun i o f ho hf u w D h0 hn hn2 hC hkn K hK => ?_, fun u w' D h0 h1 h2 => by rw [show l.toArray.toList = l from rfl, hA]; exact hl u w' D (by simpa using h0) h1 h2⟩
  refine calm_wanted ho ?_
  rw [show l.toArray.toList = l from rfl, hA] at *
  have h := dSteps_of hs i o f (by simpa using ho) hf
  rw [Nat.zero_add] at h
  exact h u w D h0 hn hn2 hC hkn K (fun a' v w' he h1 h2 h3 => he ▸ hK v w' h1 h2 h3)
 have h := calm_anyD S (by simpa using hlen) hB l.toArray.size (Array.replicate l.toArray.size false) (fun j => ((l[j - 0]?).bind (·.dst)).bind (a.tmps[·]?) |>.getD undef) w.drew (by simp) ?_ ?_ ?_ ?_
 ·rw [show l.toArray.toList = l from rfl, calmPut_self] at h
  exact h
 ·intro i o _ hl
  exfalso
  rw [Array.getD_eq_getD_getElem?] at hl
  simp [Array.getElem?_replicate] at hl
  split at hl <;> simp at hl
 ·exact Nat.le_trans (List.length_filter_le _ _) (by simp)
 ·have e2 : (fun j => (Array.replicate l.toArray.size false).getD j false) = fun _ => false := by
   funext j
   simp only [Array.getD_eq_getD_getElem?, Array.getElem?_replicate]
   split <;> rfl
  rw [e2]; exact hC
 ·intro j f _ hl
  exfalso
  simp only [Array.getD_eq_getD_getElem?, Array.getElem?_replicate] at hl
  split at hl <;> simp at hl
end
theorem dc1 {P : Program} {ops : Array Oper} {Q : Exit → Act → World → Prop} {C : (Nat → Bool) → (Nat → Value) → World → Prop} {R : World → World → Prop} {Fs : List (List Value → Value → World → Prop)} {Ds : List (List Nat)} {A : (Nat → Value) → Act} {o : Oper} {l : List Oper} {f : List Value → Value → World → Prop} {fs : List (List Value → Value → World → Prop)} {d : List Nat} {ds : List (List Nat)} {i : Nat} (h : ∀ (u : Nat → Value) (w : World) (D : Nat → Bool), C D u w → calmKnown Fs Ds u w d → ∀ K : Act → World → Prop, (∀ a' v w', a' = (A u).put o.dst v → C (updB D i) (upd u i v) w' → R w w' → f (d.map u) v w' → K a' w') → if Region.wanted o (yielded ops (A u).tmps) = true then Oper.wp P o (A u) w K Q else K ((A u).put o.dst undef) w) (h' : DSteps P ops Q C R Fs Ds A l fs ds (i + 1)) : DSteps P ops Q C R Fs Ds A (o :: l) (f :: fs) (d :: ds) i := dSteps_cons (fun u w D _ _ _ hC hk K hK => h u w D hC hk K hK) h'
theorem dc0 {P : Program} {ops : Array Oper} {Q : Exit → Act → World → Prop} {C : (Nat → Bool) → (Nat → Value) → World → Prop} {R : World → World → Prop} {Fs : List (List Value → Value → World → Prop)} {Ds : List (List Nat)} {A : (Nat → Value) → Act} {o : Oper} {l : List Oper} {f : List Value → Value → World → Prop} {fs : List (List Value → Value → World → Prop)} {d : List Nat} {ds : List (List Nat)} {i : Nat} (h : ∀ (u : Nat → Value) (w : World) (D : Nat → Bool), C D u w → ∀ K : Act → World → Prop, (∀ a' v w', a' = (A u).put o.dst v → C (updB D i) (upd u i v) w' → R w w' → f (d.map u) v w' → K a' w') → if Region.wanted o (yielded ops (A u).tmps) = true then Oper.wp P o (A u) w K Q else K ((A u).put o.dst undef) w) (h' : DSteps P ops Q C R Fs Ds A l fs ds (i + 1)) : DSteps P ops Q C R Fs Ds A (o :: l) (f :: fs) (d :: ds) i := dSteps_cons (fun u w D _ _ _ hC _ K hK => h u w D hC K hK) h'
end Go.Proofs.YtlnboheahbfgfaaGreat
