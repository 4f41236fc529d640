/- Texts joined: Sim7, Sim8, SimU -/
import Derived.Test.YtlnboheahbfgfaaGreatSched
import Derived.Test.YtlnboheahbfgfaaGreatSim6
import Derived.Test.YtlnboheahbfgfaaGreatJ4
import Derived.Test.YtlnboheahbfgfaaGreatR41L
import Derived.Test.YtlnboheahbfgfaaGreatR41R
namespace Go.Proofs.YtlnboheahbfgfaaGreat
open Go.RowKit Go.Shelf Go.Sort
set_option linter.unusedSimpArgs false
set_option linter.unusedVariables false

def S41 : Sch := ⟨0, 0, 0, 0, 0, [2], [⟨0, 0, 0, 5, 5, 0, 0, 3, 3, 0, 0⟩]⟩
def R41 : Rep := ⟨8, 8, true, 3, 15, ⟨0, 1000000, true, false, 8, 3⟩⟩
theorem mg41 {x y er : Int} (h : MG [⟨8, 3, 15, 0, 0, 0⟩] 8 0 x y er) : x = 3 ∧ y = 15 ∧ er = 0 := by
 have hn : nowK 8 ⟨8, 3, 15, 0, 0, 0⟩ = (3, 15, 0) := by kernel_rfl
 have hs : spK 8 ⟨8, 3, 15, 0, 0, 0⟩ = (3, 15) := by unfold spK; rw [hn]
 rcases h with ⟨h9, -⟩ | ⟨-, i, hi, -, h9, -⟩ | ⟨-, -, hax⟩
 ·simp at h9
 ·obtain rfl : i = 0 := by simpa using hi
  exact absurd (show (nowK 8 ⟨8, 3, 15, 0, 0, 0⟩).2.2 = 0 by rw [hn]) h9
 ·simp only [lm1, lm0, hs] at hax
  have hck : ckE [((3 : Int), (15 : Int))] = 0 := by decide +kernel
  have hq : qE [((3 : Int), (15 : Int))] 0 = 0 := by decide +kernel
  obtain ⟨e1, a1, a2, -⟩ := AX_truth (t := 3) hax hq (by decide +kernel)
  obtain ⟨-, b1, b2, -⟩ := AX_truth (t := 15) hax hq (by decide +kernel)
  obtain ⟨-, c1, c2, -⟩ := AX_ends hax e1
  obtain ⟨z, hz, d1, d2⟩ := cnt_mem (zs := [((3 : Int), (15 : Int))]) (t := x) (by simpa using c1)
  obtain ⟨z', hz', f1, f2⟩ := cnt_mem (zs := [((3 : Int), (15 : Int))]) (t := y) (by simpa using c2)
  obtain rfl : z = (3, 15) := by simpa using hz
  obtain rfl : z' = (3, 15) := by simpa using hz'
  simp only at d1 d2 f1 f2
  exact ⟨by omega, by omega, e1⟩
theorem run41 {m : Sim} {rs : List Rep} (h : RunN S41 1 m rs) : rs = [R41] := by
 obtain ⟨m0, r0, ⟨x, y, er⟩, ⟨rfl, rfl⟩, h2, -, h4⟩ := h
 have e1 : knowns (S41.hear S41.init (S41.xs.getD 0 .zero)) = [⟨8, 3, 15, 0, 0, 0⟩] := by kernel_rfl
 rw [e1] at h2
 obtain ⟨rfl, rfl, rfl⟩ := mg41 (show MG [⟨8, 3, 15, 0, 0, 0⟩] 8 0 x y er from h2)
 have e2 : S41.rep S41.init (S41.xs.getD 0 .zero) (3, 15, 0) = R41 := by kernel_rfl
 rw [e2] at h4
 exact h4
theorem ns1 {w : World} {g : Nat} {a : Int} {t : TypeId} (hB : Blk w g t #[.int .i64 a]) : NsAt w (some ⟨g, 0, none⟩) 1 [a] := by
 refine ⟨rfl, by omega, fun _ => ⟨g, 0, rfl, hB.lt, fun j hj => ?_⟩⟩
 obtain rfl : j = 0 := by omega
 rw [hB.cell]; rfl
theorem st1 {w : World} {g : Nat} {x : Stp} {t : TypeId} (hB : Blk w g t x.cs.toArray) : StpsAt w (some ⟨g, 0, none⟩) 1 [x] := by
 refine ⟨rfl, by omega, fun _ => ⟨g, 0, rfl, hB.lt, fun j hj i hi => ?_⟩⟩
 obtain rfl : j = 0 := by omega
 rw [hB.cell]; simp
theorem chk41 : chkE S41 = 0 := by decide +kernel
theorem RowR.cells {w : World} {base c : Nat} {A : Option Addr} {rs : List Rep} (h : RowR w base (.slice A rs.length c) rs) {q : Nat} (hq : q < rs.length) : ∃ g, A = some ⟨g, 0, none⟩ ∧ base ≤ g ∧ g < w.heap.size ∧ ∀ i, i < 11 → w.cell? ⟨g, q * 11 + i, none⟩ = (rs.getD q .zero).cs[i]? := by
 obtain ⟨g, cur, e, hb, hB, hc⟩ := own_cur h (by omega)
 refine ⟨g, e, hb, hB.lt, fun i hi => ?_⟩
 rw [hB.cell, hc _ (by omega)]
 exact rCells_get rs q i hq hi
set_option maxRecDepth 100000 in
set_option maxHeartbeats 4000000 in
theorem known41_any  (w : World) :
  Calls Tryz.prog 26 #[] w (RB w (.bool true)) := by
 have HK := hYd (show Kp w w from Below.refl _ _)
 have R1 := hYd (fun A SA c sc W h => irun_any S41 A SA c sc W h)
 dsimp only [S41, List.length_cons, List.length_nil, Nat.zero_add] at R1
 go_enter Tryz.func26, Tryz.ntmps26
 go_wp2_with fail
 refine (R1.out (some ⟨w.heap.size, 0, none⟩) (some ⟨w.heap.size + 1, 0, none⟩) 1 1 _ ⟨ns1 (by first | exact (Blk.new _ _ _).alloc _ | exact Blk.alloc (Blk.new _ _ _) _), st1 (by first | exact Blk.new1 _ _ _ _ | exact Blk.newE (by simp))⟩).mono ?_
 rintro e w1 ⟨-, h2, hb⟩
 obtain ⟨m, rs, A, c, hr, rfl, hrow⟩ := h2 chk41
 obtain rfl := run41 hr
 have S1 : Below w.heap.size w w1 := kept_call hb bl0
 have Z1 := S1.size
 clear h2 hr hb
 obtain ⟨g, rfl, hg, lg, hc⟩ := hrow.cells (q := 0) (by simp)
 have c0 := hc 0 (by omega); have c1 := hc 1 (by omega); have c2 := hc 2 (by omega); have c3 := hc 3 (by omega); have c4 := hc 4 (by omega); have c10 := hc 10 (by omega)
 simp only [R41, Rep.cs, Clk.cs, ld0, List.cons_append, List.nil_append, lg0, lg1, Nat.zero_mul, Nat.zero_add, Nat.add_zero] at c0 c1 c2 c3 c4 c10
 clear hc hrow
 go_wp2
 go_ret
 exact ⟨rfl, by (first | exact S1 | exact S1.drew)⟩
end Go.Proofs.YtlnboheahbfgfaaGreat
namespace Go.Proofs.YtlnboheahbfgfaaGreat
open Go.RowKit Go.Shelf Go.Sort
set_option linter.unusedSimpArgs false
set_option linter.unusedVariables false

theorem sch_good {sta loc p li ai : Int} {es : List Int} {xs : List Stp} {n : Int} {lying : Bool} (h : SchOk sta loc p li ai es xs n lying) (hn : n ≤ 16) : GoodS ⟨sta, loc, p, li, ai, es, xs⟩ := by
 obtain ⟨b1, b2, b3, b4, b5, b6, b7, b8, b9, b10, b11, b12, b13, b14, b15, b16⟩ := h
 have hst : ∀ x ∈ xs, stpE p es.length x = 0 := fun x hx => by
  obtain ⟨c1, c2, c3, c4, c5, c6, c7, c8, c9, c10, c11, c12, c13, c14, c15, c16, c17, c18, c19, c20, c21, c22, c23, c24, c25, c26, c27⟩ := b16 x hx
  unfold stpE
  rw [if_pos, if_pos]
  ·unfold Stp.ft
   simp only [Bool.and_eq_true, fitsB_true]
   exact ⟨c7, c12, c17, c22⟩
  ·unfold Stp.rg
   simp only [Bool.and_eq_true, decide_eq_true_eq, nearB_true, Stp.ls, List.all_cons, List.all_nil, lenB_true, and_true]
   refine ⟨c1, c2, ⟨?_, ?_, ?_, ?_, ?_, ?_, ?_, ?_⟩, ?_, ?_⟩ <;> omega
 refine ⟨?_, by show xs.length ≤ 20; omega, b1, b2, b3, b4, fun e he => (b13 e he).2, fun x hx => ?_⟩
 ·unfold chkE
  rw [if_neg (by show ¬ (es.length < 1 ∨ 8 < es.length ∨ 64 < xs.length); omega), if_pos]
  ·exact stpsE_none hst
  ·unfold Sch.rg
   simp only [Bool.and_eq_true, decide_eq_true_eq, nearB_true, List.all_eq_true, lenB_true]
   exact ⟨by omega, by omega, by omega, by omega, by omega, by omega, by omega, by omega, by omega, fun e he => by have := b13 e he; omega⟩
 ·obtain ⟨c1, c2, c3, c4, c5, c6, c7, c8, c9, c10, c11, c12, c13, c14, c15, c16, c17, c18, c19, c20, c21, c22, c23, c24, c25, c26, c27⟩ := b16 x hx
  refine ⟨c4, c9, c14, c19, c23, c24, c25, c26, fun hl => ?_⟩
  have hd : decide (x.src < li) = false := decide_eq_false (by have : li ≤ x.src := hl; omega)
  exact c27 (by rw [hd, Bool.and_false])
end Go.Proofs.YtlnboheahbfgfaaGreat
namespace Go.Proofs.YtlnboheahbfgfaaGreat
open Go.RowKit Go.Shelf Go.Sort
set_option linter.unusedSimpArgs false
set_option linter.unusedVariables false

def lz (s : Sch) : List Int := if chkE s = 0 then liesQ s s.es.length else []
def LieU (w : World) (s : Sch) (e : Ending) (w' : World) : Prop := ∃ (A : Option Addr) (c : Nat), e = .returned (.tuple #[.slice A (lz s).length c, .int .i64 (chkE s)]) ∧ NsAt w' A (lz s).length (lz s) ∧ Below w.heap.size w w'
theorem lz_len (s : Sch) : (lz s).length ≤ 8 := by
 unfold lz
 split
 ·rename_i h; have h1 := liesQ_len s s.es.length; have h2 := (chkE_0 h).2.1; omega
 ·simp
theorem ns_own {w : World} {base c : Nat} {A : Option Addr} {zs : List Int} (h : w.ownsRow base 3 1 (.slice A zs.length c) zs.length (ints zs)) (hl : zs.length ≤ 64) : NsAt w A zs.length zs := by
 refine ⟨rfl, by omega, fun h0 => ?_⟩
 obtain ⟨g, cur, e, -, hB, hc⟩ := own_cur h h0
 refine ⟨g, 0, e, hB.lt, fun j hj => ?_⟩
 rw [Nat.zero_add, hB.cell, hc j (by omega)]
 unfold ints
 rw [List.getElem?_map, List.getD_eq_getElem?_getD, List.getElem?_eq_getElem hj]; rfl
theorem LiesR.u {w w' : World} {s : Sch} {e : Ending} (h : LiesR w s e w') : LieU w s e w' := by
 obtain ⟨h1, h2, h3⟩ := h
 by_cases hc : chkE s = 0
 ·obtain ⟨A, c, e1, e2⟩ := h2 hc
  have hz : lz s = liesQ s s.es.length := by unfold lz; rw [if_pos hc]
  refine ⟨A, c, by rw [hz, hc]; exact e1, ?_, h3⟩
  have hl := lz_len s
  rw [hz] at hl ⊢
  exact ns_own e2 (by omega)
 ·have hz : lz s = [] := by unfold lz; rw [if_neg hc]
  refine ⟨none, 0, by rw [hz]; exact h1 hc, ?_, h3⟩
  rw [hz]
  exact ⟨rfl, by simp, fun h0 => by simp at h0⟩
theorem ilies_u (s : Sch) (A SA : Option Addr) (c sc : Nat) (w : World) (h : SchAt w s A SA) : Calls Tryz.prog 29 #[.agg #[.int .i64 s.sta, .int .i64 s.loc, .int .i64 s.p, .int .i64 s.li, .int .i64 s.ai, .slice A s.es.length c, .slice SA s.xs.length sc]] w (LieU w s) := (ilies_any s A SA c sc w h).mono fun _ _ h => h.u
theorem rlies_u (s : Sch) (A SA : Option Addr) (c sc : Nat) (w : World) (h : SchAt w s A SA) : Calls Tryz.prog 30 #[.agg #[.int .i64 s.sta, .int .i64 s.loc, .int .i64 s.p, .int .i64 s.li, .int .i64 s.ai, .slice A s.es.length c, .slice SA s.xs.length sc]] w (LieU w s) := (rlies_any s A SA c sc w h).mono fun _ _ h => h.u
def RepsAt (w : World) (A : Option Addr) (rs : List Rep) : Prop := ∀ q, q < rs.length → ∃ g, A = some ⟨g, 0, none⟩ ∧ g < w.heap.size ∧ ∀ i, i < 11 → w.cell? ⟨g, q * 11 + i, none⟩ = (rs.getD q .zero).cs[i]?
theorem RepsAt.below {w w' : World} {A : Option Addr} {rs : List Rep} (h : RepsAt w A rs) (hb : Below w.heap.size w w') : RepsAt w' A rs := fun q hq => by
 obtain ⟨g, e, hg, hc⟩ := h q hq
 refine ⟨g, e, Nat.lt_of_lt_of_le hg hb.size, fun i hi => ?_⟩
 have := hc i hi
 rw [List.getElem?_eq_getElem (show i < (rs.getD q .zero).cs.length from hi)] at this ⊢
 exact cell_below hb this
def RunZ (s : Sch) (rs : List Rep) : Prop := if chkE s = 0 then ∃ m, RunN s s.xs.length m rs else rs = []
theorem RunZ.uniq {s : Sch} {a b : List Rep} (h : RunZ s a) (k : RunZ s b) : a = b := by
 unfold RunZ at h k
 split at h
 ·rename_i hc
  rw [if_pos hc] at k
  obtain ⟨m, h⟩ := h; obtain ⟨m', k⟩ := k
  exact (RunN.uniq h k).2
 ·rename_i hc
  rw [if_neg hc] at k
  rw [h, k]
theorem RunZ.len {s : Sch} {a : List Rep} (h : RunZ s a) : a.length ≤ 64 := by
 unfold RunZ at h
 split at h
 ·rename_i hc
  obtain ⟨m, h⟩ := h
  rw [(RunN.len h).1]; exact (chkE_0 hc).2.2.1
 ·rw [h]; simp
def RunU (w : World) (s : Sch) (e : Ending) (w' : World) : Prop := ∃ (rs : List Rep) (A : Option Addr) (c : Nat), RunZ s rs ∧ e = .returned (.tuple #[.slice A rs.length c, .int .i64 (chkE s)]) ∧ RepsAt w' A rs ∧ Below w.heap.size w w'
theorem RunR.u {w w' : World} {s : Sch} {e : Ending} (h : RunR w s e w') : RunU w s e w' := by
 obtain ⟨h1, h2, h3⟩ := h
 by_cases hc : chkE s = 0
 ·obtain ⟨m, rs, A, c, hr, e1, e2⟩ := h2 hc
  refine ⟨rs, A, c, by unfold RunZ; rw [if_pos hc]; exact ⟨m, hr⟩, by rw [hc]; exact e1, fun q hq => ?_, h3⟩
  obtain ⟨g, e, -, hg, hx⟩ := e2.cells hq
  exact ⟨g, e, hg, hx⟩
 ·exact ⟨[], none, 0, by unfold RunZ; rw [if_neg hc], h1 hc, fun q hq => by simp at hq, h3⟩
theorem irun_u (s : Sch) (A SA : Option Addr) (c sc : Nat) (w : World) (h : SchAt w s A SA) : Calls Tryz.prog 24 #[.agg #[.int .i64 s.sta, .int .i64 s.loc, .int .i64 s.p, .int .i64 s.li, .int .i64 s.ai, .slice A s.es.length c, .slice SA s.xs.length sc]] w (RunU w s) := (irun_any s A SA c sc w h).mono fun _ _ h => h.u
theorem rrun_u (s : Sch) (A SA : Option Addr) (c sc : Nat) (w : World) (h : SchAt w s A SA) : Calls Tryz.prog 31 #[.agg #[.int .i64 s.sta, .int .i64 s.loc, .int .i64 s.p, .int .i64 s.li, .int .i64 s.ai, .slice A s.es.length c, .slice SA s.xs.length sc]] w (RunU w s) := (rrun_any s A SA c sc w h).mono fun _ _ h => h.u
def SmQRel (w : World) (n : Nat) (i : Value) (G : Nat) (wr : World) : Prop := ∃ q : Nat, q ≤ n ∧ G = n - q ∧ i = .int .i64 q ∧ Below w.heap.size w wr
set_option maxRecDepth 100000 in
set_option maxHeartbeats 1000000 in
theorem nsame41_yes (A B : Option Addr) (ca cb : Nat) (zs : List Int) (n : Nat) (hz : zs.length = n) (hm : n ≤ 64) (w : World) (h : NsAt w A n zs) (k : NsAt w B n zs) :
  Calls Tryz.prog 34 #[.slice A n ca, .slice B n cb] w (RB w (.bool true)) := by
 have HA := hYd h; have HB := hYd k; clear h k
 have g0 : decide ((n : Int) = (n : Int)) = true := decide_eq_true rfl
 go_enter Tryz.func34, Tryz.ntmps34
 go_wp2
 go_loopg [5] n (fun G i wr => SmQRel w n i G wr)
 case atStart => exact ⟨0, by omega, by omega, rfl, Below.refl _ _⟩
 case round =>
  obtain ⟨q, hq, rfl, rfl, KR⟩ := hrel
  have HK := hYd KR
  by_cases hlt : q < n
  ·have gq : decide ((q : Int) < (n : Int)) = true := decide_eq_true (by omega)
   have gqn : decide (q < n) = true := decide_eq_true hlt
   have wq : IntKind.i64.wrap ((q : Int) + 1) = ((q + 1 : Nat) : Int) := by rw [IntWalk.i64_in _ (by omega)]; omega
   obtain ⟨ga, oa, rfl, la, hca⟩ := (HA.out.below KR).2.2 (by omega)
   obtain ⟨gb, ob, rfl, lb, hcb⟩ := (HB.out.below KR).2.2 (by omega)
   have e1 := hca q hlt
   have e2 := hcb q hlt
   clear hca hcb KR HA HB
   generalize zs.getD q 0 = x at *
   go_wp2_with fail
   go_quiet (fail)
   go_wp2
   go_roundg (n - (q + 1))
   case measure => omega
   case rel => exact ⟨q + 1, by omega, by omega, by go_num, (have z9 := HK.out; bl1)⟩
  ·obtain rfl : q = n := by omega
   have gq : decide ((q : Int) < (q : Int)) = false := decide_eq_false (by omega)
   have gqn : decide (q < q) = false := decide_eq_false (by omega)
   clear KR
   go_wp2
   go_ret
   exact ⟨rfl, HK.out⟩
theorem partR1 (a0 a1 a3 a4 a5 a6 a9 a10 : Int) (a2 a7 a8 : Bool) (w : World) : (part 29 #[Value.int .i64 a0, Value.int .i64 a1, Value.bool a2, Value.int .i64 a3, Value.int .i64 a4, Value.int .i64 a5, Value.int .i64 a6, Value.bool a7, Value.bool a8, Value.int .i64 a9, Value.int .i64 a10] 3).run Tryz.prog w = .ok (.agg #[.int .i64 a3, .int .i64 a4]) w := by
 simp [part, go_sem]
theorem partR2 (a0 a1 a3 a4 a5 a6 a9 a10 : Int) (a2 a7 a8 : Bool) (w : World) : (part 62 #[Value.int .i64 a0, Value.int .i64 a1, Value.bool a2, Value.int .i64 a3, Value.int .i64 a4, Value.int .i64 a5, Value.int .i64 a6, Value.bool a7, Value.bool a8, Value.int .i64 a9, Value.int .i64 a10] 5).run Tryz.prog w = .ok (.agg #[.int .i64 a5, .int .i64 a6, .bool a7, .bool a8, .int .i64 a9, .int .i64 a10]) w := by
 simp [part, go_sem]
set_option maxRecDepth 100000 in
set_option maxHeartbeats 2000000 in
theorem rsame41_yes (A B : Option Addr) (ca cb : Nat) (rs : List Rep) (n : Nat) (hz : rs.length = n) (hm : n ≤ 64) (w : World) (h : RepsAt w A rs) (k : RepsAt w B rs) :
  Calls Tryz.prog 35 #[.slice A n ca, .slice B n cb] w (RB w (.bool true)) := by
 have HA := hYd h; have HB := hYd k; clear h k
 have HZ := hYd hz; clear hz
 have g0 : decide ((n : Int) = (n : Int)) = true := decide_eq_true rfl
 go_enter Tryz.func35, Tryz.ntmps35
 go_wp2
 go_loopg [5] n (fun G i wr => SmQRel w n i G wr)
 case atStart => exact ⟨0, by omega, by omega, rfl, Below.refl _ _⟩
 case round =>
  obtain ⟨q, hq, rfl, rfl, KR⟩ := hrel
  have HK := hYd KR
  by_cases hlt : q < n
  ·have gq : decide ((q : Int) < (n : Int)) = true := decide_eq_true (by omega)
   have gqn : decide (q < n) = true := decide_eq_true hlt
   have wq : IntKind.i64.wrap ((q : Int) + 1) = ((q + 1 : Nat) : Int) := by rw [IntWalk.i64_in _ (by omega)]; omega
   obtain ⟨ga, rfl, la, hca⟩ := (HA.out.below KR) q (by rw [HZ.out]; exact hlt)
   obtain ⟨gb, rfl, lb, hcb⟩ := (HB.out.below KR) q (by rw [HZ.out]; exact hlt)
   obtain ⟨r, hr⟩ : ∃ r, rs.getD q .zero = r := ⟨_, rfl⟩
   rw [hr] at hca hcb
   clear hr
   obtain ⟨a0, a1, a2, a3, a4, ⟨a5, a6, a7, a8, a9, a10⟩⟩ := r
   have da0 := hca 0 (by omega)
   have da1 := hca 1 (by omega)
   have da2 := hca 2 (by omega)
   have da3 := hca 3 (by omega)
   have da4 := hca 4 (by omega)
   have da5 := hca 5 (by omega)
   have da6 := hca 6 (by omega)
   have da7 := hca 7 (by omega)
   have da8 := hca 8 (by omega)
   have da9 := hca 9 (by omega)
   have da10 := hca 10 (by omega)
   have db0 := hcb 0 (by omega)
   have db1 := hcb 1 (by omega)
   have db2 := hcb 2 (by omega)
   have db3 := hcb 3 (by omega)
   have db4 := hcb 4 (by omega)
   have db5 := hcb 5 (by omega)
   have db6 := hcb 6 (by omega)
   have db7 := hcb 7 (by omega)
   have db8 := hcb 8 (by omega)
   have db9 := hcb 9 (by omega)
   have db10 := hcb 10 (by omega)
   simp only [Rep.cs, Clk.cs, List.cons_append, List.nil_append, lg0, lg1, Nat.add_zero] at da0 da1 da2 da3 da4 da5 da6 da7 da8 da9 da10 db0 db1 db2 db3 db4 db5 db6 db7 db8 db9 db10
   clear hca hcb KR HA HB HZ
   have pr1 := partR1 a0 a1 a3 a4 a5 a6 a9 a10 a2 a7 a8
   have pr2 := partR2 a0 a1 a3 a4 a5 a6 a9 a10 a2 a7 a8
   go_wp2_with fail
   go_quiet (fail)
   go_wp2
   go_roundg (n - (q + 1))
   case measure => omega
   case rel => exact ⟨q + 1, by omega, by omega, by go_num, (have z9 := HK.out; bl1)⟩
  ·obtain rfl : q = n := by omega
   have gq : decide ((q : Int) < (q : Int)) = false := decide_eq_false (by omega)
   have gqn : decide (q < q) = false := decide_eq_false (by omega)
   clear KR
   go_wp2
   go_ret
   exact ⟨rfl, HK.out⟩
end Go.Proofs.YtlnboheahbfgfaaGreat
