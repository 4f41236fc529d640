/- Texts joined: Sim7, Sim8 -/
import Derived.Test.YtlnboheahbfgfaaGreatSched
import Derived.Test.YtlnboheahbfgfaaGreatSim6
import Derived.Test.YtlnboheahbfgfaaGreatJ6
namespace Go.Proofs.YtlnboheahbfgfaaGreat
open Go.RowKit Go.Shelf Go.Sort
set_option linter.unusedSimpArgs false
set_option linter.unusedVariables false

def S41 : Sch := ⟨0, 0, 0, 0, 0, [2], [⟨0, 0, 0, 5, 5, 0, 0, 3, 3, 0, 0⟩]⟩
def R41 : Rep := ⟨8, 8, true, 3, 15, ⟨0, 1000000, true, false, 8, 3⟩⟩
theorem mg41 {x y er : Int} (h : MG [⟨8, 3, 15, 0, 0, 0⟩] 8 0 x y er) : x = 3 ∧ y = 15 ∧ er = 0 := by
  have hn : nowK 8 ⟨8, 3, 15, 0, 0, 0⟩ = (3, 15, 0) := by kernel_rfl
  have hs : spK 8 ⟨8, 3, 15, 0, 0, 0⟩ = (3, 15) := by unfold spK; rw [hn]
  rcases h with ⟨h9, -⟩ | ⟨-, i, hi, -, h9, -⟩ | ⟨-, -, hax⟩
  · simp at h9
  · obtain rfl : i = 0 := by simpa using hi
    exact absurd (show (nowK 8 ⟨8, 3, 15, 0, 0, 0⟩).2.2 = 0 by rw [hn]) h9
  · simp only [List.map_cons, List.map_nil, hs] at hax
    have hck : ckE [((3 : Int), (15 : Int))] = 0 := by decide +kernel
    have hq : qE [((3 : Int), (15 : Int))] 0 = 0 := by decide +kernel
    obtain ⟨e1, a1, a2, -⟩ := AX_truth (t := 3) hax hq (by decide +kernel)
    obtain ⟨-, b1, b2, -⟩ := AX_truth (t := 15) hax hq (by decide +kernel)
    obtain ⟨-, c1, c2, -⟩ := AX_ends hax e1
    obtain ⟨z, hz, d1, d2⟩ := cnt_mem (zs := [((3 : Int), (15 : Int))]) (t := x) (by simpa using c1)
    obtain ⟨z', hz', f1, f2⟩ := cnt_mem (zs := [((3 : Int), (15 : Int))]) (t := y) (by simpa using c2)
    obtain rfl : z = (3, 15) := by simpa using hz
    obtain rfl : z' = (3, 15) := by simpa using hz'
    simp only at d1 d2 f1 f2
    exact ⟨by omega, by omega, e1⟩
theorem run41 {m : Sim} {rs : List Rep} (h : RunN S41 1 m rs) : rs = [R41] := by
  obtain ⟨m0, r0, ⟨x, y, er⟩, ⟨rfl, rfl⟩, h2, -, h4⟩ := h
  have e1 : knowns (S41.hear S41.init (S41.xs.getD 0 .zero)) = [⟨8, 3, 15, 0, 0, 0⟩] := by kernel_rfl
  rw [e1] at h2
  obtain ⟨rfl, rfl, rfl⟩ := mg41 (show MG [⟨8, 3, 15, 0, 0, 0⟩] 8 0 x y er from h2)
  have e2 : S41.rep S41.init (S41.xs.getD 0 .zero) (3, 15, 0) = R41 := by kernel_rfl
  rw [e2] at h4
  exact h4
theorem ns1 {w : World} {g : Nat} {a : Int} {t : TypeId} (hB : Blk w g t #[.int .i64 a]) : NsAt w (some ⟨g, 0, none⟩) 1 [a] := by
  refine ⟨rfl, by omega, fun _ => ⟨g, 0, rfl, hB.lt, fun j hj => ?_⟩⟩
  obtain rfl : j = 0 := by omega
  rw [hB.cell]; rfl
theorem st1 {w : World} {g : Nat} {x : Stp} {t : TypeId} (hB : Blk w g t x.cs.toArray) : StpsAt w (some ⟨g, 0, none⟩) 1 [x] := by
  refine ⟨rfl, by omega, fun _ => ⟨g, 0, rfl, hB.lt, fun j hj i hi => ?_⟩⟩
  obtain rfl : j = 0 := by omega
  rw [hB.cell]; simp
theorem chk41 : chkE S41 = 0 := by decide +kernel
theorem RowR.cells {w : World} {base c : Nat} {A : Option Addr} {rs : List Rep} (h : RowR w base (.slice A rs.length c) rs) {q : Nat} (hq : q < rs.length) : ∃ g, A = some ⟨g, 0, none⟩ ∧ base ≤ g ∧ g < w.heap.size ∧ ∀ i, i < 11 → w.cell? ⟨g, q * 11 + i, none⟩ = (rs.getD q .zero).cs[i]? := by
  obtain ⟨g, cur, e, hb, hB, hc⟩ := own_cur h (by omega)
  refine ⟨g, e, hb, hB.lt, fun i hi => ?_⟩
  rw [hB.cell, hc _ (by omega)]
  exact rCells_get rs q i hq hi
set_option maxRecDepth 100000 in
set_option maxHeartbeats 4000000 in
theorem known41_any  (w : World) :
    Calls Tryz.prog 26 #[] w (RB w (.bool true)) := by
  have HK := Lib.hid (show Kp w w from Below.refl _ _)
  have R1 := Lib.hid (fun A SA c sc W h => irun_any S41 A SA c sc W h)
  dsimp only [S41, List.length_cons, List.length_nil, Nat.zero_add] at R1
  go_enter Tryz.func26, Tryz.ntmps26
  go_wp2_with fail
  refine (R1.out (some ⟨w.heap.size, 0, none⟩) (some ⟨w.heap.size + 1, 0, none⟩) 1 1 _ ⟨ns1 (by first | exact (Blk.new _ _ _).alloc _ | exact Blk.alloc (Blk.new _ _ _) _), st1 (by first | exact Blk.new1 _ _ _ _ | exact Blk.newE (by simp))⟩).mono ?_
  rintro e w1 ⟨-, h2, hb⟩
  obtain ⟨m, rs, A, c, hr, rfl, hrow⟩ := h2 chk41
  obtain rfl := run41 hr
  have S1 : Below w.heap.size w w1 := kept_call hb (by (repeat' (first | (with_reducible exact Below.refl _ _) | (with_reducible refine Below.setCell ?_ ?_ _) | (with_reducible refine Below.alloc ?_ ?_ _) | (with_reducible refine Below.drew ?_) | (with_reducible refine below_drewN ?_ _))) <;> (first | omega | (simp <;> omega)))
  have Z1 := S1.size
  clear h2 hr hb
  obtain ⟨g, rfl, hg, lg, hc⟩ := hrow.cells (q := 0) (by simp)
  have c0 := hc 0 (by omega); have c1 := hc 1 (by omega); have c2 := hc 2 (by omega); have c3 := hc 3 (by omega); have c4 := hc 4 (by omega); have c10 := hc 10 (by omega)
  simp only [R41, Rep.cs, Clk.cs, List.getD_cons_zero, List.cons_append, List.nil_append, List.getElem?_cons_zero, List.getElem?_cons_succ, Nat.zero_mul, Nat.zero_add, Nat.add_zero] at c0 c1 c2 c3 c4 c10
  clear hc hrow
  go_wp2
  go_ret
  exact ⟨rfl, by (first | exact S1 | exact S1.drew)⟩
end Go.Proofs.YtlnboheahbfgfaaGreat
namespace Go.Proofs.YtlnboheahbfgfaaGreat
open Go.RowKit Go.Shelf Go.Sort
set_option linter.unusedSimpArgs false
set_option linter.unusedVariables false

theorem sch_good {sta loc p li ai : Int} {es : List Int} {xs : List Stp} {n : Int} {lying : Bool} (h : SchOk sta loc p li ai es xs n lying) (hn : n ≤ 16) : GoodS ⟨sta, loc, p, li, ai, es, xs⟩ := by
  obtain ⟨b1, b2, b3, b4, b5, b6, b7, b8, b9, b10, b11, b12, b13, b14, b15, b16⟩ := h
  have hst : ∀ x ∈ xs, stpE p es.length x = 0 := fun x hx => by
    obtain ⟨c1, c2, c3, c4, c5, c6, c7, c8, c9, c10, c11, c12, c13, c14, c15, c16, c17, c18, c19, c20, c21, c22, c23, c24, c25, c26, c27⟩ := b16 x hx
    unfold stpE
    rw [if_pos, if_pos]
    · unfold Stp.ft
      simp only [Bool.and_eq_true, fitsB_true]
      exact ⟨c7, c12, c17, c22⟩
    · unfold Stp.rg
      simp only [Bool.and_eq_true, decide_eq_true_eq, nearB_true, Stp.ls, List.all_cons, List.all_nil, lenB_true, and_true]
      refine ⟨c1, c2, ⟨?_, ?_, ?_, ?_, ?_, ?_, ?_, ?_⟩, ?_, ?_⟩ <;> omega
  refine ⟨?_, by show xs.length ≤ 20; omega, b1, b2, b3, b4, fun e he => (b13 e he).2, fun x hx => ?_⟩
  · unfold chkE
    rw [if_neg (by show ¬ (es.length < 1 ∨ 8 < es.length ∨ 64 < xs.length); omega), if_pos]
    · exact stpsE_none hst
    · unfold Sch.rg
      simp only [Bool.and_eq_true, decide_eq_true_eq, nearB_true, List.all_eq_true, lenB_true]
      exact ⟨by omega, by omega, by omega, by omega, by omega, by omega, by omega, by omega, by omega, fun e he => by have := b13 e he; omega⟩
  · obtain ⟨c1, c2, c3, c4, c5, c6, c7, c8, c9, c10, c11, c12, c13, c14, c15, c16, c17, c18, c19, c20, c21, c22, c23, c24, c25, c26, c27⟩ := b16 x hx
    refine ⟨c4, c9, c14, c19, c23, c24, c25, c26, fun hl => ?_⟩
    have hd : decide (x.src < li) = false := decide_eq_false (by have : li ≤ x.src := hl; omega)
    exact c27 (by rw [hd, Bool.and_false])
end Go.Proofs.YtlnboheahbfgfaaGreat
