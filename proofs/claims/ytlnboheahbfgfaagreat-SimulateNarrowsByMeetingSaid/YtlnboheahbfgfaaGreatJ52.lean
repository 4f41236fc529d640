/- Texts joined: Sim7, Sim8 -/
import Derived.Test.YtlnboheahbfgfaaGreatSched
import Derived.Test.YtlnboheahbfgfaaGreatSim6
import Derived.Test.YtlnboheahbfgfaaGreatJ6
namespace Go.Proofs.YtlnboheahbfgfaaGreat
open Go.RowKit Go.Shelf Go.Sort
set_option linter.unusedSimpArgs false
set_option linter.unusedVariables false

def S41 : Sch := ⟨0, 0, 0, 0, 0, [2], [⟨0, 0, 0, 5, 5, 0, 0, 3, 3, 0, 0⟩]⟩
def R41 : Rep := ⟨8, 8, true, 3, 15, ⟨0, 1000000, true, false, 8, 3⟩⟩
theorem mg41 {x y er : Int} (h : MG [⟨8, 3, 15, 0, 0, 0⟩] 8 0 x y er) : x = 3 ∧ y = 15 ∧ er = 0 := by
  have hn : nowK 8 ⟨8, 3, 15, 0, 0, 0⟩ = (3, 15, 0) := by kernel_rfl
  have hs : spK 8 ⟨8, 3, 15, 0, 0, 0⟩ = (3, 15) := by unfold spK; rw [hn]
  rcases h with ⟨h9, -⟩ | ⟨-, i, hi, -, h9, -⟩ | ⟨-, -, hax⟩
  · simp at h9
  · obtain rfl : i = 0 := by simpa using hi
    exact absurd (show (nowK 8 ⟨8, 3, 15, 0, 0, 0⟩).2.2 = 0 by rw [hn]) h9
  · simp only [List.map_cons, List.map_nil, hs] at hax
    have hck : ckE [((3 : Int), (15 : Int))] = 0 := by decide +kernel
    have hq : qE [((3 : Int), (15 : Int))] 0 = 0 := by decide +kernel
    obtain ⟨e1, a1, a2, -⟩ := AX_truth (t := 3) hax hq (by decide +kernel)
    obtain ⟨-, b1, b2, -⟩ := AX_truth (t := 15) hax hq (by decide +kernel)
    obtain ⟨-, c1, c2, -⟩ := AX_ends hax e1
    obtain ⟨z, hz, d1, d2⟩ := cnt_mem (zs := [((3 : Int), (15 : Int))]) (t := x) (by simpa using c1)
    obtain ⟨z', hz', f1, f2⟩ := cnt_mem (zs := [((3 : Int), (15 : Int))]) (t := y) (by simpa using c2)
    obtain rfl : z = (3, 15) := by simpa using hz
    obtain rfl : z' = (3, 15) := by simpa using hz'
    simp only at d1 d2 f1 f2
    exact ⟨by omega, by omega, e1⟩
theorem run41 {m : Sim} {rs : List Rep} (h : RunN S41 1 m rs) : rs = [R41] := by
  obtain ⟨m0, r0, ⟨x, y, er⟩, ⟨rfl, rfl⟩, h2, -, h4⟩ := h
  have e1 : knowns (S41.hear S41.init (S41.xs.getD 0 .zero)) = [⟨8, 3, 15, 0, 0, 0⟩] := by kernel_rfl
  rw [e1] at h2
  obtain ⟨rfl, rfl, rfl⟩ := mg41 (show MG [⟨8, 3, 15, 0, 0, 0⟩] 8 0 x y er from h2)
  have e2 : S41.rep S41.init (S41.xs.getD 0 .zero) (3, 15, 0) = R41 := by kernel_rfl
  rw [e2] at h4
  exact h4
theorem ns1 {w : World} {g : Nat} {a : Int} {t : TypeId} (hB : Blk w g t #[.int .i64 a]) : NsAt w (some ⟨g, 0, none⟩) 1 [a] := by
  refine ⟨rfl, by omega, fun _ => ⟨g, 0, rfl, hB.lt, fun j hj => ?_⟩⟩
  obtain rfl : j = 0 := by omega
  rw [hB.cell]; rfl
theorem st1 {w : World} {g : Nat} {x : Stp} {t : TypeId} (hB : Blk w g t x.cs.toArray) : StpsAt w (some ⟨g, 0, none⟩) 1 [x] := by
  refine ⟨rfl, by omega, fun _ => ⟨g, 0, rfl, hB.lt, fun j hj i hi => ?_⟩⟩
  obtain rfl : j = 0 := by omega
  rw [hB.cell]; simp
theorem chk41 : chkE S41 = 0 := by decide +kernel
theorem RowR.cells {w : World} {base c : Nat} {A : Option Addr} {rs : List Rep} (h : RowR w base (.slice A rs.length c) rs) {q : Nat} (hq : q < rs.length) : ∃ g, A = some ⟨g, 0, none⟩ ∧ base ≤ g ∧ g < w.heap.size ∧ ∀ i, i < 11 → w.cell? ⟨g, q * 11 + i, none⟩ = (rs.getD q .zero).cs[i]? := by
  obtain ⟨g, cur, e, hb, hB, hc⟩ := own_cur h (by omega)
  refine ⟨g, e, hb, hB.lt, fun i hi => ?_⟩
  rw [hB.cell, hc _ (by omega)]
  exact rCells_get rs q i hq hi
set_option maxRecDepth 100000 in
set_option maxHeartbeats 4000000 in
theorem known41_any  (w : World) :
    Calls Tryz.prog 26 #[] w (RB w (.bool true)) := by
  have HK := Lib.hid (show Kp w w from Below.refl _ _)
  have R1 := Lib.hid (fun A SA c sc W h => irun_any S41 A SA c sc W h)
  dsimp only [S41, List.length_cons, List.length_nil, Nat.zero_add] at R1
  go_enter Tryz.func26, Tryz.ntmps26
  go_wp2_with fail
  refine (R1.out (some ⟨w.heap.size, 0, none⟩) (some ⟨w.heap.size + 1, 0, none⟩) 1 1 _ ⟨ns1 (by first | exact (Blk.new _ _ _).alloc _ | exact Blk.alloc (Blk.new _ _ _) _), st1 (by first | exact Blk.new1 _ _ _ _ | exact Blk.newE (by simp))⟩).mono ?_
  rintro e w1 ⟨-, h2, hb⟩
  obtain ⟨m, rs, A, c, hr, rfl, hrow⟩ := h2 chk41
  obtain rfl := run41 hr
  have S1 : Below w.heap.size w w1 := kept_call hb (by (repeat' (first | (with_reducible exact Below.refl _ _) | (with_reducible refine Below.setCell ?_ ?_ _) | (with_reducible refine Below.alloc ?_ ?_ _) | (with_reducible refine Below.drew ?_) | (with_reducible refine below_drewN ?_ _))) <;> (first | omega | (simp <;> omega)))
  have Z1 := S1.size
  clear h2 hr hb
  obtain ⟨g, rfl, hg, lg, hc⟩ := hrow.cells (q := 0) (by simp)
  have c0 := hc 0 (by omega); have c1 := hc 1 (by omega); have c2 := hc 2 (by omega); have c3 := hc 3 (by omega); have c4 := hc 4 (by omega); have c10 := hc 10 (by omega)
  simp only [R41, Rep.cs, Clk.cs, List.getD_cons_zero, List.cons_append, List.nil_append, List.getElem?_cons_zero, List.getElem?_cons_succ, Nat.zero_mul, Nat.zero_add, Nat.add_zero] at c0 c1 c2 c3 c4 c10
  clear hc hrow
  go_wp2
  go_ret
  exact ⟨rfl, by (first | exact S1 | exact S1.drew)⟩
end Go.Proofs.YtlnboheahbfgfaaGreat
namespace Go.Proofs.YtlnboheahbfgfaaGreat
open Go.RowKit Go.Shelf Go.Sort
set_option linter.unusedSimpArgs false
set_option linter.unusedVariables false

theorem sch_good {sta loc p li ai : Int} {es : List Int} {xs : List Stp} {n : Int} {lying : Bool} (h : SchOk sta loc p li ai es xs n lying) (hn : n ≤ 16) : GoodS ⟨sta, loc, p, li, ai, es, xs⟩ := by
  obtain ⟨b1, b2, b3, b4, b5, b6, b7, b8, b9, b10, b11, b12, b13, b14, b15, b16⟩ := h
  have hst : ∀ x ∈ xs, stpE p es.length x = 0 := fun x hx => by
    obtain ⟨c1, c2, c3, c4, c5, c6, c7, c8, c9, c10, c11, c12, c13, c14, c15, c16, c17, c18, c19, c20, c21, c22, c23, c24, c25, c26, c27⟩ := b16 x hx
    unfold stpE
    rw [if_pos, if_pos]
    · unfold Stp.ft
      simp only [Bool.and_eq_true, fitsB_true]
      exact ⟨c7, c12, c17, c22⟩
    · unfold Stp.rg
      simp only [Bool.and_eq_true, decide_eq_true_eq, nearB_true, Stp.ls, List.all_cons, List.all_nil, lenB_true, and_true]
      refine ⟨c1, c2, ⟨?_, ?_, ?_, ?_, ?_, ?_, ?_, ?_⟩, ?_, ?_⟩ <;> omega
  refine ⟨?_, by show xs.length ≤ 20; omega, b1, b2, b3, b4, fun e he => (b13 e he).2, fun x hx => ?_⟩
  · unfold chkE
    rw [if_neg (by show ¬ (es.length < 1 ∨ 8 < es.length ∨ 64 < xs.length); omega), if_pos]
    · exact stpsE_none hst
    · unfold Sch.rg
      simp only [Bool.and_eq_true, decide_eq_true_eq, nearB_true, List.all_eq_true, lenB_true]
      exact ⟨by omega, by omega, by omega, by omega, by omega, by omega, by omega, by omega, by omega, fun e he => by have := b13 e he; omega⟩
  · obtain ⟨c1, c2, c3, c4, c5, c6, c7, c8, c9, c10, c11, c12, c13, c14, c15, c16, c17, c18, c19, c20, c21, c22, c23, c24, c25, c26, c27⟩ := b16 x hx
    refine ⟨c4, c9, c14, c19, c23, c24, c25, c26, fun hl => ?_⟩
    have hd : decide (x.src < li) = false := decide_eq_false (by have : li ≤ x.src := hl; omega)
    exact c27 (by rw [hd, Bool.and_false])
theorem nar_fact {s : Sch} (h : chkE s = 0) {m : Sim} {rs : List Rep} (hr : RunN s s.xs.length m rs) {q : Nat} (h0 : 0 < q) (hq : q < rs.length) (ha : (rs.getD (q - 1) .zero).some = true) :
    (rs.getD q .zero).some = true ∧ (rs.getD (q - 1) .zero).lo ≤ (rs.getD q .zero).lo ∧ (s.p = 0 → wid (rs.getD q .zero).lo (rs.getD q .zero).hi ≤ wid (rs.getD (q - 1) .zero).lo (rs.getD (q - 1) .zero).hi) := by
  have hl := (RunN.len hr).1
  obtain ⟨m0, r0, a, h1, h2, h3, h4⟩ := RunN.at hr q (by omega)
  have h5 := h4 h0
  rw [h5] at ha ⊢
  rw [h3]
  have hinv := RunN.inv h (show q ≤ s.xs.length by omega) h1
  have ho : m0.own.1 = true := by
    unfold Sim.rep at ha
    rcases e : m0.own.1
    · rw [e] at ha; simp at ha
    · rfl
  obtain ⟨g1, g2, g3⟩ := lo_mono h (show q < s.xs.length by omega) rfl hinv h2 ho
  have hn := (hinv.next h (show q < s.xs.length by omega) rfl h2).1
  obtain ⟨c1, c2, c3, c4, c5⟩ := chkE_0 h
  obtain ⟨⟨a1, a2⟩, ⟨a3, a4⟩, a5, a6, -⟩ := Sch.rg_all c4
  have hb := hinv.2.2.2.2.2.2 ho
  have hb' := hn.2.2.2.2.2.2 (show (s.nxt m0 (s.xs.getD q .zero) a).own.1 = true from g1)
  obtain ⟨-, -, i3, i4, -⟩ := hinv
  obtain ⟨-, -, n3, n4, -⟩ := hn
  obtain ⟨-, e1, v1, -⟩ := hb.1.now a5 a6 a3 a4 (by omega) hb.2 (by omega)
  obtain ⟨-, e2, v2, -⟩ := hb'.1.now a5 a6 a3 a4 (by omega) hb'.2 (by omega)
  unfold Sim.rep
  rw [if_pos ho, if_pos (show (s.nxt m0 (s.xs.getD q .zero) a).own.1 = true from g1)]
  refine ⟨rfl, g2, fun hp => ?_⟩
  simp only
  unfold wid
  rw [if_pos (by rw [e2]; exact v2), if_pos (by rw [e1]; exact v1)]
  exact g3 hp
def NaRel (w : World) (n : Nat) (G : Nat) (i : Value) (wr : World) : Prop := ∃ q : Nat, 1 ≤ q ∧ q ≤ n ∧ G = n - q + 1 ∧ i = .int .i64 q ∧ Below w.heap.size w wr
set_option maxRecDepth 100000 in
set_option maxHeartbeats 8000000 in
theorem narrow_walk (LA : Option Addr) (llen lcap : Nat) (ls : List Int) (w : World) (k : IntsAt w LA llen ls) :
    Calls Tryz.prog 5 #[.slice LA llen lcap] w (RB w (.bool true)) := by
  have HL := Lib.hid k; clear k
  go_enter Tryz.func5, Tryz.ntmps5
  go_wp2_with fail
  refine (new_any LA llen lcap ls _ (IntsAt.below HL.out (by (repeat' (first | (with_reducible exact Below.refl _ _) | (with_reducible refine Below.setCell ?_ ?_ _) | (with_reducible refine Below.alloc ?_ ?_ _) | (with_reducible refine Below.drew ?_) | (with_reducible refine below_drewN ?_ _))) <;> (first | omega | (simp <;> omega))))).mono ?_
  rintro e w1 ⟨rfl, ht1, hb1⟩
  have Z1 := hb1.size
  have T1 := ht1.lt
  have HT := Lib.hid ht1
  have HK1 := Lib.hid (show Below w.heap.size w w1 from kept_call hb1 (by (repeat' (first | (with_reducible exact Below.refl _ _) | (with_reducible refine Below.setCell ?_ ?_ _) | (with_reducible refine Below.alloc ?_ ?_ _) | (with_reducible refine Below.drew ?_) | (with_reducible refine below_drewN ?_ _))) <;> (first | omega | (simp <;> omega))))
  clear ht1 hb1
  go_wp2_with fail
  refine (sched_any _ 16 false _ HT.out (by omega) (by omega)).mono ?_
  rintro e w2 ⟨sta, loc, p, li, ai, EA, SA, ecap, scap, es, xs, rfl, hok, hnum, hst, -, hg2⟩
  have Z2 : w1.heap.size ≤ w2.heap.size := hg2.size
  have HK := Lib.hid (show Below w.heap.size w w2 from below_grown HK1.out hg2 (by first | exact Nat.le_refl _ | omega | (simp <;> omega)) (by first | exact Nat.le_refl _ | omega | (simp <;> omega)))
  clear HK1 HT hg2
  have hxl : xs.length ≤ 16 := by have := hok.2.2.2.2.2.2.2.2.2.2.2.2.2.2.1; omega
  have hxl0 : 1 ≤ xs.length := hok.2.2.2.2.2.2.2.2.2.2.2.2.2.1
  have hel : es.length ≤ 5 := hok.2.2.2.2.2.2.2.2.2.2.2.1
  have HS := Lib.hid (show SchAt w2 ⟨sta, loc, p, li, ai, es, xs⟩ EA SA from ⟨NsAt.nums hnum (by show es.length ≤ _; omega), StpsAt.steps hst (by show xs.length ≤ _; omega)⟩)
  have HG := Lib.hid (sch_good hok (by omega))
  have HOK := Lib.hid hok
  clear hnum hst hok
  have RR := Lib.hid (fun W h => irun_any ⟨sta, loc, p, li, ai, es, xs⟩ EA SA ecap scap W h)
  dsimp only at RR
  go_wp2_with fail
  refine (RR.out _ (HS.out.below (by (repeat' (first | (with_reducible exact Below.refl _ _) | (with_reducible refine Below.setCell ?_ ?_ _) | (with_reducible refine Below.alloc ?_ ?_ _) | (with_reducible refine Below.drew ?_) | (with_reducible refine below_drewN ?_ _))) <;> (first | omega | (simp <;> omega))))).mono ?_
  rintro e w3 ⟨-, h2, hb3⟩
  obtain ⟨m, rs, A, c, hr, rfl, hrow⟩ := h2 HG.out.1
  have S3 : Below w2.heap.size w2 w3 := kept_call hb3 (by (repeat' (first | (with_reducible exact Below.refl _ _) | (with_reducible refine Below.setCell ?_ ?_ _) | (with_reducible refine Below.alloc ?_ ?_ _) | (with_reducible refine Below.drew ?_) | (with_reducible refine below_drewN ?_ _))) <;> (first | omega | (simp <;> omega)))
  have Z3 := S3.size
  have bC : Blk w3 w2.heap.size 54 #[.int .i64 sta, .int .i64 loc, .int .i64 p, .int .i64 li, .int .i64 ai, .slice EA es.length ecap, .slice SA xs.length scap] := Blk.keep hb3 (by first | exact Blk.new _ _ _ | exact setAll_blk [.int .i64 sta, .int .i64 loc, .int .i64 p, .int .i64 li, .int .i64 ai, .slice EA es.length ecap, .slice SA xs.length scap] 0 _ #[.int .i64 0, .int .i64 0, .int .i64 0, .int .i64 0, .int .i64 0, .slice none 0 0, .slice none 0 0] (Blk.new _ _ _))
  have hk3 := kept_call S3 HK.out
  clear h2 hb3 S3 HS HK RR
  have hrl : rs.length = xs.length := (RunN.len hr).1
  have HR := Lib.hid hr; have HRL := Lib.hid hrl; have HROW := Lib.hid hrow
  obtain ⟨n, hn⟩ : ∃ n, rs.length = n := ⟨_, rfl⟩
  have hn0 : 1 ≤ n := by omega
  have hn16 : n ≤ 16 := by omega
  rw [hn]
  have HN := Lib.hid hn
  clear hr hrl hrow hn hxl hxl0
  have HC := Lib.hid bC; clear bC
  have HK3 := Lib.hid hk3; clear hk3
  have lC0 := HC.out.lt; have cC0 := HC.out.cell
  go_wp2
  clear lC0 cC0
  go_loopg [6] n (fun G i wr => NaRel w3 n G i wr)
  case atStart => exact ⟨1, by omega, by omega, by omega, rfl, Below.refl _ _⟩
  case round =>
    obtain ⟨q, hq1, hq, rfl, rfl, KR⟩ := hrel
    have ZR := KR.size
    by_cases hlt : q < n
    · have gq : decide ((q : Int) < (n : Int)) = true := decide_eq_true (by omega)
      have gqn : decide (q < n) = true := decide_eq_true hlt
      have wq9 : IntKind.i64.wrap ((q : Int) + 1) = ((q + 1 : Nat) : Int) := by rw [IntWalk.i64_in _ (by omega)]; omega
      obtain ⟨qp, hqp⟩ : ∃ qp : Nat, q = qp + 1 := ⟨q - 1, by omega⟩
      have wqp : IntKind.i64.wrap ((q : Int) - 1) = ((qp : Nat) : Int) := by rw [IntWalk.i64_in _ (by omega)]; omega
      have gqp : decide ((qp : Int) < (n : Int)) = true := decide_eq_true (by omega)
      have gqpn : decide (qp < n) = true := decide_eq_true (by omega)
      have gqpp : qp < n := by omega
      have hrow := HROW.out.below KR
      obtain ⟨ga, e9, hga, lga, hca⟩ := hrow.cells (q := qp) (by rw [HN.out]; omega)
      obtain ⟨ga', e9', -, -, hcb⟩ := hrow.cells (q := q) (by rw [HN.out]; omega)
      obtain rfl : ga = ga' := by rw [e9] at e9'; injection e9' with e9'; injection e9'
      subst e9
      clear e9' hrow
      have hfact := nar_fact HG.out.1 (show RunN ⟨sta, loc, p, li, ai, es, xs⟩ xs.length m rs by rw [← HRL.out]; exact (HRL.out ▸ HR.out)) (q := q) (by omega) (by rw [HN.out]; exact hlt)
      rw [show q - 1 = qp by omega] at hfact
      have HQP := Lib.hid hqp; clear hqp
      obtain ⟨ra, hra⟩ : ∃ r, rs.getD qp .zero = r := ⟨_, rfl⟩
      obtain ⟨rb, hrb⟩ : ∃ r, rs.getD q .zero = r := ⟨_, rfl⟩
      rw [hra] at hca hfact; rw [hrb] at hcb hfact
      clear hra hrb
      obtain ⟨a0, a1, a2, a3, a4, ⟨a5, a6, a7, a8, a9, a10⟩⟩ := ra
      obtain ⟨b0, b1, b2, b3, b4, ⟨b5, b6, b7, b8, b9, b10⟩⟩ := rb
      dsimp only at hfact
      have HF := Lib.hid hfact; clear hfact
      have da0 := hca 0 (by omega)
      have da1 := hca 1 (by omega)
      have da2 := hca 2 (by omega)
      have da3 := hca 3 (by omega)
      have da4 := hca 4 (by omega)
      have da5 := hca 5 (by omega)
      have da6 := hca 6 (by omega)
      have da7 := hca 7 (by omega)
      have da8 := hca 8 (by omega)
      have da9 := hca 9 (by omega)
      have da10 := hca 10 (by omega)
      simp only [Rep.cs, Clk.cs, List.cons_append, List.nil_append, List.getElem?_cons_zero, List.getElem?_cons_succ, Nat.add_zero] at da0 da1 da2 da3 da4 da5 da6 da7 da8 da9 da10
      have db0 := hcb 0 (by omega)
      have db1 := hcb 1 (by omega)
      have db2 := hcb 2 (by omega)
      have db3 := hcb 3 (by omega)
      have db4 := hcb 4 (by omega)
      have db5 := hcb 5 (by omega)
      have db6 := hcb 6 (by omega)
      have db7 := hcb 7 (by omega)
      have db8 := hcb 8 (by omega)
      have db9 := hcb 9 (by omega)
      have db10 := hcb 10 (by omega)
      simp only [Rep.cs, Clk.cs, List.cons_append, List.nil_append, List.getElem?_cons_zero, List.getElem?_cons_succ, Nat.add_zero] at db0 db1 db2 db3 db4 db5 db6 db7 db8 db9 db10
      clear hca hcb
      have bC := HC.out.below KR
      have cC := bC.cell; have lC := bC.lt
      go_upto_region 8 with fail
      clear cC lC
      obtain ⟨cC, fC, lC, eC, kC⟩ := Blk.facts bC
      refine' wp_region_calmD (by kernel_rfl) (fun D u9 w' => Past [] wr w' ∧ Blk w' (w2.heap.size) 54 #[.int .i64 sta, .int .i64 loc, .int .i64 p, .int .i64 li, .int .i64 ai, .slice EA es.length ecap, .slice SA xs.length scap] ∧ NewD wr.heap.size 64 #[.int .i64 0, .int .i64 0, .bool false, .int .i64 0, .int .i64 0, .int .i64 0, .int .i64 0, .bool false, .bool false, .int .i64 0, .int .i64 0] #[.int .i64 a0, .int .i64 a1, .bool a2, .int .i64 a3, .int .i64 a4, .int .i64 a5, .int .i64 a6, .bool a7, .bool a8, .int .i64 a9, .int .i64 a10] (D 9) (D 11) (u9 9) w' ∧ NewD wr.heap.size 64 #[.int .i64 0, .int .i64 0, .bool false, .int .i64 0, .int .i64 0, .int .i64 0, .int .i64 0, .bool false, .bool false, .int .i64 0, .int .i64 0] #[.int .i64 b0, .int .i64 b1, .bool b2, .int .i64 b3, .int .i64 b4, .int .i64 b5, .int .i64 b6, .bool b7, .bool b8, .int .i64 b9, .int .i64 b10] (D 10) (D 12) (u9 10) w' ∧ wr.heap.size ≤ w'.heap.size ∧ (D 9 = true → D 10 = true → u9 9 ≠ u9 10)) (fun _ _ => True) [(Is _), (Is _), (Is _), (Is _), (Is _), (Is _), (Is _), (Is _), (Is _), (fun _ _ _ => True), (fun _ _ _ => True), (fun _ _ _ => True), (fun _ _ _ => True)] [[], [], [1], [0, 2], [3], [], [], [5, 6], [7], [], [], [9, 4], [10, 8]] rfl (by kernel_rfl) (fun u => by (simp only [calmPut, Act.put, List.setIfInBounds_toArray, List.set_cons_zero, List.set_cons_succ, Nat.zero_add, Nat.reduceAdd]; rfl)) ?_ (calmKeep_cons keep_is' (calmKeep_cons keep_is' (calmKeep_cons keep_is' (calmKeep_cons keep_is' (calmKeep_cons keep_is' (calmKeep_cons keep_is' (calmKeep_cons keep_is' (calmKeep_cons keep_is' (calmKeep_cons keep_is' (calmKeep_cons keep_triv (calmKeep_cons keep_triv (calmKeep_cons keep_triv (calmKeep_cons keep_triv (calmKeep_nil)))))))))))))) ?_ ?_
      · exact ⟨(by (repeat' (first | (with_reducible exact (Past.refl _ _)) | (with_reducible exact Past.refl _ _) | (with_reducible refine Past.drew ?_) | (with_reducible refine Past.drewN ?_ _) | (with_reducible refine Past.allocs ?_ _) | (with_reducible refine' Past.setIn ?_ ?_ _; rotate_left 1; (simp; done)) | (with_reducible refine' Past.far ?_ ?_ _; rotate_left 1; (first | omega | (simp <;> omega)))))), (by (repeat' (first | (with_reducible exact bC) | (with_reducible refine' Blk.alloc ?_ _) | (with_reducible refine' Blk.drew ?_) | (with_reducible refine' Blk.drewN ?_ _) | (with_reducible refine' Blk.put ?_ ?_) | (with_reducible refine' Blk.far ?_ ?_ _) | exact bC | exact rfl)) <;> (first | omega | (simp <;> omega))), NewD.start _, NewD.start _, (by first | exact Nat.le_refl _ | omega | (simp <;> omega)), (fun h => by cases h)⟩
      rotate_left 9
      · skip
        refine dSteps_cons (fun uu wq D hd hn hn2 hC hk K hK => ?_) ?_
        · obtain ⟨hP, mC, nU, nV, hZ, hdd⟩ := hC
          clear hn hn2
          clear hk
          go_simp
          exact hK _ _ _ rfl ⟨hP, mC, nU, nV, hZ, hdd⟩ trivial rfl
        refine dSteps_cons (fun uu wq D hd hn hn2 hC hk K hK => ?_) ?_
        · obtain ⟨hP, mC, nU, nV, hZ, hdd⟩ := hC
          clear hn hn2
          clear hk
          go_simp
          exact hK _ _ _ rfl ⟨hP, mC, nU, nV, hZ, hdd⟩ trivial rfl
        refine dSteps_cons (fun uu wq D hd hn hn2 hC hk K hK => ?_) ?_
        · obtain ⟨hP, mC, nU, nV, hZ, hdd⟩ := hC
          clear hn hn2
          simp only [calmKnown, List.getElem?_cons_zero, List.getElem?_cons_succ, and_true, Is, Pure, Option.some.injEq, List.getD_cons_zero, List.getD_cons_succ, List.map_cons, List.map_nil] at hk
          have h1 := hk; clear hk
          simp only [h1] at hK ⊢
          have H1 := Lib.hid h1; clear h1
          go_simp
          exact hK _ _ _ rfl ⟨hP, mC, nU, nV, hZ, hdd⟩ trivial rfl
        refine dSteps_cons (fun uu wq D hd hn hn2 hC hk K hK => ?_) ?_
        · obtain ⟨hP, mC, nU, nV, hZ, hdd⟩ := hC
          clear hn hn2
          simp only [calmKnown, List.getElem?_cons_zero, List.getElem?_cons_succ, and_true, Is, Pure, Option.some.injEq, List.getD_cons_zero, List.getD_cons_succ, List.map_cons, List.map_nil] at hk
          obtain ⟨h0, h2⟩ := hk
          simp only [h0, h2] at hK ⊢
          have H0 := Lib.hid h0; clear h0; have H2 := Lib.hid h2; clear h2
          go_simp
          exact hK _ _ _ rfl ⟨hP, mC, nU, nV, hZ, hdd⟩ trivial rfl
        refine dSteps_cons (fun uu wq D hd hn hn2 hC hk K hK => ?_) ?_
        · obtain ⟨hP, mC, nU, nV, hZ, hdd⟩ := hC
          clear hn hn2
          simp only [calmKnown, List.getElem?_cons_zero, List.getElem?_cons_succ, and_true, Is, Pure, Option.some.injEq, List.getD_cons_zero, List.getD_cons_succ, List.map_cons, List.map_nil] at hk
          have h3 := hk; clear hk
          simp only [h3] at hK ⊢
          have H3 := Lib.hid h3; clear h3
          have lg9 : ga < wq.heap.size := Nat.lt_of_lt_of_le lga hP.1
          have ea0 := hP.cell (by simp) da0
          have ea1 := hP.cell (by simp) da1
          have ea2 := hP.cell (by simp) da2
          have ea3 := hP.cell (by simp) da3
          have ea4 := hP.cell (by simp) da4
          have ea5 := hP.cell (by simp) da5
          have ea6 := hP.cell (by simp) da6
          have ea7 := hP.cell (by simp) da7
          have ea8 := hP.cell (by simp) da8
          have ea9 := hP.cell (by simp) da9
          have ea10 := hP.cell (by simp) da10
          have eb0 := hP.cell (by simp) db0
          have eb1 := hP.cell (by simp) db1
          have eb2 := hP.cell (by simp) db2
          have eb3 := hP.cell (by simp) db3
          have eb4 := hP.cell (by simp) db4
          have eb5 := hP.cell (by simp) db5
          have eb6 := hP.cell (by simp) db6
          have eb7 := hP.cell (by simp) db7
          have eb8 := hP.cell (by simp) db8
          have eb9 := hP.cell (by simp) db9
          have eb10 := hP.cell (by simp) db10
          have cC := mC.cell; have lC := mC.lt
          go_simp
          exact hK _ _ _ rfl ⟨hP, mC, nU, nV, hZ, hdd⟩ trivial rfl
        refine dSteps_cons (fun uu wq D hd hn hn2 hC hk K hK => ?_) ?_
        · obtain ⟨hP, mC, nU, nV, hZ, hdd⟩ := hC
          clear hn hn2
          clear hk
          go_simp
          exact hK _ _ _ rfl ⟨hP, mC, nU, nV, hZ, hdd⟩ trivial rfl
        refine dSteps_cons (fun uu wq D hd hn hn2 hC hk K hK => ?_) ?_
        · obtain ⟨hP, mC, nU, nV, hZ, hdd⟩ := hC
          clear hn hn2
          clear hk
          go_simp
          exact hK _ _ _ rfl ⟨hP, mC, nU, nV, hZ, hdd⟩ trivial rfl
        refine dSteps_cons (fun uu wq D hd hn hn2 hC hk K hK => ?_) ?_
        · obtain ⟨hP, mC, nU, nV, hZ, hdd⟩ := hC
          clear hn hn2
          simp only [calmKnown, List.getElem?_cons_zero, List.getElem?_cons_succ, and_true, Is, Pure, Option.some.injEq, List.getD_cons_zero, List.getD_cons_succ, List.map_cons, List.map_nil] at hk
          obtain ⟨h5, h6⟩ := hk
          simp only [h5, h6] at hK ⊢
          have H5 := Lib.hid h5; clear h5; have H6 := Lib.hid h6; clear h6
          go_simp
          exact hK _ _ _ rfl ⟨hP, mC, nU, nV, hZ, hdd⟩ trivial rfl
        refine dSteps_cons (fun uu wq D hd hn hn2 hC hk K hK => ?_) ?_
        · obtain ⟨hP, mC, nU, nV, hZ, hdd⟩ := hC
          clear hn hn2
          simp only [calmKnown, List.getElem?_cons_zero, List.getElem?_cons_succ, and_true, Is, Pure, Option.some.injEq, List.getD_cons_zero, List.getD_cons_succ, List.map_cons, List.map_nil] at hk
          have h7 := hk; clear hk
          simp only [h7] at hK ⊢
          have H7 := Lib.hid h7; clear h7
          have lg9 : ga < wq.heap.size := Nat.lt_of_lt_of_le lga hP.1
          have ea0 := hP.cell (by simp) da0
          have ea1 := hP.cell (by simp) da1
          have ea2 := hP.cell (by simp) da2
          have ea3 := hP.cell (by simp) da3
          have ea4 := hP.cell (by simp) da4
          have ea5 := hP.cell (by simp) da5
          have ea6 := hP.cell (by simp) da6
          have ea7 := hP.cell (by simp) da7
          have ea8 := hP.cell (by simp) da8
          have ea9 := hP.cell (by simp) da9
          have ea10 := hP.cell (by simp) da10
          have eb0 := hP.cell (by simp) db0
          have eb1 := hP.cell (by simp) db1
          have eb2 := hP.cell (by simp) db2
          have eb3 := hP.cell (by simp) db3
          have eb4 := hP.cell (by simp) db4
          have eb5 := hP.cell (by simp) db5
          have eb6 := hP.cell (by simp) db6
          have eb7 := hP.cell (by simp) db7
          have eb8 := hP.cell (by simp) db8
          have eb9 := hP.cell (by simp) db9
          have eb10 := hP.cell (by simp) db10
          have cC := mC.cell; have lC := mC.lt
          go_simp
          exact hK _ _ _ rfl ⟨hP, mC, nU, nV, hZ, hdd⟩ trivial rfl
        refine dSteps_cons (fun uu wq D hd hn hn2 hC hk K hK => ?_) ?_
        · obtain ⟨hP, mC, nU, nV, hZ, hdd⟩ := hC
          replace hn := Lib.hid hn; replace hn2 := Lib.hid hn2
          clear hk
          have d11 := hn.out 11 (by kernel_rfl)
          go_simp
          exact hK _ _ _ rfl ⟨hP.allocs _, mC.alloc _, NewD.made hZ d11, nV.below (Below.alloc (Below.refl _ _) (Nat.le_refl _) _), Nat.le_trans hZ (by simp), (fun h1 h2 => nV.ne_new h2)⟩ trivial trivial
        refine dSteps_cons (fun uu wq D hd hn hn2 hC hk K hK => ?_) ?_
        · obtain ⟨hP, mC, nU, nV, hZ, hdd⟩ := hC
          replace hn := Lib.hid hn; replace hn2 := Lib.hid hn2
          clear hk
          have d12 := hn.out 12 (by kernel_rfl)
          go_simp
          exact hK _ _ _ rfl ⟨hP.allocs _, mC.alloc _, nU.below (Below.alloc (Below.refl _ _) (Nat.le_refl _) _), NewD.made hZ d12, Nat.le_trans hZ (by simp), (fun h1 h2 => (nU.ne_new h1).symm)⟩ trivial trivial
        refine dSteps_cons (fun uu wq D hd hn hn2 hC hk K hK => ?_) ?_
        · obtain ⟨hP, mC, nU, nV, hZ, hdd⟩ := hC
          replace hn := Lib.hid hn; replace hn2 := Lib.hid hn2
          simp only [calmKnown, List.getElem?_cons_zero, List.getElem?_cons_succ, and_true, Is, Pure, Option.some.injEq, List.getD_cons_zero, List.getD_cons_succ, List.map_cons, List.map_nil] at hk
          obtain ⟨-, h4⟩ := hk
          simp only [h4] at hK ⊢
          have H4 := Lib.hid h4; clear h4
          have da : D 9 = true := hn2.out 9 (by kernel_rfl)
          obtain ⟨gn, hgn, gb, gl, hB⟩ := nU.one da hd
          simp only [hgn] at hK ⊢
          have hc9 := hB.cell; have hf9 := hB.frozen
          have hB2 := setAll_blk [.int .i64 a0, .int .i64 a1, .bool a2, .int .i64 a3, .int .i64 a4, .int .i64 a5, .int .i64 a6, .bool a7, .bool a8, .int .i64 a9, .int .i64 a10] 0 wq _ hB
          simp only [setArr, List.setIfInBounds_toArray, List.set_cons_zero, List.set_cons_succ, Nat.zero_add, Nat.reduceAdd] at hB2
          go_simp
          exact hK _ undef (setAll wq gn 0 [.int .i64 a0, .int .i64 a1, .bool a2, .int .i64 a3, .int .i64 a4, .int .i64 a5, .int .i64 a6, .bool a7, .bool a8, .int .i64 a9, .int .i64 a10]) rfl ⟨(setAll_past gb [.int .i64 a0, .int .i64 a1, .bool a2, .int .i64 a3, .int .i64 a4, .int .i64 a5, .int .i64 a6, .bool a7, .bool a8, .int .i64 a9, .int .i64 a10] 0 wq hP), setAll_far (show w2.heap.size ≠ gn by first | omega | (simp <;> omega)) [.int .i64 a0, .int .i64 a1, .bool a2, .int .i64 a3, .int .i64 a4, .int .i64 a5, .int .i64 a6, .bool a7, .bool a8, .int .i64 a9, .int .i64 a10] 0 wq mC, (show NewD _ _ _ _ (D 9) true (uu 9) _ from by rw [hgn]; exact NewD.stored gb hB2), nV.farAll (fun h9 e9 => hdd da h9 (hgn.trans e9.symm)) [.int .i64 a0, .int .i64 a1, .bool a2, .int .i64 a3, .int .i64 a4, .int .i64 a5, .int .i64 a6, .bool a7, .bool a8, .int .i64 a9, .int .i64 a10] 0, (by rw [setAll_size]; exact hZ), hdd⟩ trivial trivial
        refine dSteps_cons (fun uu wq D hd hn hn2 hC hk K hK => ?_) ?_
        · obtain ⟨hP, mC, nU, nV, hZ, hdd⟩ := hC
          replace hn := Lib.hid hn; replace hn2 := Lib.hid hn2
          simp only [calmKnown, List.getElem?_cons_zero, List.getElem?_cons_succ, and_true, Is, Pure, Option.some.injEq, List.getD_cons_zero, List.getD_cons_succ, List.map_cons, List.map_nil] at hk
          obtain ⟨-, h8⟩ := hk
          simp only [h8] at hK ⊢
          have H8 := Lib.hid h8; clear h8
          have da : D 10 = true := hn2.out 10 (by kernel_rfl)
          obtain ⟨gn, hgn, gb, gl, hB⟩ := nV.one da hd
          simp only [hgn] at hK ⊢
          have hc9 := hB.cell; have hf9 := hB.frozen
          have hB2 := setAll_blk [.int .i64 b0, .int .i64 b1, .bool b2, .int .i64 b3, .int .i64 b4, .int .i64 b5, .int .i64 b6, .bool b7, .bool b8, .int .i64 b9, .int .i64 b10] 0 wq _ hB
          simp only [setArr, List.setIfInBounds_toArray, List.set_cons_zero, List.set_cons_succ, Nat.zero_add, Nat.reduceAdd] at hB2
          go_simp
          exact hK _ undef (setAll wq gn 0 [.int .i64 b0, .int .i64 b1, .bool b2, .int .i64 b3, .int .i64 b4, .int .i64 b5, .int .i64 b6, .bool b7, .bool b8, .int .i64 b9, .int .i64 b10]) rfl ⟨(setAll_past gb [.int .i64 b0, .int .i64 b1, .bool b2, .int .i64 b3, .int .i64 b4, .int .i64 b5, .int .i64 b6, .bool b7, .bool b8, .int .i64 b9, .int .i64 b10] 0 wq hP), setAll_far (show w2.heap.size ≠ gn by first | omega | (simp <;> omega)) [.int .i64 b0, .int .i64 b1, .bool b2, .int .i64 b3, .int .i64 b4, .int .i64 b5, .int .i64 b6, .bool b7, .bool b8, .int .i64 b9, .int .i64 b10] 0 wq mC, nU.farAll (fun h9 e9 => hdd h9 da (e9.trans hgn.symm)) [.int .i64 b0, .int .i64 b1, .bool b2, .int .i64 b3, .int .i64 b4, .int .i64 b5, .int .i64 b6, .bool b7, .bool b8, .int .i64 b9, .int .i64 b10] 0, (show NewD _ _ _ _ (D 10) true (uu 10) _ from by rw [hgn]; exact NewD.stored gb hB2), (by rw [setAll_size]; exact hZ), hdd⟩ trivial trivial
        exact dSteps_nil
      · intro uu v1 D hD hC hF
        obtain ⟨hP, mC, nU, nV, hZ, hdd⟩ := hC
        simp only [calmFacts, Is, and_true, true_and] at hF
        obtain ⟨f0, f1, f2, f3, f4, f5, f6, f7, f8⟩ := hF
        simp only [f0, f1, f2, f3, f4, f5, f6, f7, f8]
        obtain ⟨gU, e9U, gbU, glU, bU'⟩ := nU.last (hD 9 (by decide)) (hD 11 (by decide))
        simp only [e9U]
        clear e9U
        obtain ⟨gV, e9V, gbV, glV, bV'⟩ := nV.last (hD 10 (by decide)) (hD 12 (by decide))
        simp only [e9V]
        clear e9V
        have hq := hP; clear hP
        have Kv1 : Past [] wr v1 := Past.trans (Past.refl _ _) hq
        have Zv1 := hZ; clear hZ
        clear hq
        clear bC cC fC lC eC kC; have bC := mC
        clear mC nU nV hD
        have bU := bU'; clear bU'
        have bV := bV'; clear bV'
        obtain ⟨cC, fC, lC, eC, kC⟩ := Blk.facts bC
        obtain ⟨cU, fU, lU, eU, kU⟩ := Blk.facts bU
        obtain ⟨cV, fV, lV, eV, kV⟩ := Blk.facts bV
        have oU := lU
        have oV := lV
        clear da0 da1 da2 da3 da4 da5 da6 da7 da8 da9 da10 db0 db1 db2 db3 db4 db5 db6 db7 db8 db9 db10
        cases a2 with
        | false =>
          go_upto_region 9 with fail
          refine' wp_region_calmD (by kernel_rfl) (fun D u9 w' => Past [] v1 w' ∧ Blk w' (w2.heap.size) 54 #[.int .i64 sta, .int .i64 loc, .int .i64 p, .int .i64 li, .int .i64 ai, .slice EA es.length ecap, .slice SA xs.length scap] ∧ Blk w' (gU) 64 #[.int .i64 a0, .int .i64 a1, .bool false, .int .i64 a3, .int .i64 a4, .int .i64 a5, .int .i64 a6, .bool a7, .bool a8, .int .i64 a9, .int .i64 a10] ∧ Blk w' (gV) 64 #[.int .i64 b0, .int .i64 b1, .bool b2, .int .i64 b3, .int .i64 b4, .int .i64 b5, .int .i64 b6, .bool b7, .bool b8, .int .i64 b9, .int .i64 b10] ∧ v1.heap.size ≤ w'.heap.size) (fun _ _ => True) [(Is _), (Is _), (Is _), (Is _), (Is _), (Is _), (Is _), (Is _), (Is _), (Is _), (Is _), (Is _), (Is _), (Is _), (Is _), (Is _), (Is _), (Is _), (Is _), (Is _), (Is _), (Is _), (Is _), (Is _), (Is _), (Is _), (Is _), (Is _), (Is _), (Is _)] [[], [0], [1], [2], [3, 2], [4, 2], [5, 2], [6], [7, 6], [8, 6], [6], [10, 6], [11, 6], [9, 12, 6], [6, 13, 2], [14, 2], [15], [16, 15], [17, 15], [18, 15], [19], [20, 19], [21, 19], [19], [23, 19], [24, 19], [22, 25, 19], [19, 26, 15], [15, 27, 2], [2, 28]] rfl (by kernel_rfl) (fun u => by (simp only [calmPut, Act.put, List.setIfInBounds_toArray, List.set_cons_zero, List.set_cons_succ, Nat.zero_add, Nat.reduceAdd]; rfl)) ?_ (calmKeep_cons keep_is' (calmKeep_cons keep_is' (calmKeep_cons keep_is' (calmKeep_cons keep_is' (calmKeep_cons keep_is' (calmKeep_cons keep_is' (calmKeep_cons keep_is' (calmKeep_cons keep_is' (calmKeep_cons keep_is' (calmKeep_cons keep_is' (calmKeep_cons keep_is' (calmKeep_cons keep_is' (calmKeep_cons keep_is' (calmKeep_cons keep_is' (calmKeep_cons keep_is' (calmKeep_cons keep_is' (calmKeep_cons keep_is' (calmKeep_cons keep_is' (calmKeep_cons keep_is' (calmKeep_cons keep_is' (calmKeep_cons keep_is' (calmKeep_cons keep_is' (calmKeep_cons keep_is' (calmKeep_cons keep_is' (calmKeep_cons keep_is' (calmKeep_cons keep_is' (calmKeep_cons keep_is' (calmKeep_cons keep_is' (calmKeep_cons keep_is' (calmKeep_cons keep_is' (calmKeep_nil))))))))))))))))))))))))))))))) ?_ ?_
          · exact ⟨(by (repeat' (first | (with_reducible exact (Past.refl _ _)) | (with_reducible exact Past.refl _ _) | (with_reducible refine Past.drew ?_) | (with_reducible refine Past.drewN ?_ _) | (with_reducible refine Past.allocs ?_ _) | (with_reducible refine' Past.setIn ?_ ?_ _; rotate_left 1; (simp; done)) | (with_reducible refine' Past.far ?_ ?_ _; rotate_left 1; (first | omega | (simp <;> omega)))))), (by (repeat' (first | (with_reducible exact bC) | (with_reducible refine' Blk.alloc ?_ _) | (with_reducible refine' Blk.drew ?_) | (with_reducible refine' Blk.drewN ?_ _) | (with_reducible refine' Blk.put ?_ ?_) | (with_reducible refine' Blk.far ?_ ?_ _) | exact bC | exact rfl)) <;> (first | omega | (simp <;> omega))), (by (repeat' (first | (with_reducible exact bU) | (with_reducible refine' Blk.alloc ?_ _) | (with_reducible refine' Blk.drew ?_) | (with_reducible refine' Blk.drewN ?_ _) | (with_reducible refine' Blk.put ?_ ?_) | (with_reducible refine' Blk.far ?_ ?_ _) | exact bU | exact rfl)) <;> (first | omega | (simp <;> omega))), (by (repeat' (first | (with_reducible exact bV) | (with_reducible refine' Blk.alloc ?_ _) | (with_reducible refine' Blk.drew ?_) | (with_reducible refine' Blk.drewN ?_ _) | (with_reducible refine' Blk.put ?_ ?_) | (with_reducible refine' Blk.far ?_ ?_ _) | exact bV | exact rfl)) <;> (first | omega | (simp <;> omega))), (by first | exact Nat.le_refl _ | omega | (simp <;> omega))⟩
          rotate_left 30
          · skip
            refine dSteps_cons (fun uu wq D hd hn hn2 hC hk K hK => ?_) ?_
            · obtain ⟨hP, mC, mU, mV, hZ⟩ := hC
              clear hn hn2
              clear hk
              go_simp
              exact hK _ _ _ rfl ⟨hP, mC, mU, mV, hZ⟩ trivial rfl
            refine dSteps_cons (fun uu wq D hd hn hn2 hC hk K hK => ?_) ?_
            · obtain ⟨hP, mC, mU, mV, hZ⟩ := hC
              clear hn hn2
              simp only [calmKnown, List.getElem?_cons_zero, List.getElem?_cons_succ, and_true, Is, Pure, Option.some.injEq, List.getD_cons_zero, List.getD_cons_succ, List.map_cons, List.map_nil] at hk
              have h0 := hk; clear hk
              simp only [h0] at hK ⊢
              have H0 := Lib.hid h0; clear h0
              have cC := mC.cell; have lC := mC.lt
              have cU := mU.cell; have lU := mU.lt
              have cV := mV.cell; have lV := mV.lt
              go_simp
              exact hK _ _ _ rfl ⟨hP, mC, mU, mV, hZ⟩ trivial rfl
            refine dSteps_cons (fun uu wq D hd hn hn2 hC hk K hK => ?_) ?_
            · obtain ⟨hP, mC, mU, mV, hZ⟩ := hC
              clear hn hn2
              simp only [calmKnown, List.getElem?_cons_zero, List.getElem?_cons_succ, and_true, Is, Pure, Option.some.injEq, List.getD_cons_zero, List.getD_cons_succ, List.map_cons, List.map_nil] at hk
              have h1 := hk; clear hk
              simp only [h1] at hK ⊢
              have H1 := Lib.hid h1; clear h1
              go_simp
              exact hK _ _ _ rfl ⟨hP, mC, mU, mV, hZ⟩ trivial rfl
            refine dSteps_cons (fun uu wq D hd hn hn2 hC hk K hK => ?_) ?_
            · obtain ⟨hP, mC, mU, mV, hZ⟩ := hC
              clear hn hn2
              simp only [calmKnown, List.getElem?_cons_zero, List.getElem?_cons_succ, and_true, Is, Pure, Option.some.injEq, List.getD_cons_zero, List.getD_cons_succ, List.map_cons, List.map_nil] at hk
              have h2 := hk; clear hk
              simp only [h2] at hK ⊢
              have H2 := Lib.hid h2; clear h2
              go_simp
              exact hK _ _ _ rfl ⟨hP, mC, mU, mV, hZ⟩ trivial rfl
            refine dSteps_cons (fun uu wq D hd hn hn2 hC hk K hK => ?_) ?_
            · obtain ⟨hP, mC, mU, mV, hZ⟩ := hC
              clear hn hn2
              simp only [calmKnown, List.getElem?_cons_zero, List.getElem?_cons_succ, and_true, Is, Pure, Option.some.injEq, List.getD_cons_zero, List.getD_cons_succ, List.map_cons, List.map_nil] at hk
              obtain ⟨h3, h2⟩ := hk
              simp only [h3, h2] at hK ⊢
              have H3 := Lib.hid h3; clear h3; have H2 := Lib.hid h2; clear h2
              have cC := mC.cell; have lC := mC.lt
              have cU := mU.cell; have lU := mU.lt
              have cV := mV.cell; have lV := mV.lt
              go_simp
              exact hK _ _ _ rfl ⟨hP, mC, mU, mV, hZ⟩ trivial rfl
            refine dSteps_cons (fun uu wq D hd hn hn2 hC hk K hK => ?_) ?_
            · obtain ⟨hP, mC, mU, mV, hZ⟩ := hC
              clear hn hn2
              simp only [calmKnown, List.getElem?_cons_zero, List.getElem?_cons_succ, and_true, Is, Pure, Option.some.injEq, List.getD_cons_zero, List.getD_cons_succ, List.map_cons, List.map_nil] at hk
              obtain ⟨h4, h2⟩ := hk
              simp only [h4, h2] at hK ⊢
              have H4 := Lib.hid h4; clear h4; have H2 := Lib.hid h2; clear h2
              go_simp
              exact hK _ _ _ rfl ⟨hP, mC, mU, mV, hZ⟩ trivial rfl
            refine dSteps_cons (fun uu wq D hd hn hn2 hC hk K hK => ?_) ?_
            · obtain ⟨hP, mC, mU, mV, hZ⟩ := hC
              clear hn hn2
              simp only [calmKnown, List.getElem?_cons_zero, List.getElem?_cons_succ, and_true, Is, Pure, Option.some.injEq, List.getD_cons_zero, List.getD_cons_succ, List.map_cons, List.map_nil] at hk
              obtain ⟨h5, h2⟩ := hk
              simp only [h5, h2] at hK ⊢
              have H5 := Lib.hid h5; clear h5; have H2 := Lib.hid h2; clear h2
              go_simp
              exact hK _ _ _ rfl ⟨hP, mC, mU, mV, hZ⟩ trivial rfl
            refine dSteps_cons (fun uu wq D hd hn hn2 hC hk K hK => ?_) ?_
            · obtain ⟨hP, mC, mU, mV, hZ⟩ := hC
              clear hn hn2
              simp only [calmKnown, List.getElem?_cons_zero, List.getElem?_cons_succ, and_true, Is, Pure, Option.some.injEq, List.getD_cons_zero, List.getD_cons_succ, List.map_cons, List.map_nil] at hk
              have h6 := hk; clear hk
              simp only [h6] at hK ⊢
              have H6 := Lib.hid h6; clear h6
              go_simp
              exact hK _ _ _ rfl ⟨hP, mC, mU, mV, hZ⟩ trivial rfl
            refine dSteps_cons (fun uu wq D hd hn hn2 hC hk K hK => ?_) ?_
            · obtain ⟨hP, mC, mU, mV, hZ⟩ := hC
              clear hn hn2
              simp only [calmKnown, List.getElem?_cons_zero, List.getElem?_cons_succ, and_true, Is, Pure, Option.some.injEq, List.getD_cons_zero, List.getD_cons_succ, List.map_cons, List.map_nil] at hk
              obtain ⟨h7, h6⟩ := hk
              simp only [h7, h6] at hK ⊢
              have H7 := Lib.hid h7; clear h7; have H6 := Lib.hid h6; clear h6
              go_simp
              exact hK _ _ _ rfl ⟨hP, mC, mU, mV, hZ⟩ trivial rfl
            refine dSteps_cons (fun uu wq D hd hn hn2 hC hk K hK => ?_) ?_
            · obtain ⟨hP, mC, mU, mV, hZ⟩ := hC
              clear hn hn2
              simp only [calmKnown, List.getElem?_cons_zero, List.getElem?_cons_succ, and_true, Is, Pure, Option.some.injEq, List.getD_cons_zero, List.getD_cons_succ, List.map_cons, List.map_nil] at hk
              obtain ⟨h8, h6⟩ := hk
              simp only [h8, h6] at hK ⊢
              have H8 := Lib.hid h8; clear h8; have H6 := Lib.hid h6; clear h6
              have cC := mC.cell; have lC := mC.lt
              have cU := mU.cell; have lU := mU.lt
              have cV := mV.cell; have lV := mV.lt
              go_simp
              exact hK _ _ _ rfl ⟨hP, mC, mU, mV, hZ⟩ trivial rfl
            refine dSteps_cons (fun uu wq D hd hn hn2 hC hk K hK => ?_) ?_
            · obtain ⟨hP, mC, mU, mV, hZ⟩ := hC
              clear hn hn2
              simp only [calmKnown, List.getElem?_cons_zero, List.getElem?_cons_succ, and_true, Is, Pure, Option.some.injEq, List.getD_cons_zero, List.getD_cons_succ, List.map_cons, List.map_nil] at hk
              have h6 := hk; clear hk
              simp only [h6] at hK ⊢
              have H6 := Lib.hid h6; clear h6
              go_simp
              exact hK _ _ _ rfl ⟨hP, mC, mU, mV, hZ⟩ trivial rfl
            refine dSteps_cons (fun uu wq D hd hn hn2 hC hk K hK => ?_) ?_
            · obtain ⟨hP, mC, mU, mV, hZ⟩ := hC
              clear hn hn2
              simp only [calmKnown, List.getElem?_cons_zero, List.getElem?_cons_succ, and_true, Is, Pure, Option.some.injEq, List.getD_cons_zero, List.getD_cons_succ, List.map_cons, List.map_nil] at hk
              obtain ⟨h10, h6⟩ := hk
              simp only [h10, h6] at hK ⊢
              have H10 := Lib.hid h10; clear h10; have H6 := Lib.hid h6; clear h6
              go_simp
              exact hK _ _ _ rfl ⟨hP, mC, mU, mV, hZ⟩ trivial rfl
            refine dSteps_cons (fun uu wq D hd hn hn2 hC hk K hK => ?_) ?_
            · obtain ⟨hP, mC, mU, mV, hZ⟩ := hC
              clear hn hn2
              simp only [calmKnown, List.getElem?_cons_zero, List.getElem?_cons_succ, and_true, Is, Pure, Option.some.injEq, List.getD_cons_zero, List.getD_cons_succ, List.map_cons, List.map_nil] at hk
              obtain ⟨h11, h6⟩ := hk
              simp only [h11, h6] at hK ⊢
              have H11 := Lib.hid h11; clear h11; have H6 := Lib.hid h6; clear h6
              have cC := mC.cell; have lC := mC.lt
              have cU := mU.cell; have lU := mU.lt
              have cV := mV.cell; have lV := mV.lt
              go_simp
              exact hK _ _ _ rfl ⟨hP, mC, mU, mV, hZ⟩ trivial rfl
            refine dSteps_cons (fun uu wq D hd hn hn2 hC hk K hK => ?_) ?_
            · obtain ⟨hP, mC, mU, mV, hZ⟩ := hC
              clear hn hn2
              simp only [calmKnown, List.getElem?_cons_zero, List.getElem?_cons_succ, and_true, Is, Pure, Option.some.injEq, List.getD_cons_zero, List.getD_cons_succ, List.map_cons, List.map_nil] at hk
              obtain ⟨h9, h12, h6⟩ := hk
              simp only [h9, h12, h6] at hK ⊢
              have H9 := Lib.hid h9; clear h9; have H12 := Lib.hid h12; clear h12; have H6 := Lib.hid h6; clear h6
              go_simp
              exact hK _ _ _ rfl ⟨hP, mC, mU, mV, hZ⟩ trivial rfl
            refine dSteps_cons (fun uu wq D hd hn hn2 hC hk K hK => ?_) ?_
            · obtain ⟨hP, mC, mU, mV, hZ⟩ := hC
              clear hn hn2
              simp only [calmKnown, List.getElem?_cons_zero, List.getElem?_cons_succ, and_true, Is, Pure, Option.some.injEq, List.getD_cons_zero, List.getD_cons_succ, List.map_cons, List.map_nil] at hk
              obtain ⟨h6, h13, h2⟩ := hk
              simp only [h6, h13, h2] at hK ⊢
              have H6 := Lib.hid h6; clear h6; have H13 := Lib.hid h13; clear h13; have H2 := Lib.hid h2; clear h2
              go_simp
              exact hK _ _ _ rfl ⟨hP, mC, mU, mV, hZ⟩ trivial rfl
            refine dSteps_cons (fun uu wq D hd hn hn2 hC hk K hK => ?_) ?_
            · obtain ⟨hP, mC, mU, mV, hZ⟩ := hC
              clear hn hn2
              simp only [calmKnown, List.getElem?_cons_zero, List.getElem?_cons_succ, and_true, Is, Pure, Option.some.injEq, List.getD_cons_zero, List.getD_cons_succ, List.map_cons, List.map_nil] at hk
              obtain ⟨h14, h2⟩ := hk
              simp only [h14, h2] at hK ⊢
              have H14 := Lib.hid h14; clear h14; have H2 := Lib.hid h2; clear h2
              go_simp
              exact hK _ _ _ rfl ⟨hP, mC, mU, mV, hZ⟩ trivial rfl
            refine dSteps_cons (fun uu wq D hd hn hn2 hC hk K hK => ?_) ?_
            · obtain ⟨hP, mC, mU, mV, hZ⟩ := hC
              clear hn hn2
              simp only [calmKnown, List.getElem?_cons_zero, List.getElem?_cons_succ, and_true, Is, Pure, Option.some.injEq, List.getD_cons_zero, List.getD_cons_succ, List.map_cons, List.map_nil] at hk
              have h15 := hk; clear hk
              simp only [h15] at hK ⊢
              have H15 := Lib.hid h15; clear h15
              go_simp
              exact hK _ _ _ rfl ⟨hP, mC, mU, mV, hZ⟩ trivial rfl
            refine dSteps_cons (fun uu wq D hd hn hn2 hC hk K hK => ?_) ?_
            · obtain ⟨hP, mC, mU, mV, hZ⟩ := hC
              clear hn hn2
              simp only [calmKnown, List.getElem?_cons_zero, List.getElem?_cons_succ, and_true, Is, Pure, Option.some.injEq, List.getD_cons_zero, List.getD_cons_succ, List.map_cons, List.map_nil] at hk
              obtain ⟨h16, h15⟩ := hk
              simp only [h16, h15] at hK ⊢
              have H16 := Lib.hid h16; clear h16; have H15 := Lib.hid h15; clear h15
              have cC := mC.cell; have lC := mC.lt
              have cU := mU.cell; have lU := mU.lt
              have cV := mV.cell; have lV := mV.lt
              go_simp
              exact hK _ _ _ rfl ⟨hP, mC, mU, mV, hZ⟩ trivial rfl
            refine dSteps_cons (fun uu wq D hd hn hn2 hC hk K hK => ?_) ?_
            · obtain ⟨hP, mC, mU, mV, hZ⟩ := hC
              clear hn hn2
              simp only [calmKnown, List.getElem?_cons_zero, List.getElem?_cons_succ, and_true, Is, Pure, Option.some.injEq, List.getD_cons_zero, List.getD_cons_succ, List.map_cons, List.map_nil] at hk
              obtain ⟨h17, h15⟩ := hk
              simp only [h17, h15] at hK ⊢
              have H17 := Lib.hid h17; clear h17; have H15 := Lib.hid h15; clear h15
              go_simp
              exact hK _ _ _ rfl ⟨hP, mC, mU, mV, hZ⟩ trivial rfl
            refine dSteps_cons (fun uu wq D hd hn hn2 hC hk K hK => ?_) ?_
            · obtain ⟨hP, mC, mU, mV, hZ⟩ := hC
              clear hn hn2
              simp only [calmKnown, List.getElem?_cons_zero, List.getElem?_cons_succ, and_true, Is, Pure, Option.some.injEq, List.getD_cons_zero, List.getD_cons_succ, List.map_cons, List.map_nil] at hk
              obtain ⟨h18, h15⟩ := hk
              simp only [h18, h15] at hK ⊢
              have H18 := Lib.hid h18; clear h18; have H15 := Lib.hid h15; clear h15
              go_simp
              exact hK _ _ _ rfl ⟨hP, mC, mU, mV, hZ⟩ trivial rfl
            refine dSteps_cons (fun uu wq D hd hn hn2 hC hk K hK => ?_) ?_
            · obtain ⟨hP, mC, mU, mV, hZ⟩ := hC
              clear hn hn2
              simp only [calmKnown, List.getElem?_cons_zero, List.getElem?_cons_succ, and_true, Is, Pure, Option.some.injEq, List.getD_cons_zero, List.getD_cons_succ, List.map_cons, List.map_nil] at hk
              have h19 := hk; clear hk
              simp only [h19] at hK ⊢
              have H19 := Lib.hid h19; clear h19
              go_simp
              exact hK _ _ _ rfl ⟨hP, mC, mU, mV, hZ⟩ trivial rfl
            refine dSteps_cons (fun uu wq D hd hn hn2 hC hk K hK => ?_) ?_
            · obtain ⟨hP, mC, mU, mV, hZ⟩ := hC
              clear hn hn2
              simp only [calmKnown, List.getElem?_cons_zero, List.getElem?_cons_succ, and_true, Is, Pure, Option.some.injEq, List.getD_cons_zero, List.getD_cons_succ, List.map_cons, List.map_nil] at hk
              obtain ⟨h20, h19⟩ := hk
              simp only [h20, h19] at hK ⊢
              have H20 := Lib.hid h20; clear h20; have H19 := Lib.hid h19; clear h19
              have cC := mC.cell; have lC := mC.lt
              have cU := mU.cell; have lU := mU.lt
              have cV := mV.cell; have lV := mV.lt
              go_simp
              exact hK _ _ _ rfl ⟨hP, mC, mU, mV, hZ⟩ trivial rfl
            refine dSteps_cons (fun uu wq D hd hn hn2 hC hk K hK => ?_) ?_
            · obtain ⟨hP, mC, mU, mV, hZ⟩ := hC
              clear hn hn2
              simp only [calmKnown, List.getElem?_cons_zero, List.getElem?_cons_succ, and_true, Is, Pure, Option.some.injEq, List.getD_cons_zero, List.getD_cons_succ, List.map_cons, List.map_nil] at hk
              obtain ⟨h21, h19⟩ := hk
              simp only [h21, h19] at hK ⊢
              have H21 := Lib.hid h21; clear h21; have H19 := Lib.hid h19; clear h19
              go_simp
              exact hK _ _ _ rfl ⟨hP, mC, mU, mV, hZ⟩ trivial rfl
            refine dSteps_cons (fun uu wq D hd hn hn2 hC hk K hK => ?_) ?_
            · obtain ⟨hP, mC, mU, mV, hZ⟩ := hC
              clear hn hn2
              simp only [calmKnown, List.getElem?_cons_zero, List.getElem?_cons_succ, and_true, Is, Pure, Option.some.injEq, List.getD_cons_zero, List.getD_cons_succ, List.map_cons, List.map_nil] at hk
              have h19 := hk; clear hk
              simp only [h19] at hK ⊢
              have H19 := Lib.hid h19; clear h19
              go_simp
              exact hK _ _ _ rfl ⟨hP, mC, mU, mV, hZ⟩ trivial rfl
            refine dSteps_cons (fun uu wq D hd hn hn2 hC hk K hK => ?_) ?_
            · obtain ⟨hP, mC, mU, mV, hZ⟩ := hC
              clear hn hn2
              simp only [calmKnown, List.getElem?_cons_zero, List.getElem?_cons_succ, and_true, Is, Pure, Option.some.injEq, List.getD_cons_zero, List.getD_cons_succ, List.map_cons, List.map_nil] at hk
              obtain ⟨h23, h19⟩ := hk
              simp only [h23, h19] at hK ⊢
              have H23 := Lib.hid h23; clear h23; have H19 := Lib.hid h19; clear h19
              have cC := mC.cell; have lC := mC.lt
              have cU := mU.cell; have lU := mU.lt
              have cV := mV.cell; have lV := mV.lt
              go_simp
              exact hK _ _ _ rfl ⟨hP, mC, mU, mV, hZ⟩ trivial rfl
            refine dSteps_cons (fun uu wq D hd hn hn2 hC hk K hK => ?_) ?_
            · obtain ⟨hP, mC, mU, mV, hZ⟩ := hC
              clear hn hn2
              simp only [calmKnown, List.getElem?_cons_zero, List.getElem?_cons_succ, and_true, Is, Pure, Option.some.injEq, List.getD_cons_zero, List.getD_cons_succ, List.map_cons, List.map_nil] at hk
              obtain ⟨h24, h19⟩ := hk
              simp only [h24, h19] at hK ⊢
              have H24 := Lib.hid h24; clear h24; have H19 := Lib.hid h19; clear h19
              go_simp
              exact hK _ _ _ rfl ⟨hP, mC, mU, mV, hZ⟩ trivial rfl
            refine dSteps_cons (fun uu wq D hd hn hn2 hC hk K hK => ?_) ?_
            · obtain ⟨hP, mC, mU, mV, hZ⟩ := hC
              clear hn hn2
              simp only [calmKnown, List.getElem?_cons_zero, List.getElem?_cons_succ, and_true, Is, Pure, Option.some.injEq, List.getD_cons_zero, List.getD_cons_succ, List.map_cons, List.map_nil] at hk
              obtain ⟨h22, h25, h19⟩ := hk
              simp only [h22, h25, h19] at hK ⊢
              have H22 := Lib.hid h22; clear h22; have H25 := Lib.hid h25; clear h25; have H19 := Lib.hid h19; clear h19
              go_simp
              exact hK _ _ _ rfl ⟨hP, mC, mU, mV, hZ⟩ trivial rfl
            refine dSteps_cons (fun uu wq D hd hn hn2 hC hk K hK => ?_) ?_
            · obtain ⟨hP, mC, mU, mV, hZ⟩ := hC
              clear hn hn2
              simp only [calmKnown, List.getElem?_cons_zero, List.getElem?_cons_succ, and_true, Is, Pure, Option.some.injEq, List.getD_cons_zero, List.getD_cons_succ, List.map_cons, List.map_nil] at hk
              obtain ⟨h19, h26, h15⟩ := hk
              simp only [h19, h26, h15] at hK ⊢
              have H19 := Lib.hid h19; clear h19; have H26 := Lib.hid h26; clear h26; have H15 := Lib.hid h15; clear h15
              go_simp
              exact hK _ _ _ rfl ⟨hP, mC, mU, mV, hZ⟩ trivial rfl
            refine dSteps_cons (fun uu wq D hd hn hn2 hC hk K hK => ?_) ?_
            · obtain ⟨hP, mC, mU, mV, hZ⟩ := hC
              clear hn hn2
              simp only [calmKnown, List.getElem?_cons_zero, List.getElem?_cons_succ, and_true, Is, Pure, Option.some.injEq, List.getD_cons_zero, List.getD_cons_succ, List.map_cons, List.map_nil] at hk
              obtain ⟨h15, h27, h2⟩ := hk
              simp only [h15, h27, h2] at hK ⊢
              have H15 := Lib.hid h15; clear h15; have H27 := Lib.hid h27; clear h27; have H2 := Lib.hid h2; clear h2
              go_simp
              exact hK _ _ _ rfl ⟨hP, mC, mU, mV, hZ⟩ trivial rfl
            refine dSteps_cons (fun uu wq D hd hn hn2 hC hk K hK => ?_) ?_
            · obtain ⟨hP, mC, mU, mV, hZ⟩ := hC
              clear hn hn2
              simp only [calmKnown, List.getElem?_cons_zero, List.getElem?_cons_succ, and_true, Is, Pure, Option.some.injEq, List.getD_cons_zero, List.getD_cons_succ, List.map_cons, List.map_nil] at hk
              obtain ⟨h2, h28⟩ := hk
              simp only [h2, h28] at hK ⊢
              have H2 := Lib.hid h2; clear h2; have H28 := Lib.hid h28; clear h28
              go_simp
              exact hK _ _ _ rfl ⟨hP, mC, mU, mV, hZ⟩ trivial rfl
            exact dSteps_nil
          · intro uu v2 D hD hC hF
            obtain ⟨hP, mC, mU, mV, hZ⟩ := hC
            simp only [calmFacts, Is, and_true, true_and] at hF
            obtain ⟨f0, f1, f2, f3, f4, f5, f6, f7, f8, f9, f10, f11, f12, f13, f14, f15, f16, f17, f18, f19, f20, f21, f22, f23, f24, f25, f26, f27, f28, f29⟩ := hF
            simp only [f0, f1, f2, f3, f4, f5, f6, f7, f8, f9, f10, f11, f12, f13, f14, f15, f16, f17, f18, f19, f20, f21, f22, f23, f24, f25, f26, f27, f28, f29]
            have hq := hP; clear hP
            have Kv2 : Past [] wr v2 := Past.trans Kv1 hq
            have Zv2 := hZ; clear hZ
            clear hq Kv1
            clear bC cC fC lC eC kC; have bC := mC
            clear bU cU fU lU eU kU; have bU := mU
            clear bV cV fV lV eV kV; have bV := mV
            clear mC mU mV hD
            obtain ⟨cC, fC, lC, eC, kC⟩ := Blk.facts bC
            obtain ⟨cU, fU, lU, eU, kU⟩ := Blk.facts bU
            obtain ⟨cV, fV, lV, eV, kV⟩ := Blk.facts bV
            go_wp2
            go_roundg (n - (q + 1) + 1)
            case measure => omega
            case rel => exact ⟨q + 1, by omega, by omega, by omega, by go_num, kept_call (Past.toBelow (by (repeat' (first | (with_reducible exact Kv2) | (with_reducible exact Past.refl _ _) | (with_reducible refine Past.drew ?_) | (with_reducible refine Past.drewN ?_ _) | (with_reducible refine Past.allocs ?_ _) | (with_reducible refine' Past.setIn ?_ ?_ _; rotate_left 1; (simp; done)) | (with_reducible refine' Past.far ?_ ?_ _; rotate_left 1; (first | omega | (simp <;> omega))))))) KR⟩
        | true =>
          obtain ⟨hb2, hlo, hwid⟩ := HF.out rfl
          subst hb2
          have glo : decide (b3 < a3) = false := decide_eq_false (by omega)
          by_cases hp0 : p = 0
          · subst hp0
            have hwd := hwid rfl
            have RWa := Lib.hid (fun W => rwidth_any a3 a4 W)
            have RWb := Lib.hid (fun W => rwidth_any b3 b4 W)
            generalize wid a3 a4 = wa at hwd RWa
            generalize wid b3 b4 = wb at hwd RWb
            have gw : decide (wa < wb) = false := decide_eq_false (by omega)
            clear hwid hlo hwd
            go_upto_region 9 with fail
            refine' wp_region_calmD (by kernel_rfl) (fun D u9 w' => Past [] v1 w' ∧ Blk w' (w2.heap.size) 54 #[.int .i64 sta, .int .i64 loc, .int .i64 0, .int .i64 li, .int .i64 ai, .slice EA es.length ecap, .slice SA xs.length scap] ∧ Blk w' (gU) 64 #[.int .i64 a0, .int .i64 a1, .bool true, .int .i64 a3, .int .i64 a4, .int .i64 a5, .int .i64 a6, .bool a7, .bool a8, .int .i64 a9, .int .i64 a10] ∧ Blk w' (gV) 64 #[.int .i64 b0, .int .i64 b1, .bool true, .int .i64 b3, .int .i64 b4, .int .i64 b5, .int .i64 b6, .bool b7, .bool b8, .int .i64 b9, .int .i64 b10] ∧ v1.heap.size ≤ w'.heap.size) (fun _ _ => True) [(Is _), (Is _), (Is _), (Is _), (Is _), (Is _), (Is _), (Is _), (Is _), (Is _), (Is _), (Is _), (Is _), (Is _), (Is _), (Is _), (Is _), (Is _), (Is _), (Is _), (Is _), (Is _), (Is _), (Is _), (Is _), (Is _), (Is _), (Is _), (Is _), (Is _)] [[], [0], [1], [2], [3, 2], [4, 2], [5, 2], [6], [7, 6], [8, 6], [6], [10, 6], [11, 6], [9, 12, 6], [6, 13, 2], [14, 2], [15], [16, 15], [17, 15], [18, 15], [19], [20, 19], [21, 19], [19], [23, 19], [24, 19], [22, 25, 19], [19, 26, 15], [15, 27, 2], [2, 28]] rfl (by kernel_rfl) (fun u => by (simp only [calmPut, Act.put, List.setIfInBounds_toArray, List.set_cons_zero, List.set_cons_succ, Nat.zero_add, Nat.reduceAdd]; rfl)) ?_ (calmKeep_cons keep_is' (calmKeep_cons keep_is' (calmKeep_cons keep_is' (calmKeep_cons keep_is' (calmKeep_cons keep_is' (calmKeep_cons keep_is' (calmKeep_cons keep_is' (calmKeep_cons keep_is' (calmKeep_cons keep_is' (calmKeep_cons keep_is' (calmKeep_cons keep_is' (calmKeep_cons keep_is' (calmKeep_cons keep_is' (calmKeep_cons keep_is' (calmKeep_cons keep_is' (calmKeep_cons keep_is' (calmKeep_cons keep_is' (calmKeep_cons keep_is' (calmKeep_cons keep_is' (calmKeep_cons keep_is' (calmKeep_cons keep_is' (calmKeep_cons keep_is' (calmKeep_cons keep_is' (calmKeep_cons keep_is' (calmKeep_cons keep_is' (calmKeep_cons keep_is' (calmKeep_cons keep_is' (calmKeep_cons keep_is' (calmKeep_cons keep_is' (calmKeep_cons keep_is' (calmKeep_nil))))))))))))))))))))))))))))))) ?_ ?_
            · exact ⟨(by (repeat' (first | (with_reducible exact (Past.refl _ _)) | (with_reducible exact Past.refl _ _) | (with_reducible refine Past.drew ?_) | (with_reducible refine Past.drewN ?_ _) | (with_reducible refine Past.allocs ?_ _) | (with_reducible refine' Past.setIn ?_ ?_ _; rotate_left 1; (simp; done)) | (with_reducible refine' Past.far ?_ ?_ _; rotate_left 1; (first | omega | (simp <;> omega)))))), (by (repeat' (first | (with_reducible exact bC) | (with_reducible refine' Blk.alloc ?_ _) | (with_reducible refine' Blk.drew ?_) | (with_reducible refine' Blk.drewN ?_ _) | (with_reducible refine' Blk.put ?_ ?_) | (with_reducible refine' Blk.far ?_ ?_ _) | exact bC | exact rfl)) <;> (first | omega | (simp <;> omega))), (by (repeat' (first | (with_reducible exact bU) | (with_reducible refine' Blk.alloc ?_ _) | (with_reducible refine' Blk.drew ?_) | (with_reducible refine' Blk.drewN ?_ _) | (with_reducible refine' Blk.put ?_ ?_) | (with_reducible refine' Blk.far ?_ ?_ _) | exact bU | exact rfl)) <;> (first | omega | (simp <;> omega))), (by (repeat' (first | (with_reducible exact bV) | (with_reducible refine' Blk.alloc ?_ _) | (with_reducible refine' Blk.drew ?_) | (with_reducible refine' Blk.drewN ?_ _) | (with_reducible refine' Blk.put ?_ ?_) | (with_reducible refine' Blk.far ?_ ?_ _) | exact bV | exact rfl)) <;> (first | omega | (simp <;> omega))), (by first | exact Nat.le_refl _ | omega | (simp <;> omega))⟩
            rotate_left 30
            · skip
              refine dSteps_cons (fun uu wq D hd hn hn2 hC hk K hK => ?_) ?_
              · obtain ⟨hP, mC, mU, mV, hZ⟩ := hC
                clear hn hn2
                clear hk
                go_simp
                exact hK _ _ _ rfl ⟨hP, mC, mU, mV, hZ⟩ trivial rfl
              refine dSteps_cons (fun uu wq D hd hn hn2 hC hk K hK => ?_) ?_
              · obtain ⟨hP, mC, mU, mV, hZ⟩ := hC
                clear hn hn2
                simp only [calmKnown, List.getElem?_cons_zero, List.getElem?_cons_succ, and_true, Is, Pure, Option.some.injEq, List.getD_cons_zero, List.getD_cons_succ, List.map_cons, List.map_nil] at hk
                have h0 := hk; clear hk
                simp only [h0] at hK ⊢
                have H0 := Lib.hid h0; clear h0
                have cC := mC.cell; have lC := mC.lt
                have cU := mU.cell; have lU := mU.lt
                have cV := mV.cell; have lV := mV.lt
                go_simp
                exact hK _ _ _ rfl ⟨hP, mC, mU, mV, hZ⟩ trivial rfl
              refine dSteps_cons (fun uu wq D hd hn hn2 hC hk K hK => ?_) ?_
              · obtain ⟨hP, mC, mU, mV, hZ⟩ := hC
                clear hn hn2
                simp only [calmKnown, List.getElem?_cons_zero, List.getElem?_cons_succ, and_true, Is, Pure, Option.some.injEq, List.getD_cons_zero, List.getD_cons_succ, List.map_cons, List.map_nil] at hk
                have h1 := hk; clear hk
                simp only [h1] at hK ⊢
                have H1 := Lib.hid h1; clear h1
                go_simp
                exact hK _ _ _ rfl ⟨hP, mC, mU, mV, hZ⟩ trivial rfl
              refine dSteps_cons (fun uu wq D hd hn hn2 hC hk K hK => ?_) ?_
              · obtain ⟨hP, mC, mU, mV, hZ⟩ := hC
                clear hn hn2
                simp only [calmKnown, List.getElem?_cons_zero, List.getElem?_cons_succ, and_true, Is, Pure, Option.some.injEq, List.getD_cons_zero, List.getD_cons_succ, List.map_cons, List.map_nil] at hk
                have h2 := hk; clear hk
                simp only [h2] at hK ⊢
                have H2 := Lib.hid h2; clear h2
                go_simp
                exact hK _ _ _ rfl ⟨hP, mC, mU, mV, hZ⟩ trivial rfl
              refine dSteps_cons (fun uu wq D hd hn hn2 hC hk K hK => ?_) ?_
              · obtain ⟨hP, mC, mU, mV, hZ⟩ := hC
                clear hn hn2
                simp only [calmKnown, List.getElem?_cons_zero, List.getElem?_cons_succ, and_true, Is, Pure, Option.some.injEq, List.getD_cons_zero, List.getD_cons_succ, List.map_cons, List.map_nil] at hk
                obtain ⟨h3, h2⟩ := hk
                simp only [h3, h2] at hK ⊢
                have H3 := Lib.hid h3; clear h3; have H2 := Lib.hid h2; clear h2
                have cC := mC.cell; have lC := mC.lt
                have cU := mU.cell; have lU := mU.lt
                have cV := mV.cell; have lV := mV.lt
                go_simp
                exact hK _ _ _ rfl ⟨hP, mC, mU, mV, hZ⟩ trivial rfl
              refine dSteps_cons (fun uu wq D hd hn hn2 hC hk K hK => ?_) ?_
              · obtain ⟨hP, mC, mU, mV, hZ⟩ := hC
                clear hn hn2
                simp only [calmKnown, List.getElem?_cons_zero, List.getElem?_cons_succ, and_true, Is, Pure, Option.some.injEq, List.getD_cons_zero, List.getD_cons_succ, List.map_cons, List.map_nil] at hk
                obtain ⟨h4, h2⟩ := hk
                simp only [h4, h2] at hK ⊢
                have H4 := Lib.hid h4; clear h4; have H2 := Lib.hid h2; clear h2
                go_simp
                exact hK _ _ _ rfl ⟨hP, mC, mU, mV, hZ⟩ trivial rfl
              refine dSteps_cons (fun uu wq D hd hn hn2 hC hk K hK => ?_) ?_
              · obtain ⟨hP, mC, mU, mV, hZ⟩ := hC
                clear hn hn2
                simp only [calmKnown, List.getElem?_cons_zero, List.getElem?_cons_succ, and_true, Is, Pure, Option.some.injEq, List.getD_cons_zero, List.getD_cons_succ, List.map_cons, List.map_nil] at hk
                obtain ⟨h5, h2⟩ := hk
                simp only [h5, h2] at hK ⊢
                have H5 := Lib.hid h5; clear h5; have H2 := Lib.hid h2; clear h2
                go_simp
                exact hK _ _ _ rfl ⟨hP, mC, mU, mV, hZ⟩ trivial rfl
              refine dSteps_cons (fun uu wq D hd hn hn2 hC hk K hK => ?_) ?_
              · obtain ⟨hP, mC, mU, mV, hZ⟩ := hC
                clear hn hn2
                simp only [calmKnown, List.getElem?_cons_zero, List.getElem?_cons_succ, and_true, Is, Pure, Option.some.injEq, List.getD_cons_zero, List.getD_cons_succ, List.map_cons, List.map_nil] at hk
                have h6 := hk; clear hk
                simp only [h6] at hK ⊢
                have H6 := Lib.hid h6; clear h6
                go_simp
                exact hK _ _ _ rfl ⟨hP, mC, mU, mV, hZ⟩ trivial rfl
              refine dSteps_cons (fun uu wq D hd hn hn2 hC hk K hK => ?_) ?_
              · obtain ⟨hP, mC, mU, mV, hZ⟩ := hC
                clear hn hn2
                simp only [calmKnown, List.getElem?_cons_zero, List.getElem?_cons_succ, and_true, Is, Pure, Option.some.injEq, List.getD_cons_zero, List.getD_cons_succ, List.map_cons, List.map_nil] at hk
                obtain ⟨h7, h6⟩ := hk
                simp only [h7, h6] at hK ⊢
                have H7 := Lib.hid h7; clear h7; have H6 := Lib.hid h6; clear h6
                go_simp
                exact hK _ _ _ rfl ⟨hP, mC, mU, mV, hZ⟩ trivial rfl
              refine dSteps_cons (fun uu wq D hd hn hn2 hC hk K hK => ?_) ?_
              · obtain ⟨hP, mC, mU, mV, hZ⟩ := hC
                clear hn hn2
                simp only [calmKnown, List.getElem?_cons_zero, List.getElem?_cons_succ, and_true, Is, Pure, Option.some.injEq, List.getD_cons_zero, List.getD_cons_succ, List.map_cons, List.map_nil] at hk
                obtain ⟨h8, h6⟩ := hk
                simp only [h8, h6] at hK ⊢
                have H8 := Lib.hid h8; clear h8; have H6 := Lib.hid h6; clear h6
                have cC := mC.cell; have lC := mC.lt
                have cU := mU.cell; have lU := mU.lt
                have cV := mV.cell; have lV := mV.lt
                go_simp
                exact hK _ _ _ rfl ⟨hP, mC, mU, mV, hZ⟩ trivial rfl
              refine dSteps_cons (fun uu wq D hd hn hn2 hC hk K hK => ?_) ?_
              · obtain ⟨hP, mC, mU, mV, hZ⟩ := hC
                clear hn hn2
                simp only [calmKnown, List.getElem?_cons_zero, List.getElem?_cons_succ, and_true, Is, Pure, Option.some.injEq, List.getD_cons_zero, List.getD_cons_succ, List.map_cons, List.map_nil] at hk
                have h6 := hk; clear hk
                simp only [h6] at hK ⊢
                have H6 := Lib.hid h6; clear h6
                go_simp
                exact hK _ _ _ rfl ⟨hP, mC, mU, mV, hZ⟩ trivial rfl
              refine dSteps_cons (fun uu wq D hd hn hn2 hC hk K hK => ?_) ?_
              · obtain ⟨hP, mC, mU, mV, hZ⟩ := hC
                clear hn hn2
                simp only [calmKnown, List.getElem?_cons_zero, List.getElem?_cons_succ, and_true, Is, Pure, Option.some.injEq, List.getD_cons_zero, List.getD_cons_succ, List.map_cons, List.map_nil] at hk
                obtain ⟨h10, h6⟩ := hk
                simp only [h10, h6] at hK ⊢
                have H10 := Lib.hid h10; clear h10; have H6 := Lib.hid h6; clear h6
                go_simp
                exact hK _ _ _ rfl ⟨hP, mC, mU, mV, hZ⟩ trivial rfl
              refine dSteps_cons (fun uu wq D hd hn hn2 hC hk K hK => ?_) ?_
              · obtain ⟨hP, mC, mU, mV, hZ⟩ := hC
                clear hn hn2
                simp only [calmKnown, List.getElem?_cons_zero, List.getElem?_cons_succ, and_true, Is, Pure, Option.some.injEq, List.getD_cons_zero, List.getD_cons_succ, List.map_cons, List.map_nil] at hk
                obtain ⟨h11, h6⟩ := hk
                simp only [h11, h6] at hK ⊢
                have H11 := Lib.hid h11; clear h11; have H6 := Lib.hid h6; clear h6
                have cC := mC.cell; have lC := mC.lt
                have cU := mU.cell; have lU := mU.lt
                have cV := mV.cell; have lV := mV.lt
                go_simp
                exact hK _ _ _ rfl ⟨hP, mC, mU, mV, hZ⟩ trivial rfl
              refine dSteps_cons (fun uu wq D hd hn hn2 hC hk K hK => ?_) ?_
              · obtain ⟨hP, mC, mU, mV, hZ⟩ := hC
                clear hn hn2
                simp only [calmKnown, List.getElem?_cons_zero, List.getElem?_cons_succ, and_true, Is, Pure, Option.some.injEq, List.getD_cons_zero, List.getD_cons_succ, List.map_cons, List.map_nil] at hk
                obtain ⟨h9, h12, h6⟩ := hk
                simp only [h9, h12, h6] at hK ⊢
                have H9 := Lib.hid h9; clear h9; have H12 := Lib.hid h12; clear h12; have H6 := Lib.hid h6; clear h6
                go_simp
                exact hK _ _ _ rfl ⟨hP, mC, mU, mV, hZ⟩ trivial rfl
              refine dSteps_cons (fun uu wq D hd hn hn2 hC hk K hK => ?_) ?_
              · obtain ⟨hP, mC, mU, mV, hZ⟩ := hC
                clear hn hn2
                simp only [calmKnown, List.getElem?_cons_zero, List.getElem?_cons_succ, and_true, Is, Pure, Option.some.injEq, List.getD_cons_zero, List.getD_cons_succ, List.map_cons, List.map_nil] at hk
                obtain ⟨h6, h13, h2⟩ := hk
                simp only [h6, h13, h2] at hK ⊢
                have H6 := Lib.hid h6; clear h6; have H13 := Lib.hid h13; clear h13; have H2 := Lib.hid h2; clear h2
                go_simp
                exact hK _ _ _ rfl ⟨hP, mC, mU, mV, hZ⟩ trivial rfl
              refine dSteps_cons (fun uu wq D hd hn hn2 hC hk K hK => ?_) ?_
              · obtain ⟨hP, mC, mU, mV, hZ⟩ := hC
                clear hn hn2
                simp only [calmKnown, List.getElem?_cons_zero, List.getElem?_cons_succ, and_true, Is, Pure, Option.some.injEq, List.getD_cons_zero, List.getD_cons_succ, List.map_cons, List.map_nil] at hk
                obtain ⟨h14, h2⟩ := hk
                simp only [h14, h2] at hK ⊢
                have H14 := Lib.hid h14; clear h14; have H2 := Lib.hid h2; clear h2
                go_simp
                exact hK _ _ _ rfl ⟨hP, mC, mU, mV, hZ⟩ trivial rfl
              refine dSteps_cons (fun uu wq D hd hn hn2 hC hk K hK => ?_) ?_
              · obtain ⟨hP, mC, mU, mV, hZ⟩ := hC
                clear hn hn2
                simp only [calmKnown, List.getElem?_cons_zero, List.getElem?_cons_succ, and_true, Is, Pure, Option.some.injEq, List.getD_cons_zero, List.getD_cons_succ, List.map_cons, List.map_nil] at hk
                have h15 := hk; clear hk
                simp only [h15] at hK ⊢
                have H15 := Lib.hid h15; clear h15
                go_simp
                exact hK _ _ _ rfl ⟨hP, mC, mU, mV, hZ⟩ trivial rfl
              refine dSteps_cons (fun uu wq D hd hn hn2 hC hk K hK => ?_) ?_
              · obtain ⟨hP, mC, mU, mV, hZ⟩ := hC
                clear hn hn2
                simp only [calmKnown, List.getElem?_cons_zero, List.getElem?_cons_succ, and_true, Is, Pure, Option.some.injEq, List.getD_cons_zero, List.getD_cons_succ, List.map_cons, List.map_nil] at hk
                obtain ⟨h16, h15⟩ := hk
                simp only [h16, h15] at hK ⊢
                have H16 := Lib.hid h16; clear h16; have H15 := Lib.hid h15; clear h15
                have cC := mC.cell; have lC := mC.lt
                have cU := mU.cell; have lU := mU.lt
                have cV := mV.cell; have lV := mV.lt
                go_simp
                exact hK _ _ _ rfl ⟨hP, mC, mU, mV, hZ⟩ trivial rfl
              refine dSteps_cons (fun uu wq D hd hn hn2 hC hk K hK => ?_) ?_
              · obtain ⟨hP, mC, mU, mV, hZ⟩ := hC
                clear hn hn2
                simp only [calmKnown, List.getElem?_cons_zero, List.getElem?_cons_succ, and_true, Is, Pure, Option.some.injEq, List.getD_cons_zero, List.getD_cons_succ, List.map_cons, List.map_nil] at hk
                obtain ⟨h17, h15⟩ := hk
                simp only [h17, h15] at hK ⊢
                have H17 := Lib.hid h17; clear h17; have H15 := Lib.hid h15; clear h15
                go_simp
                exact hK _ _ _ rfl ⟨hP, mC, mU, mV, hZ⟩ trivial rfl
              refine dSteps_cons (fun uu wq D hd hn hn2 hC hk K hK => ?_) ?_
              · obtain ⟨hP, mC, mU, mV, hZ⟩ := hC
                clear hn hn2
                simp only [calmKnown, List.getElem?_cons_zero, List.getElem?_cons_succ, and_true, Is, Pure, Option.some.injEq, List.getD_cons_zero, List.getD_cons_succ, List.map_cons, List.map_nil] at hk
                obtain ⟨h18, h15⟩ := hk
                simp only [h18, h15] at hK ⊢
                have H18 := Lib.hid h18; clear h18; have H15 := Lib.hid h15; clear h15
                go_simp
                exact hK _ _ _ rfl ⟨hP, mC, mU, mV, hZ⟩ trivial rfl
              refine dSteps_cons (fun uu wq D hd hn hn2 hC hk K hK => ?_) ?_
              · obtain ⟨hP, mC, mU, mV, hZ⟩ := hC
                clear hn hn2
                simp only [calmKnown, List.getElem?_cons_zero, List.getElem?_cons_succ, and_true, Is, Pure, Option.some.injEq, List.getD_cons_zero, List.getD_cons_succ, List.map_cons, List.map_nil] at hk
                have h19 := hk; clear hk
                simp only [h19] at hK ⊢
                have H19 := Lib.hid h19; clear h19
                go_simp
                exact hK _ _ _ rfl ⟨hP, mC, mU, mV, hZ⟩ trivial rfl
              refine dSteps_cons (fun uu wq D hd hn hn2 hC hk K hK => ?_) ?_
              · obtain ⟨hP, mC, mU, mV, hZ⟩ := hC
                clear hn hn2
                simp only [calmKnown, List.getElem?_cons_zero, List.getElem?_cons_succ, and_true, Is, Pure, Option.some.injEq, List.getD_cons_zero, List.getD_cons_succ, List.map_cons, List.map_nil] at hk
                obtain ⟨h20, h19⟩ := hk
                simp only [h20, h19] at hK ⊢
                have H20 := Lib.hid h20; clear h20; have H19 := Lib.hid h19; clear h19
                have cC := mC.cell; have lC := mC.lt
                have cU := mU.cell; have lU := mU.lt
                have cV := mV.cell; have lV := mV.lt
                go_simp
                exact hK _ _ _ rfl ⟨hP, mC, mU, mV, hZ⟩ trivial rfl
              refine dSteps_cons (fun uu wq D hd hn hn2 hC hk K hK => ?_) ?_
              · obtain ⟨hP, mC, mU, mV, hZ⟩ := hC
                clear hn hn2
                simp only [calmKnown, List.getElem?_cons_zero, List.getElem?_cons_succ, and_true, Is, Pure, Option.some.injEq, List.getD_cons_zero, List.getD_cons_succ, List.map_cons, List.map_nil] at hk
                obtain ⟨h21, h19⟩ := hk
                simp only [h21, h19] at hK ⊢
                have H21 := Lib.hid h21; clear h21; have H19 := Lib.hid h19; clear h19
                refine calm_op (by rfl) ?_
                go_simp
                first | (with_reducible refine (RWb.out _).mono ?_) | (with_reducible refine (RWa.out _).mono ?_)
                rintro e w2 ⟨rfl, hbl⟩
                exact hK _ _ _ rfl ⟨hP.call hbl, Blk.keep hbl mC, Blk.keep hbl mU, Blk.keep hbl mV, Nat.le_trans hZ hbl.size⟩ trivial rfl
              refine dSteps_cons (fun uu wq D hd hn hn2 hC hk K hK => ?_) ?_
              · obtain ⟨hP, mC, mU, mV, hZ⟩ := hC
                clear hn hn2
                simp only [calmKnown, List.getElem?_cons_zero, List.getElem?_cons_succ, and_true, Is, Pure, Option.some.injEq, List.getD_cons_zero, List.getD_cons_succ, List.map_cons, List.map_nil] at hk
                have h19 := hk; clear hk
                simp only [h19] at hK ⊢
                have H19 := Lib.hid h19; clear h19
                go_simp
                exact hK _ _ _ rfl ⟨hP, mC, mU, mV, hZ⟩ trivial rfl
              refine dSteps_cons (fun uu wq D hd hn hn2 hC hk K hK => ?_) ?_
              · obtain ⟨hP, mC, mU, mV, hZ⟩ := hC
                clear hn hn2
                simp only [calmKnown, List.getElem?_cons_zero, List.getElem?_cons_succ, and_true, Is, Pure, Option.some.injEq, List.getD_cons_zero, List.getD_cons_succ, List.map_cons, List.map_nil] at hk
                obtain ⟨h23, h19⟩ := hk
                simp only [h23, h19] at hK ⊢
                have H23 := Lib.hid h23; clear h23; have H19 := Lib.hid h19; clear h19
                have cC := mC.cell; have lC := mC.lt
                have cU := mU.cell; have lU := mU.lt
                have cV := mV.cell; have lV := mV.lt
                go_simp
                exact hK _ _ _ rfl ⟨hP, mC, mU, mV, hZ⟩ trivial rfl
              refine dSteps_cons (fun uu wq D hd hn hn2 hC hk K hK => ?_) ?_
              · obtain ⟨hP, mC, mU, mV, hZ⟩ := hC
                clear hn hn2
                simp only [calmKnown, List.getElem?_cons_zero, List.getElem?_cons_succ, and_true, Is, Pure, Option.some.injEq, List.getD_cons_zero, List.getD_cons_succ, List.map_cons, List.map_nil] at hk
                obtain ⟨h24, h19⟩ := hk
                simp only [h24, h19] at hK ⊢
                have H24 := Lib.hid h24; clear h24; have H19 := Lib.hid h19; clear h19
                refine calm_op (by rfl) ?_
                go_simp
                first | (with_reducible refine (RWb.out _).mono ?_) | (with_reducible refine (RWa.out _).mono ?_)
                rintro e w2 ⟨rfl, hbl⟩
                exact hK _ _ _ rfl ⟨hP.call hbl, Blk.keep hbl mC, Blk.keep hbl mU, Blk.keep hbl mV, Nat.le_trans hZ hbl.size⟩ trivial rfl
              refine dSteps_cons (fun uu wq D hd hn hn2 hC hk K hK => ?_) ?_
              · obtain ⟨hP, mC, mU, mV, hZ⟩ := hC
                clear hn hn2
                simp only [calmKnown, List.getElem?_cons_zero, List.getElem?_cons_succ, and_true, Is, Pure, Option.some.injEq, List.getD_cons_zero, List.getD_cons_succ, List.map_cons, List.map_nil] at hk
                obtain ⟨h22, h25, h19⟩ := hk
                simp only [h22, h25, h19] at hK ⊢
                have H22 := Lib.hid h22; clear h22; have H25 := Lib.hid h25; clear h25; have H19 := Lib.hid h19; clear h19
                go_simp
                exact hK _ _ _ rfl ⟨hP, mC, mU, mV, hZ⟩ trivial rfl
              refine dSteps_cons (fun uu wq D hd hn hn2 hC hk K hK => ?_) ?_
              · obtain ⟨hP, mC, mU, mV, hZ⟩ := hC
                clear hn hn2
                simp only [calmKnown, List.getElem?_cons_zero, List.getElem?_cons_succ, and_true, Is, Pure, Option.some.injEq, List.getD_cons_zero, List.getD_cons_succ, List.map_cons, List.map_nil] at hk
                obtain ⟨h19, h26, h15⟩ := hk
                simp only [h19, h26, h15] at hK ⊢
                have H19 := Lib.hid h19; clear h19; have H26 := Lib.hid h26; clear h26; have H15 := Lib.hid h15; clear h15
                go_simp
                exact hK _ _ _ rfl ⟨hP, mC, mU, mV, hZ⟩ trivial rfl
              refine dSteps_cons (fun uu wq D hd hn hn2 hC hk K hK => ?_) ?_
              · obtain ⟨hP, mC, mU, mV, hZ⟩ := hC
                clear hn hn2
                simp only [calmKnown, List.getElem?_cons_zero, List.getElem?_cons_succ, and_true, Is, Pure, Option.some.injEq, List.getD_cons_zero, List.getD_cons_succ, List.map_cons, List.map_nil] at hk
                obtain ⟨h15, h27, h2⟩ := hk
                simp only [h15, h27, h2] at hK ⊢
                have H15 := Lib.hid h15; clear h15; have H27 := Lib.hid h27; clear h27; have H2 := Lib.hid h2; clear h2
                go_simp
                exact hK _ _ _ rfl ⟨hP, mC, mU, mV, hZ⟩ trivial rfl
              refine dSteps_cons (fun uu wq D hd hn hn2 hC hk K hK => ?_) ?_
              · obtain ⟨hP, mC, mU, mV, hZ⟩ := hC
                clear hn hn2
                simp only [calmKnown, List.getElem?_cons_zero, List.getElem?_cons_succ, and_true, Is, Pure, Option.some.injEq, List.getD_cons_zero, List.getD_cons_succ, List.map_cons, List.map_nil] at hk
                obtain ⟨h2, h28⟩ := hk
                simp only [h2, h28] at hK ⊢
                have H2 := Lib.hid h2; clear h2; have H28 := Lib.hid h28; clear h28
                go_simp
                exact hK _ _ _ rfl ⟨hP, mC, mU, mV, hZ⟩ trivial rfl
              exact dSteps_nil
            · intro uu v2 D hD hC hF
              obtain ⟨hP, mC, mU, mV, hZ⟩ := hC
              simp only [calmFacts, Is, and_true, true_and] at hF
              obtain ⟨f0, f1, f2, f3, f4, f5, f6, f7, f8, f9, f10, f11, f12, f13, f14, f15, f16, f17, f18, f19, f20, f21, f22, f23, f24, f25, f26, f27, f28, f29⟩ := hF
              simp only [f0, f1, f2, f3, f4, f5, f6, f7, f8, f9, f10, f11, f12, f13, f14, f15, f16, f17, f18, f19, f20, f21, f22, f23, f24, f25, f26, f27, f28, f29]
              have hq := hP; clear hP
              have Kv2 : Past [] wr v2 := Past.trans Kv1 hq
              have Zv2 := hZ; clear hZ
              clear hq Kv1
              clear bC cC fC lC eC kC; have bC := mC
              clear bU cU fU lU eU kU; have bU := mU
              clear bV cV fV lV eV kV; have bV := mV
              clear mC mU mV hD
              obtain ⟨cC, fC, lC, eC, kC⟩ := Blk.facts bC
              obtain ⟨cU, fU, lU, eU, kU⟩ := Blk.facts bU
              obtain ⟨cV, fV, lV, eV, kV⟩ := Blk.facts bV
              go_wp2
              go_roundg (n - (q + 1) + 1)
              case measure => omega
              case rel => exact ⟨q + 1, by omega, by omega, by omega, by go_num, kept_call (Past.toBelow (by (repeat' (first | (with_reducible exact Kv2) | (with_reducible exact Past.refl _ _) | (with_reducible refine Past.drew ?_) | (with_reducible refine Past.drewN ?_ _) | (with_reducible refine Past.allocs ?_ _) | (with_reducible refine' Past.setIn ?_ ?_ _; rotate_left 1; (simp; done)) | (with_reducible refine' Past.far ?_ ?_ _; rotate_left 1; (first | omega | (simp <;> omega))))))) KR⟩
          · have gp0 : (p == 0) = false := by simpa using hp0
            have gp1 : decide (p = 0) = false := decide_eq_false hp0
            clear hwid hlo
            go_upto_region 9 with fail
            refine' wp_region_calmD (by kernel_rfl) (fun D u9 w' => Past [] v1 w' ∧ Blk w' (w2.heap.size) 54 #[.int .i64 sta, .int .i64 loc, .int .i64 p, .int .i64 li, .int .i64 ai, .slice EA es.length ecap, .slice SA xs.length scap] ∧ Blk w' (gU) 64 #[.int .i64 a0, .int .i64 a1, .bool true, .int .i64 a3, .int .i64 a4, .int .i64 a5, .int .i64 a6, .bool a7, .bool a8, .int .i64 a9, .int .i64 a10] ∧ Blk w' (gV) 64 #[.int .i64 b0, .int .i64 b1, .bool true, .int .i64 b3, .int .i64 b4, .int .i64 b5, .int .i64 b6, .bool b7, .bool b8, .int .i64 b9, .int .i64 b10] ∧ v1.heap.size ≤ w'.heap.size) (fun _ _ => True) [(Is _), (Is _), (Is _), (Is _), (Is _), (Is _), (Is _), (Is _), (Is _), (Is _), (Is _), (Is _), (Is _), (Is _), (Is _), (Is _), (Is _), (Is _), (Is _), (Is _), (Is _), (Is _), (Is _), (Is _), (Is _), (Is _), (Is _), (Is _), (Is _), (Is _)] [[], [0], [1], [2], [3, 2], [4, 2], [5, 2], [6], [7, 6], [8, 6], [6], [10, 6], [11, 6], [9, 12, 6], [6, 13, 2], [14, 2], [15], [16, 15], [17, 15], [18, 15], [19], [20, 19], [21, 19], [19], [23, 19], [24, 19], [22, 25, 19], [19, 26, 15], [15, 27, 2], [2, 28]] rfl (by kernel_rfl) (fun u => by (simp only [calmPut, Act.put, List.setIfInBounds_toArray, List.set_cons_zero, List.set_cons_succ, Nat.zero_add, Nat.reduceAdd]; rfl)) ?_ (calmKeep_cons keep_is' (calmKeep_cons keep_is' (calmKeep_cons keep_is' (calmKeep_cons keep_is' (calmKeep_cons keep_is' (calmKeep_cons keep_is' (calmKeep_cons keep_is' (calmKeep_cons keep_is' (calmKeep_cons keep_is' (calmKeep_cons keep_is' (calmKeep_cons keep_is' (calmKeep_cons keep_is' (calmKeep_cons keep_is' (calmKeep_cons keep_is' (calmKeep_cons keep_is' (calmKeep_cons keep_is' (calmKeep_cons keep_is' (calmKeep_cons keep_is' (calmKeep_cons keep_is' (calmKeep_cons keep_is' (calmKeep_cons keep_is' (calmKeep_cons keep_is' (calmKeep_cons keep_is' (calmKeep_cons keep_is' (calmKeep_cons keep_is' (calmKeep_cons keep_is' (calmKeep_cons keep_is' (calmKeep_cons keep_is' (calmKeep_cons keep_is' (calmKeep_cons keep_is' (calmKeep_nil))))))))))))))))))))))))))))))) ?_ ?_
            · exact ⟨(by (repeat' (first | (with_reducible exact (Past.refl _ _)) | (with_reducible exact Past.refl _ _) | (with_reducible refine Past.drew ?_) | (with_reducible refine Past.drewN ?_ _) | (with_reducible refine Past.allocs ?_ _) | (with_reducible refine' Past.setIn ?_ ?_ _; rotate_left 1; (simp; done)) | (with_reducible refine' Past.far ?_ ?_ _; rotate_left 1; (first | omega | (simp <;> omega)))))), (by (repeat' (first | (with_reducible exact bC) | (with_reducible refine' Blk.alloc ?_ _) | (with_reducible refine' Blk.drew ?_) | (with_reducible refine' Blk.drewN ?_ _) | (with_reducible refine' Blk.put ?_ ?_) | (with_reducible refine' Blk.far ?_ ?_ _) | exact bC | exact rfl)) <;> (first | omega | (simp <;> omega))), (by (repeat' (first | (with_reducible exact bU) | (with_reducible refine' Blk.alloc ?_ _) | (with_reducible refine' Blk.drew ?_) | (with_reducible refine' Blk.drewN ?_ _) | (with_reducible refine' Blk.put ?_ ?_) | (with_reducible refine' Blk.far ?_ ?_ _) | exact bU | exact rfl)) <;> (first | omega | (simp <;> omega))), (by (repeat' (first | (with_reducible exact bV) | (with_reducible refine' Blk.alloc ?_ _) | (with_reducible refine' Blk.drew ?_) | (with_reducible refine' Blk.drewN ?_ _) | (with_reducible refine' Blk.put ?_ ?_) | (with_reducible refine' Blk.far ?_ ?_ _) | exact bV | exact rfl)) <;> (first | omega | (simp <;> omega))), (by first | exact Nat.le_refl _ | omega | (simp <;> omega))⟩
            rotate_left 30
            · skip
              refine dSteps_cons (fun uu wq D hd hn hn2 hC hk K hK => ?_) ?_
              · obtain ⟨hP, mC, mU, mV, hZ⟩ := hC
                clear hn hn2
                clear hk
                go_simp
                exact hK _ _ _ rfl ⟨hP, mC, mU, mV, hZ⟩ trivial rfl
              refine dSteps_cons (fun uu wq D hd hn hn2 hC hk K hK => ?_) ?_
              · obtain ⟨hP, mC, mU, mV, hZ⟩ := hC
                clear hn hn2
                simp only [calmKnown, List.getElem?_cons_zero, List.getElem?_cons_succ, and_true, Is, Pure, Option.some.injEq, List.getD_cons_zero, List.getD_cons_succ, List.map_cons, List.map_nil] at hk
                have h0 := hk; clear hk
                simp only [h0] at hK ⊢
                have H0 := Lib.hid h0; clear h0
                have cC := mC.cell; have lC := mC.lt
                have cU := mU.cell; have lU := mU.lt
                have cV := mV.cell; have lV := mV.lt
                go_simp
                exact hK _ _ _ rfl ⟨hP, mC, mU, mV, hZ⟩ trivial rfl
              refine dSteps_cons (fun uu wq D hd hn hn2 hC hk K hK => ?_) ?_
              · obtain ⟨hP, mC, mU, mV, hZ⟩ := hC
                clear hn hn2
                simp only [calmKnown, List.getElem?_cons_zero, List.getElem?_cons_succ, and_true, Is, Pure, Option.some.injEq, List.getD_cons_zero, List.getD_cons_succ, List.map_cons, List.map_nil] at hk
                have h1 := hk; clear hk
                simp only [h1] at hK ⊢
                have H1 := Lib.hid h1; clear h1
                go_simp
                exact hK _ _ _ rfl ⟨hP, mC, mU, mV, hZ⟩ trivial rfl
              refine dSteps_cons (fun uu wq D hd hn hn2 hC hk K hK => ?_) ?_
              · obtain ⟨hP, mC, mU, mV, hZ⟩ := hC
                clear hn hn2
                simp only [calmKnown, List.getElem?_cons_zero, List.getElem?_cons_succ, and_true, Is, Pure, Option.some.injEq, List.getD_cons_zero, List.getD_cons_succ, List.map_cons, List.map_nil] at hk
                have h2 := hk; clear hk
                simp only [h2] at hK ⊢
                have H2 := Lib.hid h2; clear h2
                go_simp
                exact hK _ _ _ rfl ⟨hP, mC, mU, mV, hZ⟩ trivial rfl
              refine dSteps_cons (fun uu wq D hd hn hn2 hC hk K hK => ?_) ?_
              · obtain ⟨hP, mC, mU, mV, hZ⟩ := hC
                clear hn hn2
                simp only [calmKnown, List.getElem?_cons_zero, List.getElem?_cons_succ, and_true, Is, Pure, Option.some.injEq, List.getD_cons_zero, List.getD_cons_succ, List.map_cons, List.map_nil] at hk
                obtain ⟨h3, h2⟩ := hk
                simp only [h3, h2] at hK ⊢
                have H3 := Lib.hid h3; clear h3; have H2 := Lib.hid h2; clear h2
                have cC := mC.cell; have lC := mC.lt
                have cU := mU.cell; have lU := mU.lt
                have cV := mV.cell; have lV := mV.lt
                go_simp
                exact hK _ _ _ rfl ⟨hP, mC, mU, mV, hZ⟩ trivial rfl
              refine dSteps_cons (fun uu wq D hd hn hn2 hC hk K hK => ?_) ?_
              · obtain ⟨hP, mC, mU, mV, hZ⟩ := hC
                clear hn hn2
                simp only [calmKnown, List.getElem?_cons_zero, List.getElem?_cons_succ, and_true, Is, Pure, Option.some.injEq, List.getD_cons_zero, List.getD_cons_succ, List.map_cons, List.map_nil] at hk
                obtain ⟨h4, h2⟩ := hk
                simp only [h4, h2] at hK ⊢
                have H4 := Lib.hid h4; clear h4; have H2 := Lib.hid h2; clear h2
                go_simp
                exact hK _ _ _ rfl ⟨hP, mC, mU, mV, hZ⟩ trivial rfl
              refine dSteps_cons (fun uu wq D hd hn hn2 hC hk K hK => ?_) ?_
              · obtain ⟨hP, mC, mU, mV, hZ⟩ := hC
                clear hn hn2
                simp only [calmKnown, List.getElem?_cons_zero, List.getElem?_cons_succ, and_true, Is, Pure, Option.some.injEq, List.getD_cons_zero, List.getD_cons_succ, List.map_cons, List.map_nil] at hk
                obtain ⟨h5, h2⟩ := hk
                simp only [h5, h2] at hK ⊢
                have H5 := Lib.hid h5; clear h5; have H2 := Lib.hid h2; clear h2
                go_simp
                exact hK _ _ _ rfl ⟨hP, mC, mU, mV, hZ⟩ trivial rfl
              refine dSteps_cons (fun uu wq D hd hn hn2 hC hk K hK => ?_) ?_
              · obtain ⟨hP, mC, mU, mV, hZ⟩ := hC
                clear hn hn2
                simp only [calmKnown, List.getElem?_cons_zero, List.getElem?_cons_succ, and_true, Is, Pure, Option.some.injEq, List.getD_cons_zero, List.getD_cons_succ, List.map_cons, List.map_nil] at hk
                have h6 := hk; clear hk
                simp only [h6] at hK ⊢
                have H6 := Lib.hid h6; clear h6
                go_simp
                exact hK _ _ _ rfl ⟨hP, mC, mU, mV, hZ⟩ trivial rfl
              refine dSteps_cons (fun uu wq D hd hn hn2 hC hk K hK => ?_) ?_
              · obtain ⟨hP, mC, mU, mV, hZ⟩ := hC
                clear hn hn2
                simp only [calmKnown, List.getElem?_cons_zero, List.getElem?_cons_succ, and_true, Is, Pure, Option.some.injEq, List.getD_cons_zero, List.getD_cons_succ, List.map_cons, List.map_nil] at hk
                obtain ⟨h7, h6⟩ := hk
                simp only [h7, h6] at hK ⊢
                have H7 := Lib.hid h7; clear h7; have H6 := Lib.hid h6; clear h6
                go_simp
                exact hK _ _ _ rfl ⟨hP, mC, mU, mV, hZ⟩ trivial rfl
              refine dSteps_cons (fun uu wq D hd hn hn2 hC hk K hK => ?_) ?_
              · obtain ⟨hP, mC, mU, mV, hZ⟩ := hC
                clear hn hn2
                simp only [calmKnown, List.getElem?_cons_zero, List.getElem?_cons_succ, and_true, Is, Pure, Option.some.injEq, List.getD_cons_zero, List.getD_cons_succ, List.map_cons, List.map_nil] at hk
                obtain ⟨h8, h6⟩ := hk
                simp only [h8, h6] at hK ⊢
                have H8 := Lib.hid h8; clear h8; have H6 := Lib.hid h6; clear h6
                have cC := mC.cell; have lC := mC.lt
                have cU := mU.cell; have lU := mU.lt
                have cV := mV.cell; have lV := mV.lt
                go_simp
                exact hK _ _ _ rfl ⟨hP, mC, mU, mV, hZ⟩ trivial rfl
              refine dSteps_cons (fun uu wq D hd hn hn2 hC hk K hK => ?_) ?_
              · obtain ⟨hP, mC, mU, mV, hZ⟩ := hC
                clear hn hn2
                simp only [calmKnown, List.getElem?_cons_zero, List.getElem?_cons_succ, and_true, Is, Pure, Option.some.injEq, List.getD_cons_zero, List.getD_cons_succ, List.map_cons, List.map_nil] at hk
                have h6 := hk; clear hk
                simp only [h6] at hK ⊢
                have H6 := Lib.hid h6; clear h6
                go_simp
                exact hK _ _ _ rfl ⟨hP, mC, mU, mV, hZ⟩ trivial rfl
              refine dSteps_cons (fun uu wq D hd hn hn2 hC hk K hK => ?_) ?_
              · obtain ⟨hP, mC, mU, mV, hZ⟩ := hC
                clear hn hn2
                simp only [calmKnown, List.getElem?_cons_zero, List.getElem?_cons_succ, and_true, Is, Pure, Option.some.injEq, List.getD_cons_zero, List.getD_cons_succ, List.map_cons, List.map_nil] at hk
                obtain ⟨h10, h6⟩ := hk
                simp only [h10, h6] at hK ⊢
                have H10 := Lib.hid h10; clear h10; have H6 := Lib.hid h6; clear h6
                go_simp
                exact hK _ _ _ rfl ⟨hP, mC, mU, mV, hZ⟩ trivial rfl
              refine dSteps_cons (fun uu wq D hd hn hn2 hC hk K hK => ?_) ?_
              · obtain ⟨hP, mC, mU, mV, hZ⟩ := hC
                clear hn hn2
                simp only [calmKnown, List.getElem?_cons_zero, List.getElem?_cons_succ, and_true, Is, Pure, Option.some.injEq, List.getD_cons_zero, List.getD_cons_succ, List.map_cons, List.map_nil] at hk
                obtain ⟨h11, h6⟩ := hk
                simp only [h11, h6] at hK ⊢
                have H11 := Lib.hid h11; clear h11; have H6 := Lib.hid h6; clear h6
                have cC := mC.cell; have lC := mC.lt
                have cU := mU.cell; have lU := mU.lt
                have cV := mV.cell; have lV := mV.lt
                go_simp
                exact hK _ _ _ rfl ⟨hP, mC, mU, mV, hZ⟩ trivial rfl
              refine dSteps_cons (fun uu wq D hd hn hn2 hC hk K hK => ?_) ?_
              · obtain ⟨hP, mC, mU, mV, hZ⟩ := hC
                clear hn hn2
                simp only [calmKnown, List.getElem?_cons_zero, List.getElem?_cons_succ, and_true, Is, Pure, Option.some.injEq, List.getD_cons_zero, List.getD_cons_succ, List.map_cons, List.map_nil] at hk
                obtain ⟨h9, h12, h6⟩ := hk
                simp only [h9, h12, h6] at hK ⊢
                have H9 := Lib.hid h9; clear h9; have H12 := Lib.hid h12; clear h12; have H6 := Lib.hid h6; clear h6
                go_simp
                exact hK _ _ _ rfl ⟨hP, mC, mU, mV, hZ⟩ trivial rfl
              refine dSteps_cons (fun uu wq D hd hn hn2 hC hk K hK => ?_) ?_
              · obtain ⟨hP, mC, mU, mV, hZ⟩ := hC
                clear hn hn2
                simp only [calmKnown, List.getElem?_cons_zero, List.getElem?_cons_succ, and_true, Is, Pure, Option.some.injEq, List.getD_cons_zero, List.getD_cons_succ, List.map_cons, List.map_nil] at hk
                obtain ⟨h6, h13, h2⟩ := hk
                simp only [h6, h13, h2] at hK ⊢
                have H6 := Lib.hid h6; clear h6; have H13 := Lib.hid h13; clear h13; have H2 := Lib.hid h2; clear h2
                go_simp
                exact hK _ _ _ rfl ⟨hP, mC, mU, mV, hZ⟩ trivial rfl
              refine dSteps_cons (fun uu wq D hd hn hn2 hC hk K hK => ?_) ?_
              · obtain ⟨hP, mC, mU, mV, hZ⟩ := hC
                clear hn hn2
                simp only [calmKnown, List.getElem?_cons_zero, List.getElem?_cons_succ, and_true, Is, Pure, Option.some.injEq, List.getD_cons_zero, List.getD_cons_succ, List.map_cons, List.map_nil] at hk
                obtain ⟨h14, h2⟩ := hk
                simp only [h14, h2] at hK ⊢
                have H14 := Lib.hid h14; clear h14; have H2 := Lib.hid h2; clear h2
                go_simp
                exact hK _ _ _ rfl ⟨hP, mC, mU, mV, hZ⟩ trivial rfl
              refine dSteps_cons (fun uu wq D hd hn hn2 hC hk K hK => ?_) ?_
              · obtain ⟨hP, mC, mU, mV, hZ⟩ := hC
                clear hn hn2
                simp only [calmKnown, List.getElem?_cons_zero, List.getElem?_cons_succ, and_true, Is, Pure, Option.some.injEq, List.getD_cons_zero, List.getD_cons_succ, List.map_cons, List.map_nil] at hk
                have h15 := hk; clear hk
                simp only [h15] at hK ⊢
                have H15 := Lib.hid h15; clear h15
                go_simp
                exact hK _ _ _ rfl ⟨hP, mC, mU, mV, hZ⟩ trivial rfl
              refine dSteps_cons (fun uu wq D hd hn hn2 hC hk K hK => ?_) ?_
              · obtain ⟨hP, mC, mU, mV, hZ⟩ := hC
                clear hn hn2
                simp only [calmKnown, List.getElem?_cons_zero, List.getElem?_cons_succ, and_true, Is, Pure, Option.some.injEq, List.getD_cons_zero, List.getD_cons_succ, List.map_cons, List.map_nil] at hk
                obtain ⟨h16, h15⟩ := hk
                simp only [h16, h15] at hK ⊢
                have H16 := Lib.hid h16; clear h16; have H15 := Lib.hid h15; clear h15
                have cC := mC.cell; have lC := mC.lt
                have cU := mU.cell; have lU := mU.lt
                have cV := mV.cell; have lV := mV.lt
                go_simp
                exact hK _ _ _ rfl ⟨hP, mC, mU, mV, hZ⟩ trivial rfl
              refine dSteps_cons (fun uu wq D hd hn hn2 hC hk K hK => ?_) ?_
              · obtain ⟨hP, mC, mU, mV, hZ⟩ := hC
                clear hn hn2
                simp only [calmKnown, List.getElem?_cons_zero, List.getElem?_cons_succ, and_true, Is, Pure, Option.some.injEq, List.getD_cons_zero, List.getD_cons_succ, List.map_cons, List.map_nil] at hk
                obtain ⟨h17, h15⟩ := hk
                simp only [h17, h15] at hK ⊢
                have H17 := Lib.hid h17; clear h17; have H15 := Lib.hid h15; clear h15
                go_simp
                exact hK _ _ _ rfl ⟨hP, mC, mU, mV, hZ⟩ trivial rfl
              refine dSteps_cons (fun uu wq D hd hn hn2 hC hk K hK => ?_) ?_
              · obtain ⟨hP, mC, mU, mV, hZ⟩ := hC
                clear hn hn2
                simp only [calmKnown, List.getElem?_cons_zero, List.getElem?_cons_succ, and_true, Is, Pure, Option.some.injEq, List.getD_cons_zero, List.getD_cons_succ, List.map_cons, List.map_nil] at hk
                obtain ⟨h18, h15⟩ := hk
                simp only [h18, h15] at hK ⊢
                have H18 := Lib.hid h18; clear h18; have H15 := Lib.hid h15; clear h15
                go_simp
                exact hK _ _ _ rfl ⟨hP, mC, mU, mV, hZ⟩ trivial rfl
              refine dSteps_cons (fun uu wq D hd hn hn2 hC hk K hK => ?_) ?_
              · obtain ⟨hP, mC, mU, mV, hZ⟩ := hC
                clear hn hn2
                simp only [calmKnown, List.getElem?_cons_zero, List.getElem?_cons_succ, and_true, Is, Pure, Option.some.injEq, List.getD_cons_zero, List.getD_cons_succ, List.map_cons, List.map_nil] at hk
                have h19 := hk; clear hk
                simp only [h19] at hK ⊢
                have H19 := Lib.hid h19; clear h19
                go_simp
                exact hK _ _ _ rfl ⟨hP, mC, mU, mV, hZ⟩ trivial rfl
              refine dSteps_cons (fun uu wq D hd hn hn2 hC hk K hK => ?_) ?_
              · obtain ⟨hP, mC, mU, mV, hZ⟩ := hC
                clear hn hn2
                simp only [calmKnown, List.getElem?_cons_zero, List.getElem?_cons_succ, and_true, Is, Pure, Option.some.injEq, List.getD_cons_zero, List.getD_cons_succ, List.map_cons, List.map_nil] at hk
                obtain ⟨h20, h19⟩ := hk
                simp only [h20, h19] at hK ⊢
                have H20 := Lib.hid h20; clear h20; have H19 := Lib.hid h19; clear h19
                have cC := mC.cell; have lC := mC.lt
                have cU := mU.cell; have lU := mU.lt
                have cV := mV.cell; have lV := mV.lt
                go_simp
                exact hK _ _ _ rfl ⟨hP, mC, mU, mV, hZ⟩ trivial rfl
              refine dSteps_cons (fun uu wq D hd hn hn2 hC hk K hK => ?_) ?_
              · obtain ⟨hP, mC, mU, mV, hZ⟩ := hC
                clear hn hn2
                simp only [calmKnown, List.getElem?_cons_zero, List.getElem?_cons_succ, and_true, Is, Pure, Option.some.injEq, List.getD_cons_zero, List.getD_cons_succ, List.map_cons, List.map_nil] at hk
                obtain ⟨h21, h19⟩ := hk
                simp only [h21, h19] at hK ⊢
                have H21 := Lib.hid h21; clear h21; have H19 := Lib.hid h19; clear h19
                go_simp
                exact hK _ _ _ rfl ⟨hP, mC, mU, mV, hZ⟩ trivial rfl
              refine dSteps_cons (fun uu wq D hd hn hn2 hC hk K hK => ?_) ?_
              · obtain ⟨hP, mC, mU, mV, hZ⟩ := hC
                clear hn hn2
                simp only [calmKnown, List.getElem?_cons_zero, List.getElem?_cons_succ, and_true, Is, Pure, Option.some.injEq, List.getD_cons_zero, List.getD_cons_succ, List.map_cons, List.map_nil] at hk
                have h19 := hk; clear hk
                simp only [h19] at hK ⊢
                have H19 := Lib.hid h19; clear h19
                go_simp
                exact hK _ _ _ rfl ⟨hP, mC, mU, mV, hZ⟩ trivial rfl
              refine dSteps_cons (fun uu wq D hd hn hn2 hC hk K hK => ?_) ?_
              · obtain ⟨hP, mC, mU, mV, hZ⟩ := hC
                clear hn hn2
                simp only [calmKnown, List.getElem?_cons_zero, List.getElem?_cons_succ, and_true, Is, Pure, Option.some.injEq, List.getD_cons_zero, List.getD_cons_succ, List.map_cons, List.map_nil] at hk
                obtain ⟨h23, h19⟩ := hk
                simp only [h23, h19] at hK ⊢
                have H23 := Lib.hid h23; clear h23; have H19 := Lib.hid h19; clear h19
                have cC := mC.cell; have lC := mC.lt
                have cU := mU.cell; have lU := mU.lt
                have cV := mV.cell; have lV := mV.lt
                go_simp
                exact hK _ _ _ rfl ⟨hP, mC, mU, mV, hZ⟩ trivial rfl
              refine dSteps_cons (fun uu wq D hd hn hn2 hC hk K hK => ?_) ?_
              · obtain ⟨hP, mC, mU, mV, hZ⟩ := hC
                clear hn hn2
                simp only [calmKnown, List.getElem?_cons_zero, List.getElem?_cons_succ, and_true, Is, Pure, Option.some.injEq, List.getD_cons_zero, List.getD_cons_succ, List.map_cons, List.map_nil] at hk
                obtain ⟨h24, h19⟩ := hk
                simp only [h24, h19] at hK ⊢
                have H24 := Lib.hid h24; clear h24; have H19 := Lib.hid h19; clear h19
                go_simp
                exact hK _ _ _ rfl ⟨hP, mC, mU, mV, hZ⟩ trivial rfl
              refine dSteps_cons (fun uu wq D hd hn hn2 hC hk K hK => ?_) ?_
              · obtain ⟨hP, mC, mU, mV, hZ⟩ := hC
                clear hn hn2
                simp only [calmKnown, List.getElem?_cons_zero, List.getElem?_cons_succ, and_true, Is, Pure, Option.some.injEq, List.getD_cons_zero, List.getD_cons_succ, List.map_cons, List.map_nil] at hk
                obtain ⟨h22, h25, h19⟩ := hk
                simp only [h22, h25, h19] at hK ⊢
                have H22 := Lib.hid h22; clear h22; have H25 := Lib.hid h25; clear h25; have H19 := Lib.hid h19; clear h19
                go_simp
                exact hK _ _ _ rfl ⟨hP, mC, mU, mV, hZ⟩ trivial rfl
              refine dSteps_cons (fun uu wq D hd hn hn2 hC hk K hK => ?_) ?_
              · obtain ⟨hP, mC, mU, mV, hZ⟩ := hC
                clear hn hn2
                simp only [calmKnown, List.getElem?_cons_zero, List.getElem?_cons_succ, and_true, Is, Pure, Option.some.injEq, List.getD_cons_zero, List.getD_cons_succ, List.map_cons, List.map_nil] at hk
                obtain ⟨h19, h26, h15⟩ := hk
                simp only [h19, h26, h15] at hK ⊢
                have H19 := Lib.hid h19; clear h19; have H26 := Lib.hid h26; clear h26; have H15 := Lib.hid h15; clear h15
                go_simp
                exact hK _ _ _ rfl ⟨hP, mC, mU, mV, hZ⟩ trivial rfl
              refine dSteps_cons (fun uu wq D hd hn hn2 hC hk K hK => ?_) ?_
              · obtain ⟨hP, mC, mU, mV, hZ⟩ := hC
                clear hn hn2
                simp only [calmKnown, List.getElem?_cons_zero, List.getElem?_cons_succ, and_true, Is, Pure, Option.some.injEq, List.getD_cons_zero, List.getD_cons_succ, List.map_cons, List.map_nil] at hk
                obtain ⟨h15, h27, h2⟩ := hk
                simp only [h15, h27, h2] at hK ⊢
                have H15 := Lib.hid h15; clear h15; have H27 := Lib.hid h27; clear h27; have H2 := Lib.hid h2; clear h2
                go_simp
                exact hK _ _ _ rfl ⟨hP, mC, mU, mV, hZ⟩ trivial rfl
              refine dSteps_cons (fun uu wq D hd hn hn2 hC hk K hK => ?_) ?_
              · obtain ⟨hP, mC, mU, mV, hZ⟩ := hC
                clear hn hn2
                simp only [calmKnown, List.getElem?_cons_zero, List.getElem?_cons_succ, and_true, Is, Pure, Option.some.injEq, List.getD_cons_zero, List.getD_cons_succ, List.map_cons, List.map_nil] at hk
                obtain ⟨h2, h28⟩ := hk
                simp only [h2, h28] at hK ⊢
                have H2 := Lib.hid h2; clear h2; have H28 := Lib.hid h28; clear h28
                go_simp
                exact hK _ _ _ rfl ⟨hP, mC, mU, mV, hZ⟩ trivial rfl
              exact dSteps_nil
            · intro uu v2 D hD hC hF
              obtain ⟨hP, mC, mU, mV, hZ⟩ := hC
              simp only [calmFacts, Is, and_true, true_and] at hF
              obtain ⟨f0, f1, f2, f3, f4, f5, f6, f7, f8, f9, f10, f11, f12, f13, f14, f15, f16, f17, f18, f19, f20, f21, f22, f23, f24, f25, f26, f27, f28, f29⟩ := hF
              simp only [f0, f1, f2, f3, f4, f5, f6, f7, f8, f9, f10, f11, f12, f13, f14, f15, f16, f17, f18, f19, f20, f21, f22, f23, f24, f25, f26, f27, f28, f29]
              have hq := hP; clear hP
              have Kv2 : Past [] wr v2 := Past.trans Kv1 hq
              have Zv2 := hZ; clear hZ
              clear hq Kv1
              clear bC cC fC lC eC kC; have bC := mC
              clear bU cU fU lU eU kU; have bU := mU
              clear bV cV fV lV eV kV; have bV := mV
              clear mC mU mV hD
              obtain ⟨cC, fC, lC, eC, kC⟩ := Blk.facts bC
              obtain ⟨cU, fU, lU, eU, kU⟩ := Blk.facts bU
              obtain ⟨cV, fV, lV, eV, kV⟩ := Blk.facts bV
              go_wp2
              go_roundg (n - (q + 1) + 1)
              case measure => omega
              case rel => exact ⟨q + 1, by omega, by omega, by omega, by go_num, kept_call (Past.toBelow (by (repeat' (first | (with_reducible exact Kv2) | (with_reducible exact Past.refl _ _) | (with_reducible refine Past.drew ?_) | (with_reducible refine Past.drewN ?_ _) | (with_reducible refine Past.allocs ?_ _) | (with_reducible refine' Past.setIn ?_ ?_ _; rotate_left 1; (simp; done)) | (with_reducible refine' Past.far ?_ ?_ _; rotate_left 1; (first | omega | (simp <;> omega))))))) KR⟩
    · obtain rfl : q = n := by omega
      have gq : decide ((q : Int) < (q : Int)) = false := decide_eq_false (by omega)
      have gqn : decide (q < q) = false := decide_eq_false (by omega)
      go_wp2_with fail
      refine (known41_any _).mono ?_
      rintro e w9 ⟨rfl, hb9⟩
      go_wp2
      go_ret
      exact ⟨rfl, kept_call (kept_call hb9 KR) HK3.out⟩
end Go.Proofs.YtlnboheahbfgfaaGreat
