/- The walk of the law ExchangeHoldsTrueTime. -/
import Derived.Test.YtlfkkfdolnkjfaaSched
import Derived.Test.YtlfkkfdolnkjfaaFitsP
import Derived.Test.YtlfkkfdolnkjfaaFitsR
import Derived.Test.YtlfkkfdolnkjfaaExLaw
import Derived.Test.YtlfkkfdolnkjfaaEl
import Derived.Test.YtlfkkfdolnkjfaaR11
import Derived.Deep.DeepCutAuto
namespace Go.Proofs.Ytlfkkfdolnkjfaa
open Go.RowKit
set_option linter.unusedSimpArgs false
set_option linter.unusedVariables false

/-- An exchange of a client whose clock keeps its bound with a server that is wrong by at most err. -/
theorem ex_true {sta loc p ou ol ho hl ba bl w2 w3 err : Int} (s0 : -1000 ≤ sta) (s1 : sta ≤ 1000) (l0 : -500 ≤ loc) (l1 : loc ≤ 500) (e0 : 0 ≤ err) (e1 : err ≤ 20) (o0 : 0 ≤ ou) (o1 : ou ≤ 3000000) (h0 : 0 ≤ ho) (h1 : ho ≤ 50) (b0 : 0 ≤ ba) (b1 : ba ≤ 3000000)
    (ol0 : 0 ≤ ol) (ol1 : ol ≤ 3003001) (hl0 : 0 ≤ hl) (hl1 : hl ≤ 3003001) (bl0 : 0 ≤ bl) (bl1 : bl ≤ 3003001) (f1 : fitsP ou ol p) (f2 : fitsP ho hl p) (f3 : fitsP ba bl p) (x0 : -err ≤ w2) (x1 : w2 ≤ err) (y0 : -err ≤ w3) (y1 : w3 ≤ err) :
    fitsB (sta + ou + ho + ba - sta) (loc + ol + hl + bl - loc) p = true ∧
    (sta + ou + ho + w3 < sta + ou + w2 → atV loc (sta + ou + w2) (sta + ou + ho + w3) (loc + ol + hl + bl) err p = .tuple #[.agg #[.int .i64 0, .int .i64 0], .int .i64 12]) ∧
    (¬ sta + ou + ho + w3 < sta + ou + w2 → ∃ a b, atV loc (sta + ou + w2) (sta + ou + ho + w3) (loc + ol + hl + bl) err p = .tuple #[.agg #[.int .i64 a, .int .i64 b], .int .i64 0] ∧ hdB a b (sta + ou + ho + ba) = true) := by
  have hf := fit_sum (fit_sum f1 f2 (by omega) (by omega)) f3 (by omega) (by omega)
  have p0 := hf.1.2.2.2.2.1
  have p1 := hf.1.2.2.2.2.2
  have hh := fit_holds hf
  have h2 := hi_two (d := ol + hl + bl) (p := p) (by omega) p0 p1
  rw [show sta + ou + ho + ba - sta = ou + ho + ba by omega, show loc + ol + hl + bl - loc = ol + hl + bl by omega]
  refine ⟨fitsB_true.2 hf, fun c => ?_, fun c => ?_⟩
  · have hx := exE_12 (t1 := loc) (t2 := sta + ou + w2) (t3 := sta + ou + ho + w3) (t4 := loc + ol + hl + bl) (err := err) (vT_true.2 ⟨by omega, by omega⟩) (vT_true.2 ⟨by omega, by omega⟩) (vT_true.2 ⟨by omega, by omega⟩) (vT_true.2 ⟨by omega, by omega⟩) e0 (by omega) (.inr c)
    rw [atV_e (by rw [hx]; omega), hx]
  · have hx := exE_0 (t1 := loc) (t2 := sta + ou + w2) (t3 := sta + ou + ho + w3) (t4 := loc + ol + hl + bl) (err := err) (vT_true.2 ⟨by omega, by omega⟩) (vT_true.2 ⟨by omega, by omega⟩) (vT_true.2 ⟨by omega, by omega⟩) (vT_true.2 ⟨by omega, by omega⟩) e0 (by omega) (by omega) (by omega)
    have e : loc + ol + hl + bl - loc = ol + hl + bl := by omega
    have ha := atV_0 (p := p) hx (by rw [e]; exact inD_true.2 ⟨by omega, by omega, p0, p1⟩) (vT_true.2 ⟨by omega, by omega⟩) (by rw [e]; exact vT_true.2 ⟨by omega, by omega⟩) (by rw [e]; omega)
    rw [e] at ha
    exact ⟨_, _, ha, by unfold hdB; rw [vS_true.2 ⟨by omega, by omega, by omega⟩]; simp; omega⟩
set_option maxRecDepth 100000 in
set_option maxHeartbeats 4000000 in
theorem extrue_core (A : Option Addr) (len cap : Nat) (zs : List Int) (e2 e3 : Int) (w : World) (hA : IntsAt w A len zs) :
    Calls Try.prog 3 #[.slice A len cap, .int .i64 e2, .int .i64 e3] w (RB w (.bool true)) := by
  have H := Lib.hid hA; clear hA
  go_enter Try.func3, Try.ntmps3
  go_wp2_with fail
  refine (new_any A len cap zs _ H.out).mono ?_
  rintro e w1 ⟨rfl, ht1, hb1⟩
  have K1 : Below w.heap.size w w1 := kept_call hb1 (by (repeat' (first | (with_reducible exact Below.refl _ _) | (with_reducible refine Below.setCell ?_ ?_ _) | (with_reducible refine Below.alloc ?_ ?_ _) | (with_reducible refine Below.drew ?_) | (with_reducible refine below_drewN ?_ _))) <;> (first | omega | (simp <;> omega)))
  have Z1 : w.heap.size ≤ w1.heap.size := K1.size
  clear hb1
  have T1 := ht1.lt
  have HT := Lib.hid ht1; clear ht1
  clear H
  have HB : w.heap.size ≤ w.heap.size := Nat.le_refl _
  go_wp2_with fail
  refine (sched_any _ 1 false _ (by (repeat' (first | (with_reducible exact HT.out) | (with_reducible refine' TapeAt.alloc ?_ _) | (with_reducible refine' TapeAt.drew ?_) | (with_reducible refine' TapeAt.drewN ?_ _) | (with_reducible refine' TapeAt.set ?_ ?_ _))) <;> (first | omega | (simp <;> omega))) (by omega) (by omega)).mono ?_
  rintro e w2 ⟨sta, loc, P, li, ai, EA, SA, ecap, scap, es, xs, rfl, hok, hnum, hst, ht2, hg2⟩
  have K2 : Below w.heap.size w w2 := below_grown2 (by (repeat' (first | (with_reducible exact K1) | (with_reducible refine Below.setCell ?_ ?_ _) | (with_reducible refine Below.alloc ?_ ?_ _) | (with_reducible refine Below.drew ?_) | (with_reducible refine below_drewN ?_ _))) <;> (first | omega | (simp <;> omega))) hg2 (by first | omega | (simp <;> omega))
  have Z2 : w.heap.size ≤ w2.heap.size := K2.size
  clear HT; have T2 := ht2.lt; have HT := Lib.hid ht2; clear ht2
  clear hg2 K1
  obtain ⟨gs, cur, rfl, hgs, bT, hcur⟩ := hst
  obtain ⟨-, ge, ecur, rfl, hge, bE, hecur⟩ := hnum
  obtain ⟨s0, s1, s2, s3, p0, p1, -, -, -, -, -, e5, he, m0, -, hxs⟩ := hok
  obtain ⟨cT, fT, lT, eT, kT⟩ := Blk.facts bT
  obtain ⟨cE, fE, lE, eE, kE⟩ := Blk.facts bE
  obtain ⟨x, hx⟩ : ∃ x, x = xs.getD 0 .zero := ⟨_, rfl⟩
  have hxm : x ∈ xs := by rw [hx, List.getD_eq_getElem?_getD, List.getElem?_eq_getElem (by omega)]; exact List.getElem_mem _
  have q := fun i hi => hcur 0 (by omega) i hi
  rw [← hx] at q
  clear hcur hx
  obtain ⟨a0, a1, -, -, -, -, -, x0, x1, x2, x3, x4, x5, x6, x7, x8, x9, y0, y1, y2, y3, y4, -⟩ := hxs x hxm
  clear hxm hxs
  obtain ⟨src, tr, lo, ou, ol, ho, hl, ba, bl, w2', w3'⟩ := x
  dsimp only at a0 a1 x0 x1 x2 x3 x4 x5 x6 x7 x8 x9 y0 y1 y2 y3 y4
  simp only [Stp.cs, Nat.zero_mul, Nat.zero_add] at q
  have q0 := q 0 (by omega); have q1 := q 1 (by omega); have q2 := q 2 (by omega); have q3 := q 3 (by omega); have q4 := q 4 (by omega); have q5 := q 5 (by omega); have q6 := q 6 (by omega); have q7 := q 7 (by omega); have q8 := q 8 (by omega); have q9 := q 9 (by omega); have q10 := q 10 (by omega)
  simp only [List.getElem?_cons_succ, List.getElem?_cons_zero] at q0 q1 q2 q3 q4 q5 q6 q7 q8 q9 q10
  clear q
  obtain ⟨k, rfl⟩ : ∃ k : Nat, src = k := ⟨src.toNat, by omega⟩
  have hk : k < es.length := by omega
  have qe := hecur k hk
  have her := he (es.getD k 0) (by rw [List.getD_eq_getElem?_getD, List.getElem?_eq_getElem hk]; exact List.getElem_mem _)
  clear hecur he
  generalize es.getD k 0 = err at *
  obtain ⟨el, hel⟩ : ∃ el, el = es.length := ⟨_, rfl⟩
  rw [← hel] at hk e5 a1
  rw [← hel]
  clear hel
  obtain ⟨m, hm⟩ : ∃ m, m = xs.length := ⟨_, rfl⟩
  rw [← hm] at m0
  rw [← hm]
  clear hm
  obtain ⟨E2, hE2⟩ : ∃ v, e2 % (2 * err + 1) = v := ⟨_, rfl⟩
  obtain ⟨E3, hE3⟩ : ∃ v, e3 % (2 * err + 1) = v := ⟨_, rfl⟩
  have b2 : 0 ≤ E2 ∧ E2 < 2 * err + 1 := by rw [← hE2]; exact ⟨Int.emod_nonneg _ (by omega), Int.emod_lt_of_pos _ (by omega)⟩
  have b3 : 0 ≤ E3 ∧ E3 < 2 * err + 1 := by rw [← hE3]; exact ⟨Int.emod_nonneg _ (by omega), Int.emod_lt_of_pos _ (by omega)⟩
  have R2 := Lib.hid (fun (W : World) => hE2 ▸ within_any e2 (2 * err + 1) W (by omega) (by omega))
  have R3 := Lib.hid (fun (W : World) => hE3 ▸ within_any e3 (2 * err + 1) W (by omega) (by omega))
  clear hE2 hE3
  obtain ⟨K1, K2, K3⟩ := ex_true (w2 := E2 - err) (w3 := E3 - err) s0 s1 s2 s3 her.1 her.2 x0 x1 x5 x6 y0 y1 x2 x3 x7 x8 y2 y3 x4 x9 y4 (by omega) (by omega) (by omega) (by omega)
  have RA := at_any loc (sta + ou + (E2 - err)) (sta + ou + ho + (E3 - err)) (loc + ol + hl + bl) err P
  have RF := rfits_any (sta + ou + ho + ba - sta) (loc + ol + hl + bl - loc) P
  rw [K1] at RF
  clear x4 x9 y4 K1
  have v1 : IntKind.i64.wrap (2 * err) = 2 * err := IntWalk.i64_in _ (by omega)
  have v2 : IntKind.i64.wrap (2 * err + 1) = 2 * err + 1 := IntWalk.i64_in _ (by omega)
  have v3 : IntKind.i64.wrap (E2 - err) = E2 - err := IntWalk.i64_in _ (by omega)
  have v4 : IntKind.i64.wrap (E3 - err) = E3 - err := IntWalk.i64_in _ (by omega)
  have v5 : IntKind.i64.wrap (sta + ou) = sta + ou := IntWalk.i64_in _ (by omega)
  have v6 : IntKind.i64.wrap (sta + ou + ho) = sta + ou + ho := IntWalk.i64_in _ (by omega)
  have v7 : IntKind.i64.wrap (sta + ou + ho + ba) = sta + ou + ho + ba := IntWalk.i64_in _ (by omega)
  have v8 : IntKind.i64.wrap (sta + ou + (E2 - err)) = sta + ou + (E2 - err) := IntWalk.i64_in _ (by omega)
  have v9 : IntKind.i64.wrap (sta + ou + ho + (E3 - err)) = sta + ou + ho + (E3 - err) := IntWalk.i64_in _ (by omega)
  have v10 : IntKind.i64.wrap (loc + ol) = loc + ol := IntWalk.i64_in _ (by omega)
  have v11 : IntKind.i64.wrap (loc + ol + hl) = loc + ol + hl := IntWalk.i64_in _ (by omega)
  have v12 : IntKind.i64.wrap (loc + ol + hl + bl) = loc + ol + hl + bl := IntWalk.i64_in _ (by omega)
  have v13 : IntKind.i64.wrap (sta + ou + ho + ba - sta) = sta + ou + ho + ba - sta := IntWalk.i64_in _ (by omega)
  have v14 : IntKind.i64.wrap (loc + ol + hl + bl - loc) = loc + ol + hl + bl - loc := IntWalk.i64_in _ (by omega)
  have RAH := Lib.hid RA; have RFH := Lib.hid RF; have HK2 := Lib.hid K2; have HK3 := Lib.hid K3; clear RA RF K2 K3
  go_wp2_with fail
  refine (R2.out _).mono ?_
  rintro e wq ⟨rfl, rfl⟩
  go_wp2_with fail
  refine (R3.out _).mono ?_
  rintro e wq ⟨rfl, rfl⟩
  by_cases hc : sta + ou + ho + (E3 - err) < sta + ou + (E2 - err)
  · have g1 : decide (sta + ou + ho + (E3 - err) < sta + ou + (E2 - err)) = true := decide_eq_true hc
    have RB1 := Lib.hid (HK2.out hc ▸ RAH.out)
    clear RAH HK2 HK3
    go_wp2_with fail
    refine (RB1.out _).mono ?_
    rintro e w3 ⟨rfl, hb3⟩
    have K3 : Below w.heap.size w w3 := kept_call hb3 (by (repeat' (first | (with_reducible exact K2) | (with_reducible refine Below.setCell ?_ ?_ _) | (with_reducible refine Below.alloc ?_ ?_ _) | (with_reducible refine Below.drew ?_) | (with_reducible refine below_drewN ?_ _))) <;> (first | omega | (simp <;> omega)))
    have Z3 : w.heap.size ≤ w3.heap.size := K3.size
    have bT' := Blk.keep (g := gs) hb3 (by (repeat' (first | (with_reducible refine' Blk.alloc ?_ _) | (with_reducible refine' Blk.drew ?_) | (with_reducible refine' Blk.drewN ?_ _) | (with_reducible refine' Blk.put ?_ ?_) | (with_reducible refine' Blk.far ?_ ?_ _) | exact bT | exact rfl)) <;> (first | omega | (simp <;> omega)))
    (try simp only [List.setIfInBounds_toArray, List.set_cons_zero, List.set_cons_succ] at bT')
    have bE' := Blk.keep (g := ge) hb3 (by (repeat' (first | (with_reducible refine' Blk.alloc ?_ _) | (with_reducible refine' Blk.drew ?_) | (with_reducible refine' Blk.drewN ?_ _) | (with_reducible refine' Blk.put ?_ ?_) | (with_reducible refine' Blk.far ?_ ?_ _) | exact bE | exact rfl)) <;> (first | omega | (simp <;> omega)))
    (try simp only [List.setIfInBounds_toArray, List.set_cons_zero, List.set_cons_succ] at bE')
    have b3_0 := Blk.keep (g := w2.heap.size) hb3 (by (repeat' (first | ((with_reducible refine' Blk.newE ?_); first | rfl | (simp; done)) | (with_reducible refine' Blk.alloc ?_ _) | (with_reducible refine' Blk.drew ?_) | (with_reducible refine' Blk.drewN ?_ _) | (with_reducible refine' Blk.put ?_ ?_) | (with_reducible refine' Blk.far ?_ ?_ _) | exact rfl)) <;> (first | omega | (simp <;> omega)))
    (try simp only [List.setIfInBounds_toArray, List.set_cons_zero, List.set_cons_succ] at b3_0)
    have b3_1 := Blk.keep (g := w2.heap.size + 1) hb3 (by (repeat' (first | ((with_reducible refine' Blk.newE ?_); first | rfl | (simp; done)) | (with_reducible refine' Blk.alloc ?_ _) | (with_reducible refine' Blk.drew ?_) | (with_reducible refine' Blk.drewN ?_ _) | (with_reducible refine' Blk.put ?_ ?_) | (with_reducible refine' Blk.far ?_ ?_ _) | exact rfl)) <;> (first | omega | (simp <;> omega)))
    (try simp only [List.setIfInBounds_toArray, List.set_cons_zero, List.set_cons_succ] at b3_1)
    have b3_2 := Blk.keep (g := w2.heap.size + 2) hb3 (by (repeat' (first | ((with_reducible refine' Blk.newE ?_); first | rfl | (simp; done)) | (with_reducible refine' Blk.alloc ?_ _) | (with_reducible refine' Blk.drew ?_) | (with_reducible refine' Blk.drewN ?_ _) | (with_reducible refine' Blk.put ?_ ?_) | (with_reducible refine' Blk.far ?_ ?_ _) | exact rfl)) <;> (first | omega | (simp <;> omega)))
    (try simp only [List.setIfInBounds_toArray, List.set_cons_zero, List.set_cons_succ] at b3_2)
    have ht3 := TapeAt.below (by (repeat' (first | (with_reducible exact HT.out) | (with_reducible refine' TapeAt.alloc ?_ _) | (with_reducible refine' TapeAt.drew ?_) | (with_reducible refine' TapeAt.drewN ?_ _) | (with_reducible refine' TapeAt.set ?_ ?_ _))) <;> (first | omega | (simp <;> omega))) hb3
    clear HT; have T3 := ht3.lt; have HT := Lib.hid ht3; clear ht3
    clear hb3 K2
    clear bT cT fT lT eT kT; have bT := bT'; clear bT'
    clear bE cE fE lE eE kE; have bE := bE'; clear bE'
    obtain ⟨cT, fT, lT, eT, kT⟩ := Blk.facts bT
    obtain ⟨cE, fE, lE, eE, kE⟩ := Blk.facts bE
    obtain ⟨c3_0, f3_0, l3_0, e3_0, k3_0⟩ := Blk.facts b3_0
    obtain ⟨c3_1, f3_1, l3_1, e3_1, k3_1⟩ := Blk.facts b3_1
    obtain ⟨c3_2, f3_2, l3_2, e3_2, k3_2⟩ := Blk.facts b3_2
    have o3_0 := l3_0
    have o3_1 := l3_1
    have o3_2 := l3_2
    go_wp2_with fail
    refine (known23_any _).mono ?_
    rintro e w4 ⟨rfl, hb4⟩
    have K4 : Below w.heap.size w w4 := kept_call hb4 (by (repeat' (first | (with_reducible exact K3) | (with_reducible refine Below.setCell ?_ ?_ _) | (with_reducible refine Below.alloc ?_ ?_ _) | (with_reducible refine Below.drew ?_) | (with_reducible refine below_drewN ?_ _))) <;> (first | omega | (simp <;> omega)))
    have Z4 : w.heap.size ≤ w4.heap.size := K4.size
    have bT' := Blk.keep (g := gs) hb4 (by (repeat' (first | (with_reducible refine' Blk.alloc ?_ _) | (with_reducible refine' Blk.drew ?_) | (with_reducible refine' Blk.drewN ?_ _) | (with_reducible refine' Blk.put ?_ ?_) | (with_reducible refine' Blk.far ?_ ?_ _) | exact bT | exact rfl)) <;> (first | omega | (simp <;> omega)))
    (try simp only [List.setIfInBounds_toArray, List.set_cons_zero, List.set_cons_succ] at bT')
    have bE' := Blk.keep (g := ge) hb4 (by (repeat' (first | (with_reducible refine' Blk.alloc ?_ _) | (with_reducible refine' Blk.drew ?_) | (with_reducible refine' Blk.drewN ?_ _) | (with_reducible refine' Blk.put ?_ ?_) | (with_reducible refine' Blk.far ?_ ?_ _) | exact bE | exact rfl)) <;> (first | omega | (simp <;> omega)))
    (try simp only [List.setIfInBounds_toArray, List.set_cons_zero, List.set_cons_succ] at bE')
    have b3_0' := Blk.keep (g := w2.heap.size) hb4 (by (repeat' (first | (with_reducible refine' Blk.alloc ?_ _) | (with_reducible refine' Blk.drew ?_) | (with_reducible refine' Blk.drewN ?_ _) | (with_reducible refine' Blk.put ?_ ?_) | (with_reducible refine' Blk.far ?_ ?_ _) | exact b3_0 | exact rfl)) <;> (first | omega | (simp <;> omega)))
    (try simp only [List.setIfInBounds_toArray, List.set_cons_zero, List.set_cons_succ] at b3_0')
    have b3_1' := Blk.keep (g := w2.heap.size + 1) hb4 (by (repeat' (first | (with_reducible refine' Blk.alloc ?_ _) | (with_reducible refine' Blk.drew ?_) | (with_reducible refine' Blk.drewN ?_ _) | (with_reducible refine' Blk.put ?_ ?_) | (with_reducible refine' Blk.far ?_ ?_ _) | exact b3_1 | exact rfl)) <;> (first | omega | (simp <;> omega)))
    (try simp only [List.setIfInBounds_toArray, List.set_cons_zero, List.set_cons_succ] at b3_1')
    have b3_2' := Blk.keep (g := w2.heap.size + 2) hb4 (by (repeat' (first | (with_reducible refine' Blk.alloc ?_ _) | (with_reducible refine' Blk.drew ?_) | (with_reducible refine' Blk.drewN ?_ _) | (with_reducible refine' Blk.put ?_ ?_) | (with_reducible refine' Blk.far ?_ ?_ _) | exact b3_2 | exact rfl)) <;> (first | omega | (simp <;> omega)))
    (try simp only [List.setIfInBounds_toArray, List.set_cons_zero, List.set_cons_succ] at b3_2')
    have b4_0 := Blk.keep (g := w3.heap.size) hb4 (by (repeat' (first | ((with_reducible refine' Blk.newE ?_); first | rfl | (simp; done)) | (with_reducible refine' Blk.alloc ?_ _) | (with_reducible refine' Blk.drew ?_) | (with_reducible refine' Blk.drewN ?_ _) | (with_reducible refine' Blk.put ?_ ?_) | (with_reducible refine' Blk.far ?_ ?_ _) | exact rfl)) <;> (first | omega | (simp <;> omega)))
    (try simp only [List.setIfInBounds_toArray, List.set_cons_zero, List.set_cons_succ] at b4_0)
    have ht4 := TapeAt.below (by (repeat' (first | (with_reducible exact HT.out) | (with_reducible refine' TapeAt.alloc ?_ _) | (with_reducible refine' TapeAt.drew ?_) | (with_reducible refine' TapeAt.drewN ?_ _) | (with_reducible refine' TapeAt.set ?_ ?_ _))) <;> (first | omega | (simp <;> omega))) hb4
    clear HT; have T4 := ht4.lt; have HT := Lib.hid ht4; clear ht4
    clear hb4 K3
    clear bT cT fT lT eT kT; have bT := bT'; clear bT'
    clear bE cE fE lE eE kE; have bE := bE'; clear bE'
    clear b3_0 c3_0 f3_0 l3_0 e3_0 k3_0; have b3_0 := b3_0'; clear b3_0'
    clear b3_1 c3_1 f3_1 l3_1 e3_1 k3_1; have b3_1 := b3_1'; clear b3_1'
    clear b3_2 c3_2 f3_2 l3_2 e3_2 k3_2; have b3_2 := b3_2'; clear b3_2'
    obtain ⟨cT, fT, lT, eT, kT⟩ := Blk.facts bT
    obtain ⟨cE, fE, lE, eE, kE⟩ := Blk.facts bE
    obtain ⟨c3_0, f3_0, l3_0, e3_0, k3_0⟩ := Blk.facts b3_0
    obtain ⟨c3_1, f3_1, l3_1, e3_1, k3_1⟩ := Blk.facts b3_1
    obtain ⟨c3_2, f3_2, l3_2, e3_2, k3_2⟩ := Blk.facts b3_2
    obtain ⟨c4_0, f4_0, l4_0, e4_0, k4_0⟩ := Blk.facts b4_0
    have o4_0 := l4_0
    go_wp2
    go_ret
    exact ⟨rfl, (by (repeat' (first | (with_reducible exact K4) | (with_reducible refine Below.setCell ?_ ?_ _) | (with_reducible refine Below.alloc ?_ ?_ _) | (with_reducible refine Below.drew ?_) | (with_reducible refine below_drewN ?_ _))) <;> (first | omega | (simp <;> omega)))⟩
  · have g1 : decide (sta + ou + ho + (E3 - err) < sta + ou + (E2 - err)) = false := decide_eq_false hc
    obtain ⟨a, b, ha, hh⟩ := HK3.out (by omega)
    have RB1 := Lib.hid (ha ▸ RAH.out)
    have RH := Lib.hid (fun (W : World) => hh ▸ rholds_all a b (sta + ou + ho + ba) W)
    clear RAH HK2 HK3 ha hh
    go_wp2_with fail
    refine (RB1.out _).mono ?_
    rintro e w3 ⟨rfl, hb3⟩
    have K3 : Below w.heap.size w w3 := kept_call hb3 (by (repeat' (first | (with_reducible exact K2) | (with_reducible refine Below.setCell ?_ ?_ _) | (with_reducible refine Below.alloc ?_ ?_ _) | (with_reducible refine Below.drew ?_) | (with_reducible refine below_drewN ?_ _))) <;> (first | omega | (simp <;> omega)))
    have Z3 : w.heap.size ≤ w3.heap.size := K3.size
    have bT' := Blk.keep (g := gs) hb3 (by (repeat' (first | (with_reducible refine' Blk.alloc ?_ _) | (with_reducible refine' Blk.drew ?_) | (with_reducible refine' Blk.drewN ?_ _) | (with_reducible refine' Blk.put ?_ ?_) | (with_reducible refine' Blk.far ?_ ?_ _) | exact bT | exact rfl)) <;> (first | omega | (simp <;> omega)))
    (try simp only [List.setIfInBounds_toArray, List.set_cons_zero, List.set_cons_succ] at bT')
    have bE' := Blk.keep (g := ge) hb3 (by (repeat' (first | (with_reducible refine' Blk.alloc ?_ _) | (with_reducible refine' Blk.drew ?_) | (with_reducible refine' Blk.drewN ?_ _) | (with_reducible refine' Blk.put ?_ ?_) | (with_reducible refine' Blk.far ?_ ?_ _) | exact bE | exact rfl)) <;> (first | omega | (simp <;> omega)))
    (try simp only [List.setIfInBounds_toArray, List.set_cons_zero, List.set_cons_succ] at bE')
    have b3_0 := Blk.keep (g := w2.heap.size) hb3 (by (repeat' (first | ((with_reducible refine' Blk.newE ?_); first | rfl | (simp; done)) | (with_reducible refine' Blk.alloc ?_ _) | (with_reducible refine' Blk.drew ?_) | (with_reducible refine' Blk.drewN ?_ _) | (with_reducible refine' Blk.put ?_ ?_) | (with_reducible refine' Blk.far ?_ ?_ _) | exact rfl)) <;> (first | omega | (simp <;> omega)))
    (try simp only [List.setIfInBounds_toArray, List.set_cons_zero, List.set_cons_succ] at b3_0)
    have b3_1 := Blk.keep (g := w2.heap.size + 1) hb3 (by (repeat' (first | ((with_reducible refine' Blk.newE ?_); first | rfl | (simp; done)) | (with_reducible refine' Blk.alloc ?_ _) | (with_reducible refine' Blk.drew ?_) | (with_reducible refine' Blk.drewN ?_ _) | (with_reducible refine' Blk.put ?_ ?_) | (with_reducible refine' Blk.far ?_ ?_ _) | exact rfl)) <;> (first | omega | (simp <;> omega)))
    (try simp only [List.setIfInBounds_toArray, List.set_cons_zero, List.set_cons_succ] at b3_1)
    have b3_2 := Blk.keep (g := w2.heap.size + 2) hb3 (by (repeat' (first | ((with_reducible refine' Blk.newE ?_); first | rfl | (simp; done)) | (with_reducible refine' Blk.alloc ?_ _) | (with_reducible refine' Blk.drew ?_) | (with_reducible refine' Blk.drewN ?_ _) | (with_reducible refine' Blk.put ?_ ?_) | (with_reducible refine' Blk.far ?_ ?_ _) | exact rfl)) <;> (first | omega | (simp <;> omega)))
    (try simp only [List.setIfInBounds_toArray, List.set_cons_zero, List.set_cons_succ] at b3_2)
    have ht3 := TapeAt.below (by (repeat' (first | (with_reducible exact HT.out) | (with_reducible refine' TapeAt.alloc ?_ _) | (with_reducible refine' TapeAt.drew ?_) | (with_reducible refine' TapeAt.drewN ?_ _) | (with_reducible refine' TapeAt.set ?_ ?_ _))) <;> (first | omega | (simp <;> omega))) hb3
    clear HT; have T3 := ht3.lt; have HT := Lib.hid ht3; clear ht3
    clear hb3 K2
    clear bT cT fT lT eT kT; have bT := bT'; clear bT'
    clear bE cE fE lE eE kE; have bE := bE'; clear bE'
    obtain ⟨cT, fT, lT, eT, kT⟩ := Blk.facts bT
    obtain ⟨cE, fE, lE, eE, kE⟩ := Blk.facts bE
    obtain ⟨c3_0, f3_0, l3_0, e3_0, k3_0⟩ := Blk.facts b3_0
    obtain ⟨c3_1, f3_1, l3_1, e3_1, k3_1⟩ := Blk.facts b3_1
    obtain ⟨c3_2, f3_2, l3_2, e3_2, k3_2⟩ := Blk.facts b3_2
    have o3_0 := l3_0
    have o3_1 := l3_1
    have o3_2 := l3_2
    go_wp2_with fail
    refine (known23_any _).mono ?_
    rintro e w4 ⟨rfl, hb4⟩
    have K4 : Below w.heap.size w w4 := kept_call hb4 (by (repeat' (first | (with_reducible exact K3) | (with_reducible refine Below.setCell ?_ ?_ _) | (with_reducible refine Below.alloc ?_ ?_ _) | (with_reducible refine Below.drew ?_) | (with_reducible refine below_drewN ?_ _))) <;> (first | omega | (simp <;> omega)))
    have Z4 : w.heap.size ≤ w4.heap.size := K4.size
    have bT' := Blk.keep (g := gs) hb4 (by (repeat' (first | (with_reducible refine' Blk.alloc ?_ _) | (with_reducible refine' Blk.drew ?_) | (with_reducible refine' Blk.drewN ?_ _) | (with_reducible refine' Blk.put ?_ ?_) | (with_reducible refine' Blk.far ?_ ?_ _) | exact bT | exact rfl)) <;> (first | omega | (simp <;> omega)))
    (try simp only [List.setIfInBounds_toArray, List.set_cons_zero, List.set_cons_succ] at bT')
    have bE' := Blk.keep (g := ge) hb4 (by (repeat' (first | (with_reducible refine' Blk.alloc ?_ _) | (with_reducible refine' Blk.drew ?_) | (with_reducible refine' Blk.drewN ?_ _) | (with_reducible refine' Blk.put ?_ ?_) | (with_reducible refine' Blk.far ?_ ?_ _) | exact bE | exact rfl)) <;> (first | omega | (simp <;> omega)))
    (try simp only [List.setIfInBounds_toArray, List.set_cons_zero, List.set_cons_succ] at bE')
    have b3_0' := Blk.keep (g := w2.heap.size) hb4 (by (repeat' (first | (with_reducible refine' Blk.alloc ?_ _) | (with_reducible refine' Blk.drew ?_) | (with_reducible refine' Blk.drewN ?_ _) | (with_reducible refine' Blk.put ?_ ?_) | (with_reducible refine' Blk.far ?_ ?_ _) | exact b3_0 | exact rfl)) <;> (first | omega | (simp <;> omega)))
    (try simp only [List.setIfInBounds_toArray, List.set_cons_zero, List.set_cons_succ] at b3_0')
    have b3_1' := Blk.keep (g := w2.heap.size + 1) hb4 (by (repeat' (first | (with_reducible refine' Blk.alloc ?_ _) | (with_reducible refine' Blk.drew ?_) | (with_reducible refine' Blk.drewN ?_ _) | (with_reducible refine' Blk.put ?_ ?_) | (with_reducible refine' Blk.far ?_ ?_ _) | exact b3_1 | exact rfl)) <;> (first | omega | (simp <;> omega)))
    (try simp only [List.setIfInBounds_toArray, List.set_cons_zero, List.set_cons_succ] at b3_1')
    have b3_2' := Blk.keep (g := w2.heap.size + 2) hb4 (by (repeat' (first | (with_reducible refine' Blk.alloc ?_ _) | (with_reducible refine' Blk.drew ?_) | (with_reducible refine' Blk.drewN ?_ _) | (with_reducible refine' Blk.put ?_ ?_) | (with_reducible refine' Blk.far ?_ ?_ _) | exact b3_2 | exact rfl)) <;> (first | omega | (simp <;> omega)))
    (try simp only [List.setIfInBounds_toArray, List.set_cons_zero, List.set_cons_succ] at b3_2')
    have b4_0 := Blk.keep (g := w3.heap.size) hb4 (by (repeat' (first | ((with_reducible refine' Blk.newE ?_); first | rfl | (simp; done)) | (with_reducible refine' Blk.alloc ?_ _) | (with_reducible refine' Blk.drew ?_) | (with_reducible refine' Blk.drewN ?_ _) | (with_reducible refine' Blk.put ?_ ?_) | (with_reducible refine' Blk.far ?_ ?_ _) | exact rfl)) <;> (first | omega | (simp <;> omega)))
    (try simp only [List.setIfInBounds_toArray, List.set_cons_zero, List.set_cons_succ] at b4_0)
    have ht4 := TapeAt.below (by (repeat' (first | (with_reducible exact HT.out) | (with_reducible refine' TapeAt.alloc ?_ _) | (with_reducible refine' TapeAt.drew ?_) | (with_reducible refine' TapeAt.drewN ?_ _) | (with_reducible refine' TapeAt.set ?_ ?_ _))) <;> (first | omega | (simp <;> omega))) hb4
    clear HT; have T4 := ht4.lt; have HT := Lib.hid ht4; clear ht4
    clear hb4 K3
    clear bT cT fT lT eT kT; have bT := bT'; clear bT'
    clear bE cE fE lE eE kE; have bE := bE'; clear bE'
    clear b3_0 c3_0 f3_0 l3_0 e3_0 k3_0; have b3_0 := b3_0'; clear b3_0'
    clear b3_1 c3_1 f3_1 l3_1 e3_1 k3_1; have b3_1 := b3_1'; clear b3_1'
    clear b3_2 c3_2 f3_2 l3_2 e3_2 k3_2; have b3_2 := b3_2'; clear b3_2'
    obtain ⟨cT, fT, lT, eT, kT⟩ := Blk.facts bT
    obtain ⟨cE, fE, lE, eE, kE⟩ := Blk.facts bE
    obtain ⟨c3_0, f3_0, l3_0, e3_0, k3_0⟩ := Blk.facts b3_0
    obtain ⟨c3_1, f3_1, l3_1, e3_1, k3_1⟩ := Blk.facts b3_1
    obtain ⟨c3_2, f3_2, l3_2, e3_2, k3_2⟩ := Blk.facts b3_2
    obtain ⟨c4_0, f4_0, l4_0, e4_0, k4_0⟩ := Blk.facts b4_0
    have o4_0 := l4_0
    go_wp2_with fail
    refine (RH.out _).mono ?_
    rintro e w5 ⟨rfl, hb5⟩
    have K5 : Below w.heap.size w w5 := kept_call hb5 (by (repeat' (first | (with_reducible exact K4) | (with_reducible refine Below.setCell ?_ ?_ _) | (with_reducible refine Below.alloc ?_ ?_ _) | (with_reducible refine Below.drew ?_) | (with_reducible refine below_drewN ?_ _))) <;> (first | omega | (simp <;> omega)))
    have Z5 : w.heap.size ≤ w5.heap.size := K5.size
    have bT' := Blk.keep (g := gs) hb5 (by (repeat' (first | (with_reducible refine' Blk.alloc ?_ _) | (with_reducible refine' Blk.drew ?_) | (with_reducible refine' Blk.drewN ?_ _) | (with_reducible refine' Blk.put ?_ ?_) | (with_reducible refine' Blk.far ?_ ?_ _) | exact bT | exact rfl)) <;> (first | omega | (simp <;> omega)))
    (try simp only [List.setIfInBounds_toArray, List.set_cons_zero, List.set_cons_succ] at bT')
    have bE' := Blk.keep (g := ge) hb5 (by (repeat' (first | (with_reducible refine' Blk.alloc ?_ _) | (with_reducible refine' Blk.drew ?_) | (with_reducible refine' Blk.drewN ?_ _) | (with_reducible refine' Blk.put ?_ ?_) | (with_reducible refine' Blk.far ?_ ?_ _) | exact bE | exact rfl)) <;> (first | omega | (simp <;> omega)))
    (try simp only [List.setIfInBounds_toArray, List.set_cons_zero, List.set_cons_succ] at bE')
    have b3_0' := Blk.keep (g := w2.heap.size) hb5 (by (repeat' (first | (with_reducible refine' Blk.alloc ?_ _) | (with_reducible refine' Blk.drew ?_) | (with_reducible refine' Blk.drewN ?_ _) | (with_reducible refine' Blk.put ?_ ?_) | (with_reducible refine' Blk.far ?_ ?_ _) | exact b3_0 | exact rfl)) <;> (first | omega | (simp <;> omega)))
    (try simp only [List.setIfInBounds_toArray, List.set_cons_zero, List.set_cons_succ] at b3_0')
    have b3_1' := Blk.keep (g := w2.heap.size + 1) hb5 (by (repeat' (first | (with_reducible refine' Blk.alloc ?_ _) | (with_reducible refine' Blk.drew ?_) | (with_reducible refine' Blk.drewN ?_ _) | (with_reducible refine' Blk.put ?_ ?_) | (with_reducible refine' Blk.far ?_ ?_ _) | exact b3_1 | exact rfl)) <;> (first | omega | (simp <;> omega)))
    (try simp only [List.setIfInBounds_toArray, List.set_cons_zero, List.set_cons_succ] at b3_1')
    have b3_2' := Blk.keep (g := w2.heap.size + 2) hb5 (by (repeat' (first | (with_reducible refine' Blk.alloc ?_ _) | (with_reducible refine' Blk.drew ?_) | (with_reducible refine' Blk.drewN ?_ _) | (with_reducible refine' Blk.put ?_ ?_) | (with_reducible refine' Blk.far ?_ ?_ _) | exact b3_2 | exact rfl)) <;> (first | omega | (simp <;> omega)))
    (try simp only [List.setIfInBounds_toArray, List.set_cons_zero, List.set_cons_succ] at b3_2')
    have b4_0' := Blk.keep (g := w3.heap.size) hb5 (by (repeat' (first | (with_reducible refine' Blk.alloc ?_ _) | (with_reducible refine' Blk.drew ?_) | (with_reducible refine' Blk.drewN ?_ _) | (with_reducible refine' Blk.put ?_ ?_) | (with_reducible refine' Blk.far ?_ ?_ _) | exact b4_0 | exact rfl)) <;> (first | omega | (simp <;> omega)))
    (try simp only [List.setIfInBounds_toArray, List.set_cons_zero, List.set_cons_succ] at b4_0')
    have ht5 := TapeAt.below (by (repeat' (first | (with_reducible exact HT.out) | (with_reducible refine' TapeAt.alloc ?_ _) | (with_reducible refine' TapeAt.drew ?_) | (with_reducible refine' TapeAt.drewN ?_ _) | (with_reducible refine' TapeAt.set ?_ ?_ _))) <;> (first | omega | (simp <;> omega))) hb5
    clear HT; have T5 := ht5.lt; have HT := Lib.hid ht5; clear ht5
    clear hb5 K4
    clear bT cT fT lT eT kT; have bT := bT'; clear bT'
    clear bE cE fE lE eE kE; have bE := bE'; clear bE'
    clear b3_0 c3_0 f3_0 l3_0 e3_0 k3_0; have b3_0 := b3_0'; clear b3_0'
    clear b3_1 c3_1 f3_1 l3_1 e3_1 k3_1; have b3_1 := b3_1'; clear b3_1'
    clear b3_2 c3_2 f3_2 l3_2 e3_2 k3_2; have b3_2 := b3_2'; clear b3_2'
    clear b4_0 c4_0 f4_0 l4_0 e4_0 k4_0; have b4_0 := b4_0'; clear b4_0'
    obtain ⟨cT, fT, lT, eT, kT⟩ := Blk.facts bT
    obtain ⟨cE, fE, lE, eE, kE⟩ := Blk.facts bE
    obtain ⟨c3_0, f3_0, l3_0, e3_0, k3_0⟩ := Blk.facts b3_0
    obtain ⟨c3_1, f3_1, l3_1, e3_1, k3_1⟩ := Blk.facts b3_1
    obtain ⟨c3_2, f3_2, l3_2, e3_2, k3_2⟩ := Blk.facts b3_2
    obtain ⟨c4_0, f4_0, l4_0, e4_0, k4_0⟩ := Blk.facts b4_0
    go_wp2_with fail
    refine (RFH.out _).mono ?_
    rintro e wq ⟨rfl, rfl⟩
    go_wp2
    go_ret
    exact ⟨rfl, (by (repeat' (first | (with_reducible exact K5) | (with_reducible refine Below.setCell ?_ ?_ _) | (with_reducible refine Below.alloc ?_ ?_ _) | (with_reducible refine Below.drew ?_) | (with_reducible refine below_drewN ?_ _))) <;> (first | omega | (simp <;> omega)))⟩
theorem extrue_walk (A : Option Addr) (len cap : Nat) (zs : List Int) {w : World} (hA : IntsAt w A len zs) (e2 : Int) (_ : IntIn e2) (e3 : Int) (_ : IntIn e3) (W : World) (h : W = w) :
    Walked 3 #[.slice A len cap, .int .i64 e2, .int .i64 e3] W := by
  subst h; exact extrue_core A len cap zs e2 e3 W hA
end Go.Proofs.Ytlfkkfdolnkjfaa
