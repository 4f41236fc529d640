/- smear.shows: what a smeared clock shows. -/
import Derived.Test.YtmebkbnildjfhaaLeapS
import Derived.Sort.CutIn
namespace Go.Proofs.Ytmebkbnildjfhaa
open Go.RowKit Go.Shelf
set_option linter.unusedSimpArgs false
set_option linter.unusedVariables false

attribute [local go_sem] Oper.semAt_some
/-- What is shown from the beginning of window i on. -/
def vAt (first : Int) (zs : List (Int × Int)) (t : Int) (i : Nat) : Int := if wiHi zs i ≤ t then t - (zs.getD i (0, 0)).2 * 1048576 else wsLo zs i + quo (t - wiLo first zs i) 86400 (86400 + (zs.getD i (0, 0)).2 - oldL first zs i) false
theorem shAt_hit {first : Int} {zs : List (Int × Int)} {t : Int} (hv : LVal first zs) {x : Nat} (hx : wiLo first zs x ≤ t) : ∀ k, x < k → k ≤ zs.length → (∀ j, x < j → j < k → t < wiLo first zs j) → shAt first zs t k = vAt first zs t x
  | 0, h, _, _ => by omega
  | k + 1, h, hk, hj => by
    unfold shAt vAt
    by_cases e : x = k
    · subst e
      split
      · rfl
      · first | rfl | rw [if_pos hx]
    · have h1 := hj k (by omega) (by omega)
      have h2 := hv.win (i := k) (by omega)
      rw [if_neg (by omega), if_neg (by omega), shAt_hit hv hx k (by omega) (by omega) (fun j a b => hj j a (by omega))]
      rfl
theorem shAt_none {first : Int} {zs : List (Int × Int)} {t : Int} (hv : LVal first zs) : ∀ k, k ≤ zs.length → (∀ j, j < k → t < wiLo first zs j) → shAt first zs t k = t - first * 1048576
  | 0, _, _ => rfl
  | k + 1, hk, hj => by
    unfold shAt
    have h1 := hj k (by omega)
    have h2 := hv.win (i := k) (by omega)
    rw [if_neg (by omega), if_neg (by omega), shAt_none hv k (by omega) (fun j a => hj j (by omega))]
/-- w' has grown out of W, all that lay at the head of the call is as it was, and of what W held only the blocks X have turned. -/
def PB (w W : World) (X : List Nat) (w' : World) : Prop := Below w.heap.size w w' ∧ Past X W w'
theorem PB.call {w W w' w2 : World} {X : List Nat} (hb : Below w'.heap.size w' w2) (h : PB w W X w') : PB w W X w2 := ⟨kept_call hb h.1, h.2.trans (Past.below hb)⟩
theorem PB.drew {w W w' : World} {X : List Nat} (h : PB w W X w') : PB w W X w'.drew := ⟨h.1.drew, h.2.drew⟩
theorem PB.setIn {w W w' : World} {X : List Nat} {p : Addr} (h : PB w W X w') (h1 : w.heap.size ≤ p.block) (h2 : p.block ∈ X) (v : Value) : PB w W X (w'.setCell p v) := ⟨h.1.setCell h1 v, h.2.trans (Past.set h2 v)⟩
def IxP (w : World) (first : Int) (zs : List (Int × Int)) (len : Nat) (tt : Int) (c : Code) (pre : List {i : Nat // i < len}) (W : World) : Prop :=
  (∃ (p0 : List {i : Nat // i < len}) (x : {i : Nat // i < len}), c = .ret ∧ pre = p0 ++ [x] ∧ (∀ j ∈ p0, tt < wiLo first zs j.1) ∧ wiLo first zs x.1 ≤ tt ∧ Blk W (w.heap.size + 2) 3 #[.int .i64 (vAt first zs tt x.1)]) ∧ Below w.heap.size w W ∧ w.heap.size + 4 ≤ W.heap.size
theorem Past.setI {X : List Nat} {W w : World} {a : Addr} (h : Past X W w) (ha : a.block ∈ X) (v : Value) : Past X W (w.setCell a v) := h.trans (Past.set ha v)
theorem Past.allocI {X : List Nat} {W w : World} (h : Past X W w) (o : Obj) : Past X W (w.alloc o) := h.trans (Past.alloc _ _ _)
theorem keepsOthers_past {X : List Nat} {W W' : World} (h : Past X W W') (hX : ∀ k ∈ X, ∃ t cs, Blk W k t cs) : KeepsOthers W W' := ⟨h.1, fun k o hk ho => by
  by_cases hm : k ∈ X
  · obtain ⟨t, cs, hb⟩ := hX k hm
    rw [show W.heap[k]? = _ from hb] at hk; cases hk; cases ho
  · rw [h.2.2.2.2 k (Array.getElem?_eq_some_iff.1 hk).1 hm]; exact hk⟩
set_option maxRecDepth 100000 in
set_option maxHeartbeats 4000000 in
theorem shows_any (first : Int) (A : Option Addr) (len cap : Nat) (zs : List (Int × Int)) (tt : Int) (hv : LVal first zs) (t0 : 0 ≤ tt) (t1 : tt ≤ 1152921504606846976) (w : World) (h : PrAt w A len zs) :
    Calls Try.prog 42 #[.agg #[.int .i64 first, .slice A len cap], .int .i64 tt] w (RB w (.int .i64 (shL first zs tt))) := by
  have hz := h.1
  have l64 := hv.2.2.1
  have f0 := hv.1; have f1 := hv.2.1
  have RW := Lib.hid (fun (i : Nat) (hi : i < len) W (hW : Below w.heap.size w W) => window_any first A len cap zs i hi hv W (h.below hW))
  have RO := Lib.hid (fun (i : Nat) (hi : i < len) W (hW : Below w.heap.size w W) => old_any first A len cap zs i hi W (h.below hW))
  have HV := Lib.hid hv; have H := Lib.hid h; clear hv h
  refine (callsIn_wide (n := 8)).1 ?_
  refine callsIn_of_wp_marks Try.func42 rfl trivial ?_ rfl
  simp only [Try.ntmps42, List.size_toArray, List.length_cons, List.length_nil, Nat.reduceAdd, Nat.reduceSub, Array.replicate_succ, Array.replicate_zero, List.push_toArray, List.append_toArray, List.nil_append, List.cons_append]
  gi_wp2_with (refine ⟨trivial, ?_⟩; gi_at_call 75; refine (backward_in Fence.wide _ trivial rfl _ _ _ _).mono ?_; rintro e w' ⟨rfl, rfl⟩)
  have bL : Blk ((((w.alloc (.cells #[.int .i64 first, .slice A len cap] 25)).alloc (.cells #[.int .i64 tt] 3)).alloc (.cells #[.int .i64 0] 3)).alloc (.cells #[.slice A len cap] 23)) w.heap.size 25 #[.int .i64 first, .slice A len cap] := (((Blk.new _ _ _).alloc _).alloc _).alloc _
  have bT : Blk ((((w.alloc (.cells #[.int .i64 first, .slice A len cap] 25)).alloc (.cells #[.int .i64 tt] 3)).alloc (.cells #[.int .i64 0] 3)).alloc (.cells #[.slice A len cap] 23)) (w.heap.size + 1) 3 #[.int .i64 tt] := ((Blk.new1 _ _ _ _).alloc _).alloc _
  have bR : Blk ((((w.alloc (.cells #[.int .i64 first, .slice A len cap] 25)).alloc (.cells #[.int .i64 tt] 3)).alloc (.cells #[.int .i64 0] 3)).alloc (.cells #[.slice A len cap] 23)) (w.heap.size + 2) 3 #[.int .i64 0] := (Blk.new2 _ _ _ _ _).alloc _
  have bS : Blk ((((w.alloc (.cells #[.int .i64 first, .slice A len cap] 25)).alloc (.cells #[.int .i64 tt] 3)).alloc (.cells #[.int .i64 0] 3)).alloc (.cells #[.slice A len cap] 23)) (w.heap.size + 3) 23 #[.slice A len cap] := Blk.new3 _ _ _ _ _ _
  have hB : Below w.heap.size w ((((w.alloc (.cells #[.int .i64 first, .slice A len cap] 25)).alloc (.cells #[.int .i64 tt] 3)).alloc (.cells #[.int .i64 0] 3)).alloc (.cells #[.slice A len cap] 23)) := ((((Below.refl _ w).alloc (Nat.le_refl _) _).alloc (by simp) _).alloc (by simp; omega) _).alloc (by simp; omega) _
  have hsz : ((((w.alloc (.cells #[.int .i64 first, .slice A len cap] 25)).alloc (.cells #[.int .i64 tt] 3)).alloc (.cells #[.int .i64 0] 3)).alloc (.cells #[.slice A len cap] 23)).heap.size = w.heap.size + 4 := by simp
  generalize ((((w.alloc (.cells #[.int .i64 first, .slice A len cap] 25)).alloc (.cells #[.int .i64 tt] 3)).alloc (.cells #[.int .i64 0] 3)).alloc (.cells #[.slice A len cap] 23)) = W0 at *
  refine wpIn_rangeFunc_ownH (n := 8) rfl (by decide) (gf := 102) (lb := #[.pointer (some ⟨w.heap.size + 3, 0, none⟩)]) rfl trivial (enters_of Try.func102 (by kernel_rfl) rfl)
    (back_stops Fence.wide (8 - 1) trivial rfl (by decide) (w.heap.size + 3) A len cap zs (by omega) W0.heap.size w W0 (by omega) (by omega) (Nat.le_refl _) (bS.cell 0) H.out hB) belowK_t (belowK_b (Nat.le_refl _)) (Below.refl _ _) (fun _ => rfl)
    (fun pre W => (Blk W w.heap.size 25 #[.int .i64 first, .slice A len cap] ∧ Blk W (w.heap.size + 1) 3 #[.int .i64 tt] ∧ Blk W (w.heap.size + 2) 3 #[.int .i64 0] ∧ ∀ j ∈ pre, tt < wiLo first zs j.1) ∧ Below w.heap.size w W ∧ w.heap.size + 4 ≤ W.heap.size)
    (fun c pre W => IxP w first zs len tt c pre W)
    ?hI ?hIx ⟨⟨bL, bT, bR, by simp⟩, hB, by omega⟩
    (fun x a' W => ∃ Bx, w.heap.size + 3 < Bx ∧ Blk W Bx 67 #[.int .i64 (zs.getD x.1 (0, 0)).1, .int .i64 (zs.getD x.1 (0, 0)).2] ∧ a' = { tmps := #[.agg #[.int .i64 first, .slice A len cap], .int .i64 tt, .pointer (some ⟨w.heap.size, 0, none⟩), .pointer (some ⟨w.heap.size + 1, 0, none⟩), .pointer (some ⟨w.heap.size + 2, 0, none⟩), .int .i64 (x.1 : Int), .pointer (some ⟨Bx, 0, none⟩), undef, undef, .pointer (some ⟨w.heap.size, 1, none⟩), .slice A len cap, .func (.func 102) #[] #[.pointer (some ⟨w.heap.size + 3, 0, none⟩)], .int .i64 (x.1 : Int), .agg #[.int .i64 (zs.getD x.1 (0, 0)).1, .int .i64 (zs.getD x.1 (0, 0)).2], undef, undef, undef, undef, undef, undef, undef, undef, undef, undef, undef, undef, undef, undef, undef, undef, undef, undef, undef, undef, undef, undef, undef, undef, undef, undef, undef, undef, undef, undef, undef, undef, undef, undef, undef, undef, undef, undef, undef, undef, undef], defers := [] })
    (fun x a' _ X Y row hs hg hr => by obtain ⟨Bx, h1, h2, h3⟩ := hs; exact ⟨Bx, h1, (hg.block Bx h2.lt (fun e => by obtain ⟨_, o, ho, hc⟩ := hr Bx e.symm; rw [show X.heap[Bx]? = _ from h2] at ho; cases ho; cases hc)).trans h2, h3⟩)
    ?assign ?body ?done ?stop
  case hI =>
    intro pre X Y row hs hg hr
    obtain ⟨⟨h1, h2, h3, h4⟩, h5⟩ := hs
    have kb : ∀ {k : Nat} {t : TypeId} {cs : Array Value}, Blk X k t cs → Blk Y k t cs := fun {k t cs} hb => (hg.block k hb.lt (fun e => by obtain ⟨_, o, ho, hc⟩ := hr k e.symm; rw [show X.heap[k]? = _ from hb] at ho; cases ho; cases hc)).trans hb
    exact ⟨⟨kb h1, kb h2, kb h3, h4⟩, h5.1.grown hg h5.1.size (fun k e => Nat.le_trans hB.size (hr k e).1), Nat.le_trans h5.2 hg.size⟩
  case hIx =>
    intro c pre X Y row hs hg hr
    obtain ⟨⟨p0, x, h1, h2, h3, h4, h6⟩, h5⟩ := hs
    have kb : ∀ {k : Nat} {t : TypeId} {cs : Array Value}, Blk X k t cs → Blk Y k t cs := fun {k t cs} hb => (hg.block k hb.lt (fun e => by obtain ⟨_, o, ho, hc⟩ := hr k e.symm; rw [show X.heap[k]? = _ from hb] at ho; cases ho; cases hc)).trans hb
    exact ⟨⟨p0, x, h1, h2, h3, h4, kb h6⟩, h5.1.grown hg h5.1.size (fun k e => Nat.le_trans hB.size (hr k e).1), Nat.le_trans h5.2 hg.size⟩
  case assign =>
    rintro l pre x W K ⟨⟨h1, h2, h3, h4⟩, h5⟩ hK
    unfold encL
    gi_wp2
    exact hK _ _ ((KeepsOthers.alloc _ _).from _) ((Below.refl _ W).alloc (by have := h5.2; omega) _) ⟨⟨h1.alloc _, h2.alloc _, h3.alloc _, h4⟩, h5.1.alloc h5.1.size _, by have := h5.2; simp; omega⟩ ⟨W.heap.size, by have := h5.2; omega, Blk.new _ _ _, rfl⟩
  case body =>
    rintro l pre x a' W hl ⟨r, hr⟩ ⟨⟨bL, bT, bR, h4⟩, h5, h6⟩ ⟨Bx, hBx, bX, rfl⟩ hlt
    obtain ⟨i, hil⟩ := x
    dsimp only at bX
    obtain ⟨a1, a2, a3, a4, a5⟩ := HV.out.at_ (i := i) (by omega)
    obtain ⟨b1, b2⟩ := HV.out.off (i := i) (by omega)
    have hvA : vAt first zs tt i = if wiHi zs i ≤ tt then tt - (zs.getD i (0, 0)).2 * 1048576 else wsLo zs i + quo (tt - wiLo first zs i) 86400 (86400 + (zs.getD i (0, 0)).2 - oldL first zs i) false := rfl
    have e1 : wsLo zs i = ((zs.getD i (0, 0)).1 - 43200) * 1048576 := rfl
    have e2 : wiLo first zs i = wsLo zs i + oldL first zs i * 1048576 := rfl
    have e3 : wiHi zs i = ((zs.getD i (0, 0)).1 + 43200) * 1048576 + (zs.getD i (0, 0)).2 * 1048576 := rfl
    have rw1 := RW.out i hil W h5
    have ro1 := RO.out i hil
    have hIx : ∀ W', Blk W' (w.heap.size + 2) 3 #[.int .i64 (vAt first zs tt i)] → wiLo first zs i ≤ tt → Below w.heap.size w W' → w.heap.size + 4 ≤ W'.heap.size → IxP w first zs len tt .ret (pre ++ [⟨i, hil⟩]) W' :=
      fun W' h1 h2 h3 h7 => ⟨⟨pre, ⟨i, hil⟩, rfl, rfl, h4, h2, h1⟩, h3, h7⟩
    have hIn : tt < wiLo first zs i → ∀ j ∈ pre ++ [⟨i, hil⟩], tt < wiLo first zs j.1 := fun h j hj => by
      rcases List.mem_append.1 hj with hj | hj
      · exact h4 j hj
      · rw [List.mem_singleton.1 hj]; exact h
    have hq : wiLo first zs i ≤ tt → tt < wiHi zs i → ∀ W', Calls Try.prog 76 #[.int .i64 (tt - wiLo first zs i), .int .i64 86400, .int .i64 (86400 + (zs.getD i (0, 0)).2 - oldL first zs i), .bool false] W' (RB W' (.int .i64 (quo (tt - wiLo first zs i) 86400 (86400 + (zs.getD i (0, 0)).2 - oldL first zs i) false))) := fun h1 h2 W' => by
      have hd : (tt - wiLo first zs i) * 86400 / (86400 + (zs.getD i (0, 0)).2 - oldL first zs i) ≤ 9223372036854775806 := by
        rcases a5 with a5 | a5
        · rw [show 86400 + (zs.getD i (0, 0)).2 - oldL first zs i = 86401 by omega]; omega
        · rw [show 86400 + (zs.getD i (0, 0)).2 - oldL first zs i = 86399 by omega]; omega
      exact (quotient_pos (tt - wiLo first zs i) 86400 (86400 + (zs.getD i (0, 0)).2 - oldL first zs i) false W' (by omega) (by omega) (by omega) (by omega) (by omega) (by omega) hd).mono (fun _ _ hh => ⟨hh.1, by obtain ⟨n, e⟩ := hh.2; rw [e]; exact below_drewN (Below.refl _ _) n⟩)
    have hqb : wiLo first zs i ≤ tt → tt < wiHi zs i → 0 ≤ quo (tt - wiLo first zs i) 86400 (86400 + (zs.getD i (0, 0)).2 - oldL first zs i) false ∧ quo (tt - wiLo first zs i) 86400 (86400 + (zs.getD i (0, 0)).2 - oldL first zs i) false ≤ 1000000000000 := fun h1 h2 => by
      rw [quo_down]
      rcases a5 with a5 | a5
      · rw [show 86400 + (zs.getD i (0, 0)).2 - oldL first zs i = 86401 by omega]; omega
      · rw [show 86400 + (zs.getD i (0, 0)).2 - oldL first zs i = 86399 by omega]; omega
    generalize quo (tt - wiLo first zs i) 86400 (86400 + (zs.getD i (0, 0)).2 - oldL first zs i) false = qv at *
    generalize vAt first zs tt i = v at *
    generalize wiHi zs i = ih at *
    generalize wiLo first zs i = il at *
    generalize wsLo zs i = sl at *
    generalize wsHi zs i = sh at *
    generalize oldL first zs i = ov at *
    generalize zs.getD i (0, 0) = z at *
    obtain ⟨xa, y⟩ := z
    dsimp only at *
    have HVA := Lib.hid hvA; have HQ := Lib.hid hq; have HQB := Lib.hid hqb; have HIX := Lib.hid hIx; have HIN := Lib.hid hIn; have R1 := Lib.hid rw1; have R2 := Lib.hid ro1; have E := Lib.hid (And.intro e1 (And.intro e2 e3)); have H4 := Lib.hid h4
    clear hvA hq hqb hIx hIn rw1 ro1 e1 e2 e3 h4
    obtain ⟨cL, fL, lL, eL, kL⟩ := Blk.facts bL
    obtain ⟨cT, fT, lT, eT, kT⟩ := Blk.facts bT
    obtain ⟨cR, fR, lR, eR, kR⟩ := Blk.facts bR
    obtain ⟨cX, fX, lX, eX, kX⟩ := Blk.facts bX
    have wy : IntKind.i64.wrap (y * 1048576) = y * 1048576 := IntWalk.i64_in _ (by omega)
    have hbl : w.heap.size + 2 ≠ Bx := by omega
    by_cases k1 : ih ≤ tt
    · have g1 : decide (ih ≤ tt) = true := decide_eq_true k1
      have hil2 : il ≤ tt := by obtain ⟨u1, u2, u3⟩ := E.out; omega
      have hv1 : v = tt - y * 1048576 := by rw [HVA.out, if_pos k1]
      have HV1 := Lib.hid hv1; clear hv1
      have wt : IntKind.i64.wrap (tt - y * 1048576) = tt - y * 1048576 := IntWalk.i64_in _ (by omega)
      gi_wp2_with (refine ⟨trivial, ?_⟩; gi_at_call 60; refine (CallsIn.inRound l (callsIn_wide.2 R1.out)).mono ?_; rintro e w2 ⟨rfl, hb2⟩; have bL2 := Blk.keep hb2 bL; have bT2 := Blk.keep hb2 bT; have bR2 := Blk.keep hb2 bR; have bX2 := Blk.keep hb2 bX; obtain ⟨cL2, fL2, lL2, eL2, kL2⟩ := Blk.facts bL2; obtain ⟨cT2, fT2, lT2, eT2, kT2⟩ := Blk.facts bT2; obtain ⟨cR2, fR2, lR2, eR2, kR2⟩ := Blk.facts bR2; obtain ⟨cX2, fX2, lX2, eX2, kX2⟩ := Blk.facts bX2; have hz2 := hb2.size; have hP2 : Past [w.heap.size + 2] W w2 := Past.below hb2; have hB2 := kept_call hb2 h5)
      exact ⟨(keepsOthers_past (X := [w.heap.size + 2]) (by (repeat' (first | (with_reducible exact hP2) | (with_reducible refine Past.setI ?_ ?_ _) | (with_reducible refine Past.allocI ?_ _))) <;> simp) (fun k hk => by obtain rfl := List.mem_singleton.1 hk; exact ⟨_, _, bR⟩)).from _, HIX.out _ (by rw [HV1.out]; exact (by (repeat' (first | (with_reducible exact bR2) | (with_reducible refine' Blk.alloc ?_ _) | (with_reducible refine' Blk.drew ?_) | (with_reducible refine' Blk.drewN ?_ _) | (with_reducible refine' Blk.put ?_ ?_) | (with_reducible refine' Blk.far ?_ ?_ _) | exact bR2 | exact rfl)) <;> (first | omega | (simp <;> omega)))) hil2 (by (repeat' (first | (with_reducible exact hB2) | (with_reducible refine Below.setCell ?_ ?_ _) | (with_reducible refine Below.alloc ?_ ?_ _) | (with_reducible refine Below.drew ?_) | (with_reducible refine below_drewN ?_ _))) <;> (first | omega | (simp <;> omega))) (by simp; omega)⟩
    have g1 : decide (ih ≤ tt) = false := decide_eq_false k1
    by_cases k2 : il ≤ tt
    · have g2 : decide (il ≤ tt) = true := decide_eq_true k2
      have hv1 : v = sl + qv := by rw [HVA.out, if_neg k1]
      have HV1 := Lib.hid hv1; clear hv1
      have Q := Lib.hid (HQ.out k2 (by omega))
      obtain ⟨q0, q1⟩ := HQB.out k2 (by omega)
      obtain ⟨u1, u2, u3⟩ := E.out
      have u1' : -1000000000000000000 ≤ sl ∧ sl ≤ 1000000000000000000 := by omega
      have w1 : IntKind.i64.wrap (tt - il) = tt - il := IntWalk.i64_in _ (by omega)
      have w2' : IntKind.i64.wrap (86400 + y) = 86400 + y := IntWalk.i64_in _ (by omega)
      have w3 : IntKind.i64.wrap (86400 + y - ov) = 86400 + y - ov := IntWalk.i64_in _ (by omega)
      have w4 : IntKind.i64.wrap (sl + qv) = sl + qv := IntWalk.i64_in _ (by omega)
      clear u1 u2 u3 u1'
      gi_upto_region 8 with (refine ⟨trivial, ?_⟩; gi_at_call 60; refine (CallsIn.inRound l (callsIn_wide.2 R1.out)).mono ?_; rintro e w2 ⟨rfl, hb2⟩; have bL2 := Blk.keep hb2 bL; have bT2 := Blk.keep hb2 bT; have bR2 := Blk.keep hb2 bR; have bX2 := Blk.keep hb2 bX; obtain ⟨cL2, fL2, lL2, eL2, kL2⟩ := Blk.facts bL2; obtain ⟨cT2, fT2, lT2, eT2, kT2⟩ := Blk.facts bT2; obtain ⟨cR2, fR2, lR2, eR2, kR2⟩ := Blk.facts bR2; obtain ⟨cX2, fX2, lX2, eX2, kX2⟩ := Blk.facts bX2; have hz2 := hb2.size; have hP2 : Past [w.heap.size + 2] W w2 := Past.below hb2; have hB2 := kept_call hb2 h5)

      refine' wpIn_region_calm (by kernel_rfl) (by kernel_rfl) (fun n _ w' => PB w W [w.heap.size + 2] w' ∧ Blk w' (w.heap.size) 25 #[.int .i64 first, .slice A len cap] ∧ Blk w' (w.heap.size + 1) 3 #[.int .i64 (tt)] ∧ Blk w' (Bx) 67 #[.int .i64 (xa), .int .i64 (y)] ∧ Blk w' (w2.heap.size) 42 #[.int .i64 (sl), .int .i64 (sh)] ∧ Blk w' (w2.heap.size + 1) 42 #[.int .i64 (il), .int .i64 (ih)] ∧ (n = 0 → Blk w' (w.heap.size + 2) 3 #[.int .i64 (0)]) ∧ (n = 1 → Blk w' (w.heap.size + 2) 3 #[.int .i64 (sl + qv)])) (fun _ _ => True) [(Is _), (Is _), (Is _), (Is _), (Is _), (Is _), (Is _), (Is _), (Is _), (Is _), (Is _), (Is _), (Is _), (Is _), (Is _), (fun _ _ _ => True)] [[], [0], [], [], [3], [2, 4], [], [6], [7], [], [], [9, 10], [8, 11], [5, 12], [1, 13], [14]] [15] [] rfl (by kernel_rfl) (fun u => by (simp only [calmPut, Act.put, List.setIfInBounds_toArray, List.set_cons_zero, List.set_cons_succ, Nat.zero_add, Nat.reduceAdd]; rfl)) ?_ (calmKeep_cons keep_is' (calmKeep_cons keep_is' (calmKeep_cons keep_is' (calmKeep_cons keep_is' (calmKeep_cons keep_is' (calmKeep_cons keep_is' (calmKeep_cons keep_is' (calmKeep_cons keep_is' (calmKeep_cons keep_is' (calmKeep_cons keep_is' (calmKeep_cons keep_is' (calmKeep_cons keep_is' (calmKeep_cons keep_is' (calmKeep_cons keep_is' (calmKeep_cons keep_is' (calmKeep_cons keep_triv (calmKeep_nil))))))))))))))))) ?_ ?_
      · intro _
        exact ⟨⟨(by (repeat' (first | (with_reducible exact hB2) | (with_reducible refine Below.setCell ?_ ?_ _) | (with_reducible refine Below.alloc ?_ ?_ _) | (with_reducible refine Below.drew ?_) | (with_reducible refine below_drewN ?_ _))) <;> (first | omega | (simp <;> omega))), (by (repeat' (first | (with_reducible exact hP2) | (with_reducible refine Past.drew ?_) | (with_reducible refine Past.setI ?_ ?_ _) | (with_reducible refine Past.allocI ?_ _))) <;> simp)⟩, (by (repeat' (first | (with_reducible exact bL2) | (with_reducible refine' Blk.alloc ?_ _) | (with_reducible refine' Blk.drew ?_) | exact bL2 | exact rfl)) <;> (first | omega | (simp <;> omega))), (by (repeat' (first | (with_reducible exact bT2) | (with_reducible refine' Blk.alloc ?_ _) | (with_reducible refine' Blk.drew ?_) | exact bT2 | exact rfl)) <;> (first | omega | (simp <;> omega))), (by (repeat' (first | (with_reducible exact bX2) | (with_reducible refine' Blk.alloc ?_ _) | (with_reducible refine' Blk.drew ?_) | exact bX2 | exact rfl)) <;> (first | omega | (simp <;> omega))), (by (repeat' (first | ((with_reducible refine' Blk.newE ?_); first | rfl | (simp; done)) | (with_reducible refine' Blk.alloc ?_ _) | (with_reducible refine' Blk.drew ?_) | exact rfl)) <;> (first | omega | (simp <;> omega))), (by (repeat' (first | ((with_reducible refine' Blk.newE ?_); first | rfl | (simp; done)) | (with_reducible refine' Blk.alloc ?_ _) | (with_reducible refine' Blk.drew ?_) | exact rfl)) <;> (first | omega | (simp <;> omega))), fun _ => (by (repeat' (first | (with_reducible exact bR2) | (with_reducible refine' Blk.alloc ?_ _) | (with_reducible refine' Blk.drew ?_) | exact bR2 | exact rfl)) <;> (first | omega | (simp <;> omega))), fun h => absurd h (by decide)⟩
      rotate_left 15
      · skip
        refine calmSteps_cons (fun u wq n hn hn2 hC hk K hK => ?_) ?_
        · obtain ⟨hP, mL, mT, mX, ma, mb, vR0, vR1⟩ := hC
          clear hk
          go_simp
          exact hK _ _ _ rfl ⟨hP, mL, mT, mX, ma, mb, (fun h => (vR0 h)), (fun h => (vR1 h))⟩ trivial rfl
        refine calmSteps_cons (fun u wq n hn hn2 hC hk K hK => ?_) ?_
        · obtain ⟨hP, mL, mT, mX, ma, mb, vR0, vR1⟩ := hC
          simp only [calmKnown, List.getElem?_cons_zero, List.getElem?_cons_succ, and_true, Is, Pure, Option.some.injEq, List.getD_cons_zero, List.getD_cons_succ, List.map_cons, List.map_nil] at hk
          have h0 := hk; clear hk
          simp only [h0] at hK ⊢
          have H0 := Lib.hid h0; clear h0
          have zL := mL.cell
          have zT := mT.cell
          have zX := mX.cell
          have za := ma.cell
          have zb := mb.cell
          go_simp
          exact hK _ _ _ rfl ⟨hP, mL, mT, mX, ma, mb, (fun h => (vR0 h)), (fun h => (vR1 h))⟩ trivial rfl
        refine calmSteps_cons (fun u wq n hn hn2 hC hk K hK => ?_) ?_
        · obtain ⟨hP, mL, mT, mX, ma, mb, vR0, vR1⟩ := hC
          clear hk
          have zL := mL.cell
          have zT := mT.cell
          have zX := mX.cell
          have za := ma.cell
          have zb := mb.cell
          go_simp
          exact hK _ _ _ rfl ⟨hP, mL, mT, mX, ma, mb, (fun h => (vR0 h)), (fun h => (vR1 h))⟩ trivial rfl
        refine calmSteps_cons (fun u wq n hn hn2 hC hk K hK => ?_) ?_
        · obtain ⟨hP, mL, mT, mX, ma, mb, vR0, vR1⟩ := hC
          clear hk
          go_simp
          exact hK _ _ _ rfl ⟨hP, mL, mT, mX, ma, mb, (fun h => (vR0 h)), (fun h => (vR1 h))⟩ trivial rfl
        refine calmSteps_cons (fun u wq n hn hn2 hC hk K hK => ?_) ?_
        · obtain ⟨hP, mL, mT, mX, ma, mb, vR0, vR1⟩ := hC
          simp only [calmKnown, List.getElem?_cons_zero, List.getElem?_cons_succ, and_true, Is, Pure, Option.some.injEq, List.getD_cons_zero, List.getD_cons_succ, List.map_cons, List.map_nil] at hk
          have h3 := hk; clear hk
          simp only [h3] at hK ⊢
          have H3 := Lib.hid h3; clear h3
          have zL := mL.cell
          have zT := mT.cell
          have zX := mX.cell
          have za := ma.cell
          have zb := mb.cell
          go_simp
          exact hK _ _ _ rfl ⟨hP, mL, mT, mX, ma, mb, (fun h => (vR0 h)), (fun h => (vR1 h))⟩ trivial rfl
        refine calmSteps_cons (fun u wq n hn hn2 hC hk K hK => ?_) ?_
        · obtain ⟨hP, mL, mT, mX, ma, mb, vR0, vR1⟩ := hC
          simp only [calmKnown, List.getElem?_cons_zero, List.getElem?_cons_succ, and_true, Is, Pure, Option.some.injEq, List.getD_cons_zero, List.getD_cons_succ, List.map_cons, List.map_nil] at hk
          obtain ⟨h2, h4⟩ := hk
          simp only [h2, h4] at hK ⊢
          have H2 := Lib.hid h2; clear h2; have H4 := Lib.hid h4; clear h4
          go_simp
          exact hK _ _ _ rfl ⟨hP, mL, mT, mX, ma, mb, (fun h => (vR0 h)), (fun h => (vR1 h))⟩ trivial rfl
        refine calmSteps_cons (fun u wq n hn hn2 hC hk K hK => ?_) ?_
        · obtain ⟨hP, mL, mT, mX, ma, mb, vR0, vR1⟩ := hC
          clear hk
          go_simp
          exact hK _ _ _ rfl ⟨hP, mL, mT, mX, ma, mb, (fun h => (vR0 h)), (fun h => (vR1 h))⟩ trivial rfl
        refine calmSteps_cons (fun u wq n hn hn2 hC hk K hK => ?_) ?_
        · obtain ⟨hP, mL, mT, mX, ma, mb, vR0, vR1⟩ := hC
          simp only [calmKnown, List.getElem?_cons_zero, List.getElem?_cons_succ, and_true, Is, Pure, Option.some.injEq, List.getD_cons_zero, List.getD_cons_succ, List.map_cons, List.map_nil] at hk
          have h6 := hk; clear hk
          simp only [h6] at hK ⊢
          have H6 := Lib.hid h6; clear h6
          have zL := mL.cell
          have zT := mT.cell
          have zX := mX.cell
          have za := ma.cell
          have zb := mb.cell
          go_simp
          exact hK _ _ _ rfl ⟨hP, mL, mT, mX, ma, mb, (fun h => (vR0 h)), (fun h => (vR1 h))⟩ trivial rfl
        refine calmSteps_cons (fun u wq n hn hn2 hC hk K hK => ?_) ?_
        · obtain ⟨hP, mL, mT, mX, ma, mb, vR0, vR1⟩ := hC
          simp only [calmKnown, List.getElem?_cons_zero, List.getElem?_cons_succ, and_true, Is, Pure, Option.some.injEq, List.getD_cons_zero, List.getD_cons_succ, List.map_cons, List.map_nil] at hk
          have h7 := hk; clear hk
          simp only [h7] at hK ⊢
          have H7 := Lib.hid h7; clear h7
          go_simp
          exact hK _ _ _ rfl ⟨hP, mL, mT, mX, ma, mb, (fun h => (vR0 h)), (fun h => (vR1 h))⟩ trivial rfl
        refine calmSteps_cons (fun u wq n hn hn2 hC hk K hK => ?_) ?_
        · obtain ⟨hP, mL, mT, mX, ma, mb, vR0, vR1⟩ := hC
          clear hk
          have zL := mL.cell
          have zT := mT.cell
          have zX := mX.cell
          have za := ma.cell
          have zb := mb.cell
          go_simp
          exact hK _ _ _ rfl ⟨hP, mL, mT, mX, ma, mb, (fun h => (vR0 h)), (fun h => (vR1 h))⟩ trivial rfl
        refine calmSteps_cons (fun u wq n hn hn2 hC hk K hK => ?_) ?_
        · obtain ⟨hP, mL, mT, mX, ma, mb, vR0, vR1⟩ := hC
          clear hk
          go_simp
          exact hK _ _ _ rfl ⟨hP, mL, mT, mX, ma, mb, (fun h => (vR0 h)), (fun h => (vR1 h))⟩ trivial rfl
        refine calmSteps_cons (fun u wq n hn hn2 hC hk K hK => ?_) ?_
        · obtain ⟨hP, mL, mT, mX, ma, mb, vR0, vR1⟩ := hC
          simp only [calmKnown, List.getElem?_cons_zero, List.getElem?_cons_succ, and_true, Is, Pure, Option.some.injEq, List.getD_cons_zero, List.getD_cons_succ, List.map_cons, List.map_nil] at hk
          obtain ⟨h9, h10⟩ := hk
          simp only [h9, h10] at hK ⊢
          have H9 := Lib.hid h9; clear h9; have H10 := Lib.hid h10; clear h10
          have hP1 := hP.1
          go_wp2_with fail
          first | (with_reducible refine (R2.out _ hP1).mono ?_) | (with_reducible refine (Q.out _).mono ?_)
          rintro e wz ⟨rfl, hbl⟩
          exact hK _ _ _ rfl ⟨(PB.call hbl hP), (Blk.keep hbl mL), (Blk.keep hbl mT), (Blk.keep hbl mX), (Blk.keep hbl ma), (Blk.keep hbl mb), (fun h => (Blk.keep hbl (vR0 h))), (fun h => (Blk.keep hbl (vR1 h)))⟩ trivial rfl
        refine calmSteps_cons (fun u wq n hn hn2 hC hk K hK => ?_) ?_
        · obtain ⟨hP, mL, mT, mX, ma, mb, vR0, vR1⟩ := hC
          simp only [calmKnown, List.getElem?_cons_zero, List.getElem?_cons_succ, and_true, Is, Pure, Option.some.injEq, List.getD_cons_zero, List.getD_cons_succ, List.map_cons, List.map_nil] at hk
          obtain ⟨h8, h11⟩ := hk
          simp only [h8, h11] at hK ⊢
          have H8 := Lib.hid h8; clear h8; have H11 := Lib.hid h11; clear h11
          go_simp
          exact hK _ _ _ rfl ⟨hP, mL, mT, mX, ma, mb, (fun h => (vR0 h)), (fun h => (vR1 h))⟩ trivial rfl
        refine calmSteps_cons (fun u wq n hn hn2 hC hk K hK => ?_) ?_
        · obtain ⟨hP, mL, mT, mX, ma, mb, vR0, vR1⟩ := hC
          simp only [calmKnown, List.getElem?_cons_zero, List.getElem?_cons_succ, and_true, Is, Pure, Option.some.injEq, List.getD_cons_zero, List.getD_cons_succ, List.map_cons, List.map_nil] at hk
          obtain ⟨h5, h12⟩ := hk
          simp only [h5, h12] at hK ⊢
          have H5 := Lib.hid h5; clear h5; have H12 := Lib.hid h12; clear h12
          have hP1 := hP.1
          go_wp2_with fail
          first | (with_reducible refine (R2.out _ hP1).mono ?_) | (with_reducible refine (Q.out _).mono ?_)
          rintro e wz ⟨rfl, hbl⟩
          exact hK _ _ _ rfl ⟨(PB.call hbl hP), (Blk.keep hbl mL), (Blk.keep hbl mT), (Blk.keep hbl mX), (Blk.keep hbl ma), (Blk.keep hbl mb), (fun h => (Blk.keep hbl (vR0 h))), (fun h => (Blk.keep hbl (vR1 h)))⟩ trivial rfl
        refine calmSteps_cons (fun u wq n hn hn2 hC hk K hK => ?_) ?_
        · obtain ⟨hP, mL, mT, mX, ma, mb, vR0, vR1⟩ := hC
          simp only [calmKnown, List.getElem?_cons_zero, List.getElem?_cons_succ, and_true, Is, Pure, Option.some.injEq, List.getD_cons_zero, List.getD_cons_succ, List.map_cons, List.map_nil] at hk
          obtain ⟨h1, h13⟩ := hk
          simp only [h1, h13] at hK ⊢
          have H1 := Lib.hid h1; clear h1; have H13 := Lib.hid h13; clear h13
          go_simp
          exact hK _ _ _ rfl ⟨hP, mL, mT, mX, ma, mb, (fun h => (vR0 h)), (fun h => (vR1 h))⟩ trivial rfl
        refine calmSteps_cons (fun u wq n hn hn2 hC hk K hK => ?_) ?_
        · obtain ⟨hP, mL, mT, mX, ma, mb, vR0, vR1⟩ := hC
          simp only [calmKnown, List.getElem?_cons_zero, List.getElem?_cons_succ, and_true, Is, Pure, Option.some.injEq, List.getD_cons_zero, List.getD_cons_succ, List.map_cons, List.map_nil] at hk
          have h14 := hk; clear hk
          simp only [h14] at hK ⊢
          have H14 := Lib.hid h14; clear h14
          obtain rfl := hn 0 rfl
          have hx := vR0 rfl
          have zx := hx.cell
          have fx := hx.frozen
          have lx := hx.lt
          have hx2 : Blk _ _ _ _ := hx.set_ 0 (.int .i64 (sl + qv))
          simp only [List.setIfInBounds_toArray, List.set_cons_zero, List.set_cons_succ] at hx2
          go_simp
          exact hK _ undef _ rfl ⟨(hP.setIn (by simp) (by simp) _), (mL.far (by first | omega | (simp; done) | (simp; omega)) _), (mT.far (by first | omega | (simp; done) | (simp; omega)) _), (mX.far (by first | omega | (simp; done) | (simp; omega)) _), (ma.far (by first | omega | (simp; done) | (simp; omega)) _), (mb.far (by first | omega | (simp; done) | (simp; omega)) _), (fun h => absurd h (by decide)), (fun _ => hx2)⟩ trivial trivial
        exact calmSteps_nil
      · intro u w9 hC hF
        obtain ⟨hP, mL, mT, mX, ma, mb, vR0, vR1⟩ := hC
        have hx := vR1 rfl
        have sz9 := hP.2.1
        clear hF vR0 vR1
        gi_wp2
        exact ⟨(keepsOthers_past hP.2 (fun k hk => by obtain rfl := List.mem_singleton.1 hk; exact ⟨_, _, bR⟩)).from _, HIX.out _ (by rw [HV1.out]; exact hx) k2 hP.1 (by omega)⟩
    · have g2 : decide (il ≤ tt) = false := decide_eq_false k2
      gi_wp2_with (refine ⟨trivial, ?_⟩; gi_at_call 60; refine (CallsIn.inRound l (callsIn_wide.2 R1.out)).mono ?_; rintro e w2 ⟨rfl, hb2⟩; have bL2 := Blk.keep hb2 bL; have bT2 := Blk.keep hb2 bT; have bR2 := Blk.keep hb2 bR; have bX2 := Blk.keep hb2 bX; obtain ⟨cL2, fL2, lL2, eL2, kL2⟩ := Blk.facts bL2; obtain ⟨cT2, fT2, lT2, eT2, kT2⟩ := Blk.facts bT2; obtain ⟨cR2, fR2, lR2, eR2, kR2⟩ := Blk.facts bR2; obtain ⟨cX2, fX2, lX2, eX2, kX2⟩ := Blk.facts bX2; have hz2 := hb2.size; have hP2 : Past [w.heap.size + 2] W w2 := Past.below hb2; have hB2 := kept_call hb2 h5)
      exact ⟨(keepsOthers_past (X := [w.heap.size + 2]) (by (repeat' (first | (with_reducible exact hP2) | (with_reducible refine Past.setI ?_ ?_ _) | (with_reducible refine Past.allocI ?_ _))) <;> simp) (fun k hk => by obtain rfl := List.mem_singleton.1 hk; exact ⟨_, _, bR⟩)).from _, (by (repeat' (first | (with_reducible exact (hb2.mono (show W0.heap.size ≤ W.heap.size by omega))) | (with_reducible refine Below.setCell ?_ ?_ _) | (with_reducible refine Below.alloc ?_ ?_ _) | (with_reducible refine Below.drew ?_) | (with_reducible refine below_drewN ?_ _))) <;> (first | omega | (simp <;> omega))), ⟨⟨(by (repeat' (first | (with_reducible exact bL2) | (with_reducible refine' Blk.alloc ?_ _) | (with_reducible refine' Blk.drew ?_) | (with_reducible refine' Blk.drewN ?_ _) | (with_reducible refine' Blk.put ?_ ?_) | (with_reducible refine' Blk.far ?_ ?_ _) | exact bL2 | exact rfl)) <;> (first | omega | (simp <;> omega))), (by (repeat' (first | (with_reducible exact bT2) | (with_reducible refine' Blk.alloc ?_ _) | (with_reducible refine' Blk.drew ?_) | (with_reducible refine' Blk.drewN ?_ _) | (with_reducible refine' Blk.put ?_ ?_) | (with_reducible refine' Blk.far ?_ ?_ _) | exact bT2 | exact rfl)) <;> (first | omega | (simp <;> omega))), (by (repeat' (first | (with_reducible exact bR2) | (with_reducible refine' Blk.alloc ?_ _) | (with_reducible refine' Blk.drew ?_) | (with_reducible refine' Blk.drewN ?_ _) | (with_reducible refine' Blk.put ?_ ?_) | (with_reducible refine' Blk.far ?_ ?_ _) | exact bR2 | exact rfl)) <;> (first | omega | (simp <;> omega))), HIN.out (by omega)⟩, (by (repeat' (first | (with_reducible exact hB2) | (with_reducible refine Below.setCell ?_ ?_ _) | (with_reducible refine Below.alloc ?_ ?_ _) | (with_reducible refine Below.drew ?_) | (with_reducible refine below_drewN ?_ _))) <;> (first | omega | (simp <;> omega))), by simp; omega⟩⟩
  case done =>
    rintro D ys W hD rfl ⟨⟨h1, h2, h3, h4⟩, h5, h6⟩ hK
    have hval : shL first zs tt = tt - first * 1048576 := shAt_none HV.out zs.length (Nat.le_refl _) (fun j hj => h4 ⟨j, by omega⟩ ((dwn_mem len (Nat.le_refl _)).2 (by first | omega | (simp; done) | (simp; omega))))
    have HVAL := Lib.hid hval; clear hval h4
    obtain ⟨cL, fL, lL, eL, kL⟩ := Blk.facts h1
    obtain ⟨cT, fT, lT, eT, kT⟩ := Blk.facts h2
    obtain ⟨cR, fR, lR, eR, kR⟩ := Blk.facts h3
    have wf : IntKind.i64.wrap (first * 1048576) = first * 1048576 := IntWalk.i64_in _ (by omega)
    have wt : IntKind.i64.wrap (tt - first * 1048576) = tt - first * 1048576 := IntWalk.i64_in _ (by omega)
    gi_wp2
    have hK2 : (W.setCell ⟨w.heap.size + 2, 0, none⟩ (.int .i64 (tt - first * 1048576))).heap[D]? = some (.deferred (some [])) := (Below.heap_setCell W _ _ D (by simp; omega)).trans hK
    have b2 : Blk (W.setCell ⟨w.heap.size + 2, 0, none⟩ (.int .i64 (tt - first * 1048576))) (w.heap.size + 2) 3 #[.int .i64 (tt - first * 1048576)] := h3.put rfl
    have b3 : Blk ((W.setCell ⟨w.heap.size + 2, 0, none⟩ (.int .i64 (tt - first * 1048576))).putObj D (.deferred none)) (w.heap.size + 2) 3 #[.int .i64 (tt - first * 1048576)] := ((grownBy_putObj' _ D _).block _ b2.lt (by simp; omega)).trans b2
    have c3 := b3.cell 0
    refine ⟨by simp, .inl ⟨_, _, rfl, run_takeDeferred hK2, ?_⟩⟩
    refine ⟨.int .i64 (tt - first * 1048576), ?_, by rw [HVAL.out], (h5.setCell (show w.heap.size ≤ w.heap.size + 2 by omega) _).trans (belowK_b (w := w) (Nat.le_refl _) _ D _ _ (by omega) hK2 rfl rfl)⟩
    simp [results, Try.results42, go_sem, c3]
  case stop =>
    rintro D c pre W hD ⟨k, hk, rfl⟩ ⟨⟨p0, x, rfl, hp, h4, h7, h3⟩, h5, h6⟩ hK
    obtain ⟨hx, hp0⟩ := dwn_last hk hp.symm
    have hval : shL first zs tt = vAt first zs tt x.1 := shAt_hit HV.out h7 zs.length (by omega) (Nat.le_refl _) (fun j ha hb => h4 ⟨j, by omega⟩ (by rw [hp0]; exact (dwn_mem k (by omega)).2 (by first | (simp; done) | (simp; omega))))
    have HVAL := Lib.hid hval; clear hval h4
    gi_wp2
    have b3 : Blk (W.putObj D (.deferred none)) (w.heap.size + 2) 3 #[.int .i64 (vAt first zs tt x.1)] := ((grownBy_putObj' _ D _).block _ h3.lt (by simp; omega)).trans h3
    have c3 := b3.cell 0
    refine ⟨by simp, .inl ⟨_, _, rfl, run_takeDeferred hK, ?_⟩⟩
    refine ⟨.int .i64 (vAt first zs tt x.1), ?_, congrArg (fun v => Ending.returned (.int .i64 v)) HVAL.out.symm, h5.trans (belowK_b (w := w) (Nat.le_refl _) _ D _ _ (by omega) hK rfl rfl)⟩
    simp [results, Try.results42, go_sem, c3]
end Go.Proofs.Ytmebkbnildjfhaa
