/- SimulateIgnoresWhatLiarsSay. -/
import Derived.Laws.AppendOwnNone
import Derived.Test.YtlnboheahbfgfaaGreatCalmF
import Derived.Test.YtlnboheahbfgfaaGreatJ39
import Derived.Test.YtlnboheahbfgfaaGreatJ45
import Derived.Test.YtlnboheahbfgfaaGreatJ50
namespace Go.Proofs.YtlnboheahbfgfaaGreat
open Go.RowKit Go.Shelf Go.Sort
set_option linter.unusedSimpArgs false
set_option linter.unusedVariables false

/-- A value that is known where a test has come out true, and is none where not. -/
def Gd (b : Bool) (c : Value) : List Value → Value → World → Prop := fun _ v _ => (b = true → v = c) ∧ (b = false → v = undef)
theorem keep_gd {R : World → World → Prop} {b : Bool} {c : Value} : ∀ d v w w', R w w' → Gd b c d v w → Gd b c d v w' := fun _ _ _ _ _ h => h
theorem hd_fact {s : Sch} (g : GoodS s) {m : Sim} {rs : List Rep} (hr : RunN s s.xs.length m rs) {q : Nat} (hq : q < rs.length) (ha : (rs.getD q .zero).some = true) :
    hdB (rs.getD q .zero).lo (rs.getD q .zero).hi (rs.getD q .zero).t = true := by
  have hl := (RunN.len hr).1
  obtain ⟨m0, r0, a, h1, h2, h3, h4⟩ := RunN.at hr q (by omega)
  have hx : q < s.xs.length := by omega
  have h1n : RunN s (q + 1) (s.nxt m0 (s.xs.getD q .zero) a) (r0 ++ [s.rep m0 (s.xs.getD q .zero) a]) := ⟨m0, r0, a, h1, h2, rfl, rfl⟩
  rw [h3] at ha ⊢
  have ho : (s.nxt m0 (s.xs.getD q .zero) a).own.1 = true := by
    unfold Sim.rep at ha
    rcases e : (s.nxt m0 (s.xs.getD q .zero) a).own.1
    · rw [e] at ha; simp at ha
    · rfl
  obtain ⟨t1, t2, t3⟩ := rep_true g (show q + 1 ≤ s.xs.length by omega) h1n ho
  have e1 : (s.nxt m0 (s.xs.getD q .zero) a).rep = ⟨(s.nxt m0 (s.xs.getD q .zero) a).u, (s.nxt m0 (s.xs.getD q .zero) a).t, true, (spK (s.nxt m0 (s.xs.getD q .zero) a).u (s.nxt m0 (s.xs.getD q .zero) a).own.2).1, (spK (s.nxt m0 (s.xs.getD q .zero) a).u (s.nxt m0 (s.xs.getD q .zero) a).own.2).2, (s.nxt m0 (s.xs.getD q .zero) a).ck⟩ := by unfold Sim.rep; rw [if_pos ho]
  rw [e1]
  unfold hdB; rw [t1]; simp only [Bool.true_and, Bool.and_eq_true, decide_eq_true_eq]; exact ⟨t2, t3⟩
def TrRel (w : World) (n : Nat) (G : Nat) (i : Value) (wr : World) : Prop := ∃ q : Nat, q ≤ n ∧ G = n - q ∧ i = .int .i64 q ∧ Below w.heap.size w wr
/-- The steps, of which q are changed. -/
def YsQ (w : World) (g : Nat) (xs : List Stp) (li a b : Int) (q : Nat) : Prop := ∃ cur : Array Value, Blk w g 57 cur ∧ ∀ j, j < xs.length → ∀ i, i < 11 → cur[j * 11 + i]? = (if j < q then chg li a b (xs.getD j .zero) else xs.getD j .zero).cs[i]?
theorem YsQ.below {w w' : World} {g : Nat} {xs : List Stp} {li a b : Int} {q : Nat} (h : YsQ w g xs li a b q) (hb : Below w.heap.size w w') : YsQ w' g xs li a b q := by
  obtain ⟨cur, hB, hc⟩ := h; exact ⟨cur, Blk.keep hb hB, hc⟩
theorem YsQ.skip {w : World} {g : Nat} {xs : List Stp} {li a b : Int} {q : Nat} (h : YsQ w g xs li a b q) (hq : ¬ (xs.getD q .zero).src < li) : YsQ w g xs li a b (q + 1) := by
  obtain ⟨cur, hB, hc⟩ := h
  refine ⟨cur, hB, fun j hj i hi => ?_⟩
  rw [hc j hj i hi]
  by_cases e : j = q
  · subst e; rw [if_neg (by omega), if_pos (by omega)]; unfold chg; rw [if_neg hq]
  · by_cases c : j < q
    · rw [if_pos c, if_pos (by omega)]
    · rw [if_neg c, if_neg (by omega)]
theorem ys_put {cur : Array Value} {xs : List Stp} {li a b : Int} {q : Nat} (hc : ∀ j, j < xs.length → ∀ i, i < 11 → cur[j * 11 + i]? = (if j < q then chg li a b (xs.getD j .zero) else xs.getD j .zero).cs[i]?) (hl : q < xs.length) (hq : (xs.getD q .zero).src < li) :
    ∀ j, j < xs.length → ∀ i, i < 11 → ((cur.setIfInBounds (q * 11 + 9) (.int .i64 a)).setIfInBounds (q * 11 + 10) (.int .i64 b))[j * 11 + i]? = (if j < q + 1 then chg li a b (xs.getD j .zero) else xs.getD j .zero).cs[i]? := by
  intro j hj i hi
  have hsz : ∀ i, i < 11 → q * 11 + i < cur.size := fun i hi => by
    have h9 := hc q hl i hi
    rw [if_neg (by omega), List.getElem?_eq_getElem (show i < (xs.getD q .zero).cs.length from hi)] at h9
    exact (Array.getElem?_eq_some_iff.1 h9).1
  have s9 := hsz 9 (by omega)
  have s10 := hsz 10 (by omega)
  simp only [Array.getElem?_setIfInBounds, Array.size_setIfInBounds]
  by_cases e : j = q
  · subst e
    have h9 := hc j hj i hi
    rw [if_neg (by omega)] at h9
    rw [if_pos (show j < j + 1 by omega)]
    unfold chg
    rw [if_pos hq]
    obtain rfl | rfl | hi9 : i = 9 ∨ i = 10 ∨ i < 9 := by omega
    · rw [if_neg (by omega), if_pos rfl, if_pos s9]; rfl
    · rw [if_pos rfl, if_pos s10]; rfl
    · rw [if_neg (by omega), if_neg (by omega), h9]
      obtain rfl | rfl | rfl | rfl | rfl | rfl | rfl | rfl | rfl : i = 0 ∨ i = 1 ∨ i = 2 ∨ i = 3 ∨ i = 4 ∨ i = 5 ∨ i = 6 ∨ i = 7 ∨ i = 8 := by omega
      all_goals rfl
  · rw [if_neg (by omega), if_neg (by omega), hc j hj i hi]
    by_cases c : j < q
    · rw [if_pos c, if_pos (by omega)]
    · rw [if_neg c, if_neg (by omega)]
theorem YsQ.far {w : World} {g : Nat} {xs : List Stp} {li a b : Int} {q : Nat} (h : YsQ w g xs li a b q) {p : Addr} (hp : g ≠ p.block) (v : Value) : YsQ (w.setCell p v) g xs li a b q := by
  obtain ⟨cur, hB, hc⟩ := h; exact ⟨cur, hB.far hp v, hc⟩
theorem YsQ.steps {w : World} {g : Nat} {s : Sch} {a b : Int} (h : YsQ w g s.xs s.li a b s.xs.length) (hm : s.xs.length ≤ 9223372036854775807) : StpsAt w (some ⟨g, 0, none⟩) (s.chg a b).xs.length (s.chg a b).xs := by
  have hl : (s.chg a b).xs.length = s.xs.length := by show (s.xs.map _).length = _; rw [List.length_map]
  obtain ⟨cur, hB, hc⟩ := h
  refine ⟨rfl, by rw [hl]; exact hm, fun _ => ⟨g, 0, rfl, hB.lt, fun j hj i hi => ?_⟩⟩
  rw [hl] at hj
  rw [hB.cell, Nat.zero_add, hc j hj i hi, if_pos hj, chg_get hj]
theorem within_rb {v n : Int} (w : World) (h0 : 0 < n) (h1 : n ≤ 9223372036854775807) : Calls Tryz.prog 10 #[.int .i64 v, .int .i64 n] w (RB w (.int .i64 (v % n))) := by
  refine (within_any v n w h0 h1).mono ?_
  rintro e w' ⟨rfl, rfl⟩
  exact ⟨rfl, Below.refl _ _⟩
def IgRel (w : World) (S : Sch) (g8 : Nat) (a b : Int) (n : Nat) (T7 T8 : Nat) (c7 c8 : Array Value) (G : Nat) (i : Value) (wr : World) : Prop := ∃ q : Nat, q ≤ n ∧ G = n - q ∧ i = .int .i64 q ∧ YsQ wr g8 S.xs S.li a b q ∧ Blk wr T7 54 c7 ∧ Blk wr T8 54 c8 ∧ Below w.heap.size w wr
theorem HclS {w : World} {A : Option Addr} {xs : List Stp} (h : StpsAt w A xs.length xs) (h0 : 0 < xs.length) : ∃ ad, A = some ad ∧ ∀ j u, (stpCells xs)[j]? = some u → w.cell? (ad.add j) = some u := by
  obtain ⟨b, off, e, hb, hc⟩ := h.2.2 h0
  refine ⟨⟨b, off, none⟩, e, fun j u hu => ?_⟩
  have hlt : j < xs.length * 11 := by rw [← stpCells_length]; exact (List.getElem?_eq_some_iff.1 hu).1
  have ej : j / 11 * 11 + j % 11 = j := by omega
  have h9 := hc (j / 11) (by omega) (j % 11) (by omega)
  rw [← stpCells_get xs (j / 11) (j % 11) (by omega) (by omega), ej, hu, Nat.add_assoc, ej] at h9
  have ea : (⟨b, off, none⟩ : Addr).add j = ⟨b, off + j, none⟩ := by unfold Addr.add; split <;> simp_all
  rw [ea]; exact h9
theorem stpCells_one (xs : List Stp) : ∀ u ∈ stpCells xs, u.oneCell' = true := by
  intro u hu
  obtain ⟨x, hx, hm⟩ := List.mem_flatMap.1 hu
  simp only [Stp.cs, List.mem_cons, List.not_mem_nil, or_false] at hm
  rcases hm with rfl | rfl | rfl | rfl | rfl | rfl | rfl | rfl | rfl | rfl | rfl <;> rfl
set_option maxRecDepth 100000 in
set_option maxHeartbeats 20000000 in
theorem ignores_walk (LA : Option Addr) (llen lcap : Nat) (ls : List Int) (v2 v3 : Int) (w : World) (k : IntsAt w LA llen ls) :
    Calls Tryz.prog 4 #[.slice LA llen lcap, .int .i64 v2, .int .i64 v3] w (RB w (.bool true)) := by
  have HL := Lib.hid k; clear k
  go_enter Tryz.func4, Tryz.ntmps4
  go_wp2_with fail
  refine (new_any LA llen lcap ls _ (IntsAt.below HL.out (by (repeat' (first | (with_reducible exact Below.refl _ _) | (with_reducible refine Below.setCell ?_ ?_ _) | (with_reducible refine Below.alloc ?_ ?_ _) | (with_reducible refine Below.drew ?_) | (with_reducible refine below_drewN ?_ _))) <;> (first | omega | (simp <;> omega))))).mono ?_
  rintro e w1 ⟨rfl, ht1, hb1⟩
  have Z1 := hb1.size
  have T1 := ht1.lt
  have HT := Lib.hid ht1
  have HK1 := Lib.hid (show Below w.heap.size w w1 from kept_call hb1 (by (repeat' (first | (with_reducible exact Below.refl _ _) | (with_reducible refine Below.setCell ?_ ?_ _) | (with_reducible refine Below.alloc ?_ ?_ _) | (with_reducible refine Below.drew ?_) | (with_reducible refine below_drewN ?_ _))) <;> (first | omega | (simp <;> omega))))
  clear ht1 hb1
  go_wp2_with fail
  refine (sched_any _ 12 true _ HT.out (by omega) (by omega)).mono ?_
  rintro e w2 ⟨sta, loc, p, li, ai, EA, SA, ecap, scap, es, xs, rfl, hok, hnum, hst, -, hg2⟩
  have Z2 : w1.heap.size ≤ w2.heap.size := hg2.size
  have HK := Lib.hid (show Below w.heap.size w w2 from below_grown HK1.out hg2 (by first | exact Nat.le_refl _ | omega | (simp <;> omega)) (by first | exact Nat.le_refl _ | omega | (simp <;> omega)))
  clear HK1 HT hg2
  have hxl : xs.length ≤ 12 := by have := hok.2.2.2.2.2.2.2.2.2.2.2.2.2.2.1; omega
  have hxl0 : 1 ≤ xs.length := hok.2.2.2.2.2.2.2.2.2.2.2.2.2.1
  have hel : es.length ≤ 5 := hok.2.2.2.2.2.2.2.2.2.2.2.1
  have HS := Lib.hid (show SchAt w2 ⟨sta, loc, p, li, ai, es, xs⟩ EA SA from ⟨NsAt.nums hnum (by show es.length ≤ _; omega), StpsAt.steps hst (by show xs.length ≤ _; omega)⟩)
  have HG := Lib.hid (sch_good hok (by omega))
  have HOK := Lib.hid hok
  clear hnum hst hok
  have hSAs := HclS HS.out.2 (by show 0 < xs.length; omega)
  obtain ⟨ad, rfl, hcl⟩ := hSAs
  go_upto_region 3 with fail
  obtain ⟨wA, hwA⟩ : ∃ x : World, x = (w2.alloc (.cells #[.int .i64 sta, .int .i64 loc, .int .i64 p, .int .i64 li, .int .i64 ai, .slice EA es.length ecap, .slice (some ad) xs.length scap] 54)).alloc (.cells #[.int .i64 sta, .int .i64 loc, .int .i64 p, .int .i64 li, .int .i64 ai, .slice EA es.length ecap, .slice (some ad) xs.length scap] 54) := ⟨_, rfl⟩
  have S5 : Below w2.heap.size w2 wA := by rw [hwA]; exact ((Below.refl _ _).alloc (Nat.le_refl _) _).alloc (by simp) _
  have b7 : Blk wA w2.heap.size 54 #[.int .i64 sta, .int .i64 loc, .int .i64 p, .int .i64 li, .int .i64 ai, .slice EA es.length ecap, .slice (some ad) xs.length scap] := by rw [hwA]; exact (Blk.new _ _ _).alloc _
  have b8 : Blk wA (w2.heap.size + 1) 54 #[.int .i64 sta, .int .i64 loc, .int .i64 p, .int .i64 li, .int .i64 ai, .slice EA es.length ecap, .slice (some ad) xs.length scap] := by rw [hwA]; exact Blk.new1 _ _ _ _
  have ZA : w2.heap.size + 2 ≤ wA.heap.size := by rw [hwA]; simp
  rw [← hwA]
  clear hwA
  have HCL := Lib.hid (show ∀ j u, (stpCells xs)[j]? = some u → wA.cell? (ad.add j) = some u from fun j u hu => cell_below S5 (hcl j u hu))
  clear hcl
  have HK5 := Lib.hid S5
  clear S5
  have c7 := b7.cell; have l7 := b7.lt
  obtain ⟨i0, hif, hz0, hz1, hz2⟩ := info_parts infoStep
  go_wp2_with (at_builtin; refine wpList_append_own _ rfl _ _ 52 rfl wA.heap.size 57 i0 (.agg #[.int .i64 0, .int .i64 0, .int .i64 0, .int .i64 0, .int .i64 0, .int .i64 0, .int .i64 0, .int .i64 0, .int .i64 0, .int .i64 0, .int .i64 0]) 11 88 Tryz.underlying52 hif hz0 hz1 hz2 rfl (by decide) _ 0 [] rfl (World.ownsRow_nil _ _ _ _) ad xs.length scap (stpCells xs) rfl (stpCells_length xs) HCL.out (stpCells_one xs) ?c3 ?c4 ?c5 ?_)
  case c3 => unfold maxLen; omega
  case c4 => omega
  case c5 => simp; try omega
  intro v' w6 hown hgrow _
  have K6 : Below wA.heap.size wA w6 := (Below.refl _ _).grown hgrow (by simp; try omega) (fun k hk => by simp [Value.ownBlock] at hk)
  have hrow : w6.ownsRow wA.heap.size 57 11 v' xs.length (stpCells xs) := by first | exact hown | (rw [Nat.zero_add, List.nil_append] at hown; exact hown)
  obtain ⟨g9, c9, hv9, -⟩ := World.ownsRow.form hrow (by omega)
  subst hv9
  obtain ⟨g8, cur8, e8, hg8, hB8, hc8⟩ := own_cur hrow (by omega)
  obtain rfl : g9 = g8 := by injection e8 with e8; injection e8 with e8
  clear e8 hrow hown hgrow
  have HY := Lib.hid (show YsQ w6 g9 xs li (v2 % 2000 - 1000) (v3 % 2000 - 1000) 0 from ⟨cur8, hB8, fun j hj i hi => by rw [if_neg (by omega), hc8 _ (by omega)]; exact stpCells_get xs j i hj hi⟩)
  clear hB8 hc8
  have H7 := Lib.hid (b7.below K6); have b86 := b8.below K6
  have HK6 := Lib.hid (kept_call K6 HK5.out)
  have Z6 := K6.size
  clear b7 b8 c7 l7 HK5 K6 HCL
  have c86 := b86.cell; have l86 := b86.lt; have f86 := b86.frozen
  have HB86 := Lib.hid b86; clear b86
  have wv2 : IntKind.i64.wrap (v2 % 2000 - 1000) = v2 % 2000 - 1000 := IntWalk.i64_in _ (by omega)
  have wv3 : IntKind.i64.wrap (v3 % 2000 - 1000) = v3 % 2000 - 1000 := IntWalk.i64_in _ (by omega)
  obtain ⟨a, ha⟩ : ∃ a, v2 % 2000 - 1000 = a := ⟨_, rfl⟩
  obtain ⟨b, hb⟩ : ∃ b, v3 % 2000 - 1000 = b := ⟨_, rfl⟩
  rw [ha] at HY; rw [hb] at HY
  have ha0 : -1000 ≤ a ∧ a ≤ 1000 := by omega
  have hb0 : -1000 ≤ b ∧ b ≤ 1000 := by omega
  have RW2 : Hid (∃ z, (IntKind.i64.wrap (z - 1000) = a) ∧ ∀ W, Calls Tryz.prog 10 #[.int .i64 v2, .int .i64 2000] W (RB W (.int .i64 z))) := Lib.hid ⟨v2 % 2000, wv2.trans ha, fun W => within_rb W (by omega) (by omega)⟩
  have RW3 : Hid (∃ z, (IntKind.i64.wrap (z - 1000) = b) ∧ ∀ W, Calls Tryz.prog 10 #[.int .i64 v3, .int .i64 2000] W (RB W (.int .i64 z))) := Lib.hid ⟨v3 % 2000, wv3.trans hb, fun W => within_rb W (by omega) (by omega)⟩
  clear wv2 wv3 ha hb
  obtain ⟨n, hn⟩ : ∃ n, xs.length = n := ⟨_, rfl⟩
  have HN := Lib.hid hn
  have hn12 : n ≤ 12 := by omega
  have hn1 : 1 ≤ n := by omega
  rw [hn]
  go_wp2
  clear c86 l86 f86
  go_loopg [9] n (fun G i wr => IgRel w2 (⟨sta, loc, p, li, ai, es, xs⟩ : Sch) g9 a b n w2.heap.size (w2.heap.size + 1) #[.int .i64 sta, .int .i64 loc, .int .i64 p, .int .i64 li, .int .i64 ai, .slice EA es.length ecap, .slice (some ad) n scap] #[.int .i64 sta, .int .i64 loc, .int .i64 p, .int .i64 li, .int .i64 ai, .slice EA es.length ecap, .slice (some ⟨g9, 0, none⟩) n c9] G i wr)
  case atStart =>
    refine ⟨0, by omega, by omega, rfl, (HY.out.far (by simp; omega) _), by rw [← HN.out]; exact H7.out.far (by simp) _, ?_, ?_⟩
    · have h9 := HB86.out.set_ 6 (.slice (some ⟨g9, 0, none⟩) n c9)
      simp only [List.setIfInBounds_toArray, List.set_cons_zero, List.set_cons_succ] at h9
      exact h9
    · exact HK6.out.setCell (by simp) _
  case round =>
    obtain ⟨q, hq, rfl, rfl, hy, b7, b8, KR⟩ := hrel
    have ZR := KR.size
    clear HY H7 HB86 HK6
    by_cases hlt : q < n
    · have gq : decide ((q : Int) < (n : Int)) = true := decide_eq_true (by omega)
      have gqn : decide (q < n) = true := decide_eq_true hlt
      have wq9 : IntKind.i64.wrap ((q : Int) + 1) = ((q + 1 : Nat) : Int) := by rw [IntWalk.i64_in _ (by omega)]; omega
      obtain ⟨cur, hB, hc⟩ := hy
      have hcq := hc q (by show q < xs.length; rw [HN.out]; exact hlt)
      simp only [Nat.lt_irrefl, if_false] at hcq
      have d0 := hcq 0 (by omega); have d9 := hcq 9 (by omega); have d10 := hcq 10 (by omega)
      have hx0 : (xs.getD q .zero).cs[0]? = some (.int .i64 (xs.getD q .zero).src) := rfl
      have HC0 := Lib.hid hc; clear hc hcq
      obtain ⟨src, hsrc⟩ : ∃ s, (xs.getD q .zero).src = s := ⟨_, rfl⟩
      obtain ⟨y9, hy9⟩ : ∃ y, (xs.getD q .zero).cs[9]? = some y := ⟨_, rfl⟩
      obtain ⟨y10, hy10⟩ : ∃ y, (xs.getD q .zero).cs[10]? = some y := ⟨_, rfl⟩
      have e0 : cur[q * 11]? = some (.int .i64 src) := by have h9 := d0.trans hx0; rw [hsrc] at h9; exact h9
      have e9 : cur[q * 11 + 9]? = some y9 := d9.trans hy9
      have e10 : cur[q * 11 + 10]? = some y10 := d10.trans hy10
      have HSRC := Lib.hid hsrc; clear d0 d9 d10 hx0 hy9 hy10 hsrc
      have c7 := b7.cell; have l7 := b7.lt; have c8 := b8.cell; have l8 := b8.lt; have c9' := hB.cell; have l9 := hB.lt
      go_upto_region 7 with fail
      clear c7 l7 c8 l8 c9' l9
      obtain ⟨c7, f7, l7, e7, k7⟩ := Blk.facts b7
      obtain ⟨c8, f8, l8, e8, k8⟩ := Blk.facts b8
      have bG := hB; clear hB
      obtain ⟨cG, fG, lG, eG, kG⟩ := Blk.facts bG
      refine' wp_region_calmD (by kernel_rfl) (fun D u9 w' => Past [g9] wr w' ∧ Blk w' (w2.heap.size) 54 #[.int .i64 sta, .int .i64 loc, .int .i64 p, .int .i64 li, .int .i64 ai, .slice EA es.length ecap, .slice (some ad) n scap] ∧ Blk w' (w2.heap.size + 1) 54 #[.int .i64 sta, .int .i64 loc, .int .i64 p, .int .i64 li, .int .i64 ai, .slice EA es.length ecap, .slice (some ⟨g9, 0, none⟩) n c9] ∧ Blk w' (g9) 57 cur ∧ wr.heap.size ≤ w'.heap.size) (fun _ _ => True) [(Is _), (Is _), (Is _), (Is _), (Is _), (Is _), (Is _), (Is _), (Is _)] [[], [0], [], [1, 2], [3], [4], [], [6], [5, 7]] rfl (calmB_of (by kernel_rfl)) (fun u => by (simp only [calmPut, Act.put, List.setIfInBounds_toArray, List.set_cons_zero, List.set_cons_succ, Nat.zero_add, Nat.reduceAdd]; rfl)) ?_ (calmKeep_cons keep_is' (calmKeep_cons keep_is' (calmKeep_cons keep_is' (calmKeep_cons keep_is' (calmKeep_cons keep_is' (calmKeep_cons keep_is' (calmKeep_cons keep_is' (calmKeep_cons keep_is' (calmKeep_cons keep_is' (calmKeep_nil)))))))))) ?_ ?_
      · exact ⟨(by (repeat' (first | (with_reducible exact (Past.refl _ _)) | (with_reducible exact Past.refl _ _) | (with_reducible refine Past.drew ?_) | (with_reducible refine Past.drewN ?_ _) | (with_reducible refine Past.allocs ?_ _) | (with_reducible refine' Past.setIn ?_ ?_ _; rotate_left 1; (simp; done)) | (with_reducible refine' Past.far ?_ ?_ _; rotate_left 1; (first | omega | (simp <;> omega)))))), (by (repeat' (first | (with_reducible exact b7) | (with_reducible refine' Blk.alloc ?_ _) | (with_reducible refine' Blk.drew ?_) | (with_reducible refine' Blk.drewN ?_ _) | (with_reducible refine' Blk.put ?_ ?_) | (with_reducible refine' Blk.far ?_ ?_ _) | exact b7 | exact rfl)) <;> (first | omega | (simp <;> omega))), (by (repeat' (first | (with_reducible exact b8) | (with_reducible refine' Blk.alloc ?_ _) | (with_reducible refine' Blk.drew ?_) | (with_reducible refine' Blk.drewN ?_ _) | (with_reducible refine' Blk.put ?_ ?_) | (with_reducible refine' Blk.far ?_ ?_ _) | exact b8 | exact rfl)) <;> (first | omega | (simp <;> omega))), (by (repeat' (first | (with_reducible exact bG) | (with_reducible refine' Blk.alloc ?_ _) | (with_reducible refine' Blk.drew ?_) | (with_reducible refine' Blk.drewN ?_ _) | (with_reducible refine' Blk.put ?_ ?_) | (with_reducible refine' Blk.far ?_ ?_ _) | exact bG | exact rfl)) <;> (first | omega | (simp <;> omega))), (by first | exact Nat.le_refl _ | omega | (simp <;> omega))⟩
      rotate_left 9
      · skip
        refine dSteps_cons (fun uu wq D hd hn hn2 hC hk K hK => ?_) ?_
        · obtain ⟨hP, m7, m8, mG, hZ⟩ := hC
          clear hn hn2
          clear hk
          go_simp
          exact hK _ _ _ rfl ⟨hP, m7, m8, mG, hZ⟩ trivial rfl
        refine dSteps_cons (fun uu wq D hd hn hn2 hC hk K hK => ?_) ?_
        · obtain ⟨hP, m7, m8, mG, hZ⟩ := hC
          clear hn hn2
          simp only [calmKnown, List.getElem?_cons_zero, List.getElem?_cons_succ, and_true, Is, Pure, Option.some.injEq, List.getD_cons_zero, List.getD_cons_succ, List.map_cons, List.map_nil] at hk
          have h0 := hk; clear hk
          simp only [h0] at hK ⊢
          have H0 := Lib.hid h0; clear h0
          have c7 := m7.cell; have l7 := m7.lt
          have c8 := m8.cell; have l8 := m8.lt
          have cG := mG.cell; have lG := mG.lt
          go_simp
          exact hK _ _ _ rfl ⟨hP, m7, m8, mG, hZ⟩ trivial rfl
        refine dSteps_cons (fun uu wq D hd hn hn2 hC hk K hK => ?_) ?_
        · obtain ⟨hP, m7, m8, mG, hZ⟩ := hC
          clear hn hn2
          clear hk
          go_simp
          exact hK _ _ _ rfl ⟨hP, m7, m8, mG, hZ⟩ trivial rfl
        refine dSteps_cons (fun uu wq D hd hn hn2 hC hk K hK => ?_) ?_
        · obtain ⟨hP, m7, m8, mG, hZ⟩ := hC
          clear hn hn2
          simp only [calmKnown, List.getElem?_cons_zero, List.getElem?_cons_succ, and_true, Is, Pure, Option.some.injEq, List.getD_cons_zero, List.getD_cons_succ, List.map_cons, List.map_nil] at hk
          obtain ⟨h1, h2⟩ := hk
          simp only [h1, h2] at hK ⊢
          have H1 := Lib.hid h1; clear h1; have H2 := Lib.hid h2; clear h2
          go_simp
          exact hK _ _ _ rfl ⟨hP, m7, m8, mG, hZ⟩ trivial rfl
        refine dSteps_cons (fun uu wq D hd hn hn2 hC hk K hK => ?_) ?_
        · obtain ⟨hP, m7, m8, mG, hZ⟩ := hC
          clear hn hn2
          simp only [calmKnown, List.getElem?_cons_zero, List.getElem?_cons_succ, and_true, Is, Pure, Option.some.injEq, List.getD_cons_zero, List.getD_cons_succ, List.map_cons, List.map_nil] at hk
          have h3 := hk; clear hk
          simp only [h3] at hK ⊢
          have H3 := Lib.hid h3; clear h3
          go_simp
          exact hK _ _ _ rfl ⟨hP, m7, m8, mG, hZ⟩ trivial rfl
        refine dSteps_cons (fun uu wq D hd hn hn2 hC hk K hK => ?_) ?_
        · obtain ⟨hP, m7, m8, mG, hZ⟩ := hC
          clear hn hn2
          simp only [calmKnown, List.getElem?_cons_zero, List.getElem?_cons_succ, and_true, Is, Pure, Option.some.injEq, List.getD_cons_zero, List.getD_cons_succ, List.map_cons, List.map_nil] at hk
          have h4 := hk; clear hk
          simp only [h4] at hK ⊢
          have H4 := Lib.hid h4; clear h4
          have c7 := m7.cell; have l7 := m7.lt
          have c8 := m8.cell; have l8 := m8.lt
          have cG := mG.cell; have lG := mG.lt
          go_simp
          exact hK _ _ _ rfl ⟨hP, m7, m8, mG, hZ⟩ trivial rfl
        refine dSteps_cons (fun uu wq D hd hn hn2 hC hk K hK => ?_) ?_
        · obtain ⟨hP, m7, m8, mG, hZ⟩ := hC
          clear hn hn2
          clear hk
          go_simp
          exact hK _ _ _ rfl ⟨hP, m7, m8, mG, hZ⟩ trivial rfl
        refine dSteps_cons (fun uu wq D hd hn hn2 hC hk K hK => ?_) ?_
        · obtain ⟨hP, m7, m8, mG, hZ⟩ := hC
          clear hn hn2
          simp only [calmKnown, List.getElem?_cons_zero, List.getElem?_cons_succ, and_true, Is, Pure, Option.some.injEq, List.getD_cons_zero, List.getD_cons_succ, List.map_cons, List.map_nil] at hk
          have h6 := hk; clear hk
          simp only [h6] at hK ⊢
          have H6 := Lib.hid h6; clear h6
          have c7 := m7.cell; have l7 := m7.lt
          have c8 := m8.cell; have l8 := m8.lt
          have cG := mG.cell; have lG := mG.lt
          go_simp
          exact hK _ _ _ rfl ⟨hP, m7, m8, mG, hZ⟩ trivial rfl
        refine dSteps_cons (fun uu wq D hd hn hn2 hC hk K hK => ?_) ?_
        · obtain ⟨hP, m7, m8, mG, hZ⟩ := hC
          clear hn hn2
          simp only [calmKnown, List.getElem?_cons_zero, List.getElem?_cons_succ, and_true, Is, Pure, Option.some.injEq, List.getD_cons_zero, List.getD_cons_succ, List.map_cons, List.map_nil] at hk
          obtain ⟨h5, h7⟩ := hk
          simp only [h5, h7] at hK ⊢
          have H5 := Lib.hid h5; clear h5; have H7 := Lib.hid h7; clear h7
          go_simp
          exact hK _ _ _ rfl ⟨hP, m7, m8, mG, hZ⟩ trivial rfl
        exact dSteps_nil
      · intro uu v1 D hD hC hF
        obtain ⟨hP, m7, m8, mG, hZ⟩ := hC
        simp only [calmFacts, Is, and_true, true_and] at hF
        obtain ⟨f0, f1, f2, f3, f4, f5, f6, f7, f8⟩ := hF
        simp only [f0, f1, f2, f3, f4, f5, f6, f7, f8]
        have hq := hP; clear hP
        have Kv1 : Past [g9] wr v1 := Past.trans (Past.refl _ _) hq
        have Zv1 := hZ; clear hZ
        clear hq
        clear b7 c7 f7 l7 e7 k7; have b7 := m7
        clear b8 c8 f8 l8 e8 k8; have b8 := m8
        clear bG cG fG lG eG kG; have bG := mG
        clear m7 m8 mG hD
        obtain ⟨c7, f7, l7, e7, k7⟩ := Blk.facts b7
        obtain ⟨c8, f8, l8, e8, k8⟩ := Blk.facts b8
        obtain ⟨cG, fG, lG, eG, kG⟩ := Blk.facts bG
        by_cases hsl : src < li
        · have gsl : decide (src < li) = true := decide_eq_true hsl
          go_upto_region 8 with fail
          simp only [gsl]
          obtain ⟨z2, hz2, hw2⟩ := RW2.out
          obtain ⟨z3, hz3, hw3⟩ := RW3.out
          refine' wp_region_calmD (by kernel_rfl) (fun D u9 w' => Past [g9] v1 w' ∧ Blk w' w2.heap.size 54 #[.int .i64 sta, .int .i64 loc, .int .i64 p, .int .i64 li, .int .i64 ai, .slice EA es.length ecap, .slice (some ad) n scap] ∧ Blk w' (w2.heap.size + 1) 54 #[.int .i64 sta, .int .i64 loc, .int .i64 p, .int .i64 li, .int .i64 ai, .slice EA es.length ecap, .slice (some ⟨g9, 0, none⟩) n c9] ∧ (D 14 = false → Blk w' g9 57 cur) ∧ (D 14 = true → D 17 = false → Blk w' g9 57 (cur.setIfInBounds (q * 11 + 9) (.int .i64 a))) ∧ (D 17 = true → Blk w' g9 57 ((cur.setIfInBounds (q * 11 + 9) (.int .i64 a)).setIfInBounds (q * 11 + 10) (.int .i64 b))) ∧ v1.heap.size ≤ w'.heap.size) (fun _ _ => True) [(Is _), (Is _), (Is _), (Is _), (Is _), (Is _), (Is _), (Is _), (Is _), (Is _), (Is _), (Is _), (Is _), (Is _), (fun _ _ _ => True), (Is _), (Is _), (fun _ _ _ => True)] [[], [0], [], [], [3], [], [], [6], [7], [], [9], [10], [1, 2], [12], [13, 8], [4, 5], [15], [16, 11]] rfl (calmB_of (by kernel_rfl)) (fun u => by (simp only [calmPut, Act.put, List.setIfInBounds_toArray, List.set_cons_zero, List.set_cons_succ, Nat.zero_add, Nat.reduceAdd]; rfl)) ?_ (calmKeep_cons keep_is' (calmKeep_cons keep_is' (calmKeep_cons keep_is' (calmKeep_cons keep_is' (calmKeep_cons keep_is' (calmKeep_cons keep_is' (calmKeep_cons keep_is' (calmKeep_cons keep_is' (calmKeep_cons keep_is' (calmKeep_cons keep_is' (calmKeep_cons keep_is' (calmKeep_cons keep_is' (calmKeep_cons keep_is' (calmKeep_cons keep_is' (calmKeep_cons keep_triv (calmKeep_cons keep_is' (calmKeep_cons keep_is' (calmKeep_cons keep_triv (calmKeep_nil))))))))))))))))))) ?_ ?_
          · exact ⟨(by (repeat' (first | (with_reducible exact (Past.refl _ _)) | (with_reducible exact Past.refl _ _) | (with_reducible refine Past.drew ?_) | (with_reducible refine Past.drewN ?_ _) | (with_reducible refine Past.allocs ?_ _) | (with_reducible refine' Past.setIn ?_ ?_ _; rotate_left 1; (simp; done)) | (with_reducible refine' Past.far ?_ ?_ _; rotate_left 1; (first | omega | (simp <;> omega)))))), (by (repeat' (first | (with_reducible exact b7) | (with_reducible refine' Blk.alloc ?_ _) | (with_reducible refine' Blk.drew ?_) | (with_reducible refine' Blk.drewN ?_ _) | (with_reducible refine' Blk.put ?_ ?_) | (with_reducible refine' Blk.far ?_ ?_ _) | exact b7 | exact rfl)) <;> (first | omega | (simp <;> omega))), (by (repeat' (first | (with_reducible exact b8) | (with_reducible refine' Blk.alloc ?_ _) | (with_reducible refine' Blk.drew ?_) | (with_reducible refine' Blk.drewN ?_ _) | (with_reducible refine' Blk.put ?_ ?_) | (with_reducible refine' Blk.far ?_ ?_ _) | exact b8 | exact rfl)) <;> (first | omega | (simp <;> omega))), (fun _ => (by (repeat' (first | (with_reducible exact bG) | (with_reducible refine' Blk.alloc ?_ _) | (with_reducible refine' Blk.drew ?_) | (with_reducible refine' Blk.drewN ?_ _) | (with_reducible refine' Blk.put ?_ ?_) | (with_reducible refine' Blk.far ?_ ?_ _) | exact bG | exact rfl)) <;> (first | omega | (simp <;> omega)))), (fun h => by cases h), (fun h => by cases h), (by first | exact Nat.le_refl _ | omega | (simp <;> omega))⟩
          rotate_left 16
          · skip
            refine dSteps_cons (fun uu wq D hd hn hn2 hC hk K hK => ?_) ?_
            · obtain ⟨hP, m7, m8, mA, mB, mC, hZ⟩ := hC
              clear hn hn2
              clear hk
              go_simp
              exact hK _ _ _ rfl ⟨hP, m7, m8, mA, mB, mC, hZ⟩ trivial rfl
            refine dSteps_cons (fun uu wq D hd hn hn2 hC hk K hK => ?_) ?_
            · obtain ⟨hP, m7, m8, mA, mB, mC, hZ⟩ := hC
              clear hn hn2
              simp only [calmKnown, List.getElem?_cons_zero, List.getElem?_cons_succ, and_true, Is, Pure, Option.some.injEq, List.getD_cons_zero, List.getD_cons_succ, List.map_cons, List.map_nil] at hk
              have h0 := hk; clear hk
              simp only [h0] at hK ⊢
              have H0 := Lib.hid h0; clear h0
              have c7 := m7.cell; have l7 := m7.lt; have c8 := m8.cell; have l8 := m8.lt
              go_simp
              exact hK _ _ _ rfl ⟨hP, m7, m8, mA, mB, mC, hZ⟩ trivial rfl
            refine dSteps_cons (fun uu wq D hd hn hn2 hC hk K hK => ?_) ?_
            · obtain ⟨hP, m7, m8, mA, mB, mC, hZ⟩ := hC
              clear hn hn2
              clear hk
              go_simp
              exact hK _ _ _ rfl ⟨hP, m7, m8, mA, mB, mC, hZ⟩ trivial rfl
            refine dSteps_cons (fun uu wq D hd hn hn2 hC hk K hK => ?_) ?_
            · obtain ⟨hP, m7, m8, mA, mB, mC, hZ⟩ := hC
              clear hn hn2
              clear hk
              go_simp
              exact hK _ _ _ rfl ⟨hP, m7, m8, mA, mB, mC, hZ⟩ trivial rfl
            refine dSteps_cons (fun uu wq D hd hn hn2 hC hk K hK => ?_) ?_
            · obtain ⟨hP, m7, m8, mA, mB, mC, hZ⟩ := hC
              clear hn hn2
              simp only [calmKnown, List.getElem?_cons_zero, List.getElem?_cons_succ, and_true, Is, Pure, Option.some.injEq, List.getD_cons_zero, List.getD_cons_succ, List.map_cons, List.map_nil] at hk
              have h3 := hk; clear hk
              simp only [h3] at hK ⊢
              have H3 := Lib.hid h3; clear h3
              have c7 := m7.cell; have l7 := m7.lt; have c8 := m8.cell; have l8 := m8.lt
              go_simp
              exact hK _ _ _ rfl ⟨hP, m7, m8, mA, mB, mC, hZ⟩ trivial rfl
            refine dSteps_cons (fun uu wq D hd hn hn2 hC hk K hK => ?_) ?_
            · obtain ⟨hP, m7, m8, mA, mB, mC, hZ⟩ := hC
              clear hn hn2
              clear hk
              go_simp
              exact hK _ _ _ rfl ⟨hP, m7, m8, mA, mB, mC, hZ⟩ trivial rfl
            refine dSteps_cons (fun uu wq D hd hn hn2 hC hk K hK => ?_) ?_
            · obtain ⟨hP, m7, m8, mA, mB, mC, hZ⟩ := hC
              clear hn hn2
              clear hk
              go_simp
              exact hK _ _ _ rfl ⟨hP, m7, m8, mA, mB, mC, hZ⟩ trivial rfl
            refine dSteps_cons (fun uu wq D hd hn hn2 hC hk K hK => ?_) ?_
            · obtain ⟨hP, m7, m8, mA, mB, mC, hZ⟩ := hC
              clear hn hn2
              simp only [calmKnown, List.getElem?_cons_zero, List.getElem?_cons_succ, and_true, Is, Pure, Option.some.injEq, List.getD_cons_zero, List.getD_cons_succ, List.map_cons, List.map_nil] at hk
              have h6 := hk; clear hk
              simp only [h6] at hK ⊢
              have H6 := Lib.hid h6; clear h6
              first
                | (refine' calm_op ?_ ?_; rfl; go_simp; (first | (with_reducible refine (hw2 _).mono ?_) | (with_reducible refine (hw3 _).mono ?_)); rintro e w2 ⟨rfl, hbl⟩; exact hK _ _ _ rfl ⟨hP.call hbl, Blk.keep hbl m7, Blk.keep hbl m8, (fun h => Blk.keep hbl (mA h)), (fun h h1 => Blk.keep hbl (mB h h1)), (fun h => Blk.keep hbl (mC h)), Nat.le_trans hZ hbl.size⟩ trivial rfl)
                | (go_simp; exact hK _ _ _ rfl ⟨hP, m7, m8, mA, mB, mC, hZ⟩ trivial rfl)
            refine dSteps_cons (fun uu wq D hd hn hn2 hC hk K hK => ?_) ?_
            · obtain ⟨hP, m7, m8, mA, mB, mC, hZ⟩ := hC
              clear hn hn2
              simp only [calmKnown, List.getElem?_cons_zero, List.getElem?_cons_succ, and_true, Is, Pure, Option.some.injEq, List.getD_cons_zero, List.getD_cons_succ, List.map_cons, List.map_nil] at hk
              have h7 := hk; clear hk
              simp only [h7] at hK ⊢
              have H7 := Lib.hid h7; clear h7
              go_simp
              exact hK _ _ _ rfl ⟨hP, m7, m8, mA, mB, mC, hZ⟩ trivial rfl
            refine dSteps_cons (fun uu wq D hd hn hn2 hC hk K hK => ?_) ?_
            · obtain ⟨hP, m7, m8, mA, mB, mC, hZ⟩ := hC
              clear hn hn2
              clear hk
              go_simp
              exact hK _ _ _ rfl ⟨hP, m7, m8, mA, mB, mC, hZ⟩ trivial rfl
            refine dSteps_cons (fun uu wq D hd hn hn2 hC hk K hK => ?_) ?_
            · obtain ⟨hP, m7, m8, mA, mB, mC, hZ⟩ := hC
              clear hn hn2
              simp only [calmKnown, List.getElem?_cons_zero, List.getElem?_cons_succ, and_true, Is, Pure, Option.some.injEq, List.getD_cons_zero, List.getD_cons_succ, List.map_cons, List.map_nil] at hk
              have h9 := hk; clear hk
              simp only [h9] at hK ⊢
              have H9 := Lib.hid h9; clear h9
              first
                | (refine' calm_op ?_ ?_; rfl; go_simp; (first | (with_reducible refine (hw2 _).mono ?_) | (with_reducible refine (hw3 _).mono ?_)); rintro e w2 ⟨rfl, hbl⟩; exact hK _ _ _ rfl ⟨hP.call hbl, Blk.keep hbl m7, Blk.keep hbl m8, (fun h => Blk.keep hbl (mA h)), (fun h h1 => Blk.keep hbl (mB h h1)), (fun h => Blk.keep hbl (mC h)), Nat.le_trans hZ hbl.size⟩ trivial rfl)
                | (go_simp; exact hK _ _ _ rfl ⟨hP, m7, m8, mA, mB, mC, hZ⟩ trivial rfl)
            refine dSteps_cons (fun uu wq D hd hn hn2 hC hk K hK => ?_) ?_
            · obtain ⟨hP, m7, m8, mA, mB, mC, hZ⟩ := hC
              clear hn hn2
              simp only [calmKnown, List.getElem?_cons_zero, List.getElem?_cons_succ, and_true, Is, Pure, Option.some.injEq, List.getD_cons_zero, List.getD_cons_succ, List.map_cons, List.map_nil] at hk
              have h10 := hk; clear hk
              simp only [h10] at hK ⊢
              have H10 := Lib.hid h10; clear h10
              go_simp
              exact hK _ _ _ rfl ⟨hP, m7, m8, mA, mB, mC, hZ⟩ trivial rfl
            refine dSteps_cons (fun uu wq D hd hn hn2 hC hk K hK => ?_) ?_
            · obtain ⟨hP, m7, m8, mA, mB, mC, hZ⟩ := hC
              clear hn hn2
              simp only [calmKnown, List.getElem?_cons_zero, List.getElem?_cons_succ, and_true, Is, Pure, Option.some.injEq, List.getD_cons_zero, List.getD_cons_succ, List.map_cons, List.map_nil] at hk
              obtain ⟨h1, h2⟩ := hk
              simp only [h1, h2] at hK ⊢
              have H1 := Lib.hid h1; clear h1; have H2 := Lib.hid h2; clear h2
              go_simp
              exact hK _ _ _ rfl ⟨hP, m7, m8, mA, mB, mC, hZ⟩ trivial rfl
            refine dSteps_cons (fun uu wq D hd hn hn2 hC hk K hK => ?_) ?_
            · obtain ⟨hP, m7, m8, mA, mB, mC, hZ⟩ := hC
              clear hn hn2
              simp only [calmKnown, List.getElem?_cons_zero, List.getElem?_cons_succ, and_true, Is, Pure, Option.some.injEq, List.getD_cons_zero, List.getD_cons_succ, List.map_cons, List.map_nil] at hk
              have h12 := hk; clear hk
              simp only [h12] at hK ⊢
              have H12 := Lib.hid h12; clear h12
              go_simp
              exact hK _ _ _ rfl ⟨hP, m7, m8, mA, mB, mC, hZ⟩ trivial rfl
            refine dSteps_cons (fun uu wq D hd hn hn2 hC hk K hK => ?_) ?_
            · obtain ⟨hP, m7, m8, mA, mB, mC, hZ⟩ := hC
              replace hn := Lib.hid hn; replace hn2 := Lib.hid hn2
              simp only [calmKnown, List.getElem?_cons_zero, List.getElem?_cons_succ, and_true, Is, Pure, Option.some.injEq, List.getD_cons_zero, List.getD_cons_succ, List.map_cons, List.map_nil] at hk
              obtain ⟨h13, h8⟩ := hk
              simp only [h13, h8] at hK ⊢
              have H13 := Lib.hid h13; clear h13; have H8 := Lib.hid h8; clear h8
              have d17 := hn.out 17 (by kernel_rfl)
              have hB := mA hd
              have hc9 := hB.cell; have hf9 := hB.frozen; have hl9 := hB.lt
              have hB2 := hB.set_ (q * 11 + 9) (.int .i64 a)
              go_simp
              exact hK _ undef (wq.setCell ⟨g9, q * 11 + 9, none⟩ (.int .i64 a)) rfl ⟨Past.setIn hP (by simp) _, m7.far (by simp; omega) _, m8.far (by simp; omega) _, (fun h => by cases h), (fun _ _ => hB2), (fun h => absurd (h.symm.trans d17) (by decide)), by simpa using hZ⟩ trivial trivial
            refine dSteps_cons (fun uu wq D hd hn hn2 hC hk K hK => ?_) ?_
            · obtain ⟨hP, m7, m8, mA, mB, mC, hZ⟩ := hC
              clear hn hn2
              simp only [calmKnown, List.getElem?_cons_zero, List.getElem?_cons_succ, and_true, Is, Pure, Option.some.injEq, List.getD_cons_zero, List.getD_cons_succ, List.map_cons, List.map_nil] at hk
              obtain ⟨h4, h5⟩ := hk
              simp only [h4, h5] at hK ⊢
              have H4 := Lib.hid h4; clear h4; have H5 := Lib.hid h5; clear h5
              go_simp
              exact hK _ _ _ rfl ⟨hP, m7, m8, mA, mB, mC, hZ⟩ trivial rfl
            refine dSteps_cons (fun uu wq D hd hn hn2 hC hk K hK => ?_) ?_
            · obtain ⟨hP, m7, m8, mA, mB, mC, hZ⟩ := hC
              clear hn hn2
              simp only [calmKnown, List.getElem?_cons_zero, List.getElem?_cons_succ, and_true, Is, Pure, Option.some.injEq, List.getD_cons_zero, List.getD_cons_succ, List.map_cons, List.map_nil] at hk
              have h15 := hk; clear hk
              simp only [h15] at hK ⊢
              have H15 := Lib.hid h15; clear h15
              go_simp
              exact hK _ _ _ rfl ⟨hP, m7, m8, mA, mB, mC, hZ⟩ trivial rfl
            refine dSteps_cons (fun uu wq D hd hn hn2 hC hk K hK => ?_) ?_
            · obtain ⟨hP, m7, m8, mA, mB, mC, hZ⟩ := hC
              replace hn := Lib.hid hn; replace hn2 := Lib.hid hn2
              simp only [calmKnown, List.getElem?_cons_zero, List.getElem?_cons_succ, and_true, Is, Pure, Option.some.injEq, List.getD_cons_zero, List.getD_cons_succ, List.map_cons, List.map_nil] at hk
              obtain ⟨h16, h11⟩ := hk
              simp only [h16, h11] at hK ⊢
              have H16 := Lib.hid h16; clear h16; have H11 := Lib.hid h11; clear h11
              have d14 := hn2.out 14 (by kernel_rfl)
              have hB := mB d14 hd
              have hc9 := hB.cell; have hf9 := hB.frozen; have hl9 := hB.lt
              have hB2 := hB.set_ (q * 11 + 10) (.int .i64 b)
              go_simp
              exact hK _ undef (wq.setCell ⟨g9, q * 11 + 10, none⟩ (.int .i64 b)) rfl ⟨Past.setIn hP (by simp) _, m7.far (by simp; omega) _, m8.far (by simp; omega) _, (fun h => absurd (h.symm.trans d14) (by decide)), (fun _ h => by cases h), (fun _ => hB2), by simpa using hZ⟩ trivial trivial
            exact dSteps_nil
          · intro uu wz D hD hC hF
            obtain ⟨hP, m7, m8, mA, mB, mC, hZ⟩ := hC
            simp only [calmFacts, Is, and_true, true_and] at hF
            obtain ⟨f0, f1, f2, f3, f4, f5, f6, f7, f8, f9, f10, f11, f12, f13, f15, f16⟩ := hF
            simp only [f0, f1, f2, f3, f4, f5, f6, f7, f8, f9, f10, f11, f12, f13, f15, f16]
            have hB := mC (hD 17 (by decide))
            have KZ := Past.belowX KR (Past.trans Kv1 hP) (by simp; omega)
            have HKZ := Lib.hid KZ; clear KZ hD mA mB mC hP
            go_wp2
            go_roundg (n - (q + 1))
            case measure => omega
            case rel => exact ⟨q + 1, by omega, by omega, by go_num, ⟨_, hB, ys_put HC0.out (by show q < xs.length; rw [HN.out]; exact hlt) (by show (xs.getD q .zero).src < li; rw [HSRC.out]; exact hsl)⟩, m7, m8, HKZ.out⟩
        · have gsl : decide (src < li) = false := decide_eq_false hsl
          go_wp2
          go_roundg (n - (q + 1))
          case measure => omega
          case rel => exact ⟨q + 1, by omega, by omega, by go_num, YsQ.skip ⟨cur, bG, HC0.out⟩ (by show ¬ (xs.getD q .zero).src < li; rw [HSRC.out]; omega), b7, b8, Past.belowX KR Kv1 (by simp; omega)⟩
    · obtain rfl : q = n := by omega
      have gq : decide ((q : Int) < (q : Int)) = false := decide_eq_false (by omega)
      have gqn : decide (q < q) = false := decide_eq_false (by omega)
      have hxq : xs.length = q := HN.out
      have hst : StpsAt wr (some ⟨g9, 0, none⟩) ((⟨sta, loc, p, li, ai, es, xs⟩ : Sch).chg a b).xs.length ((⟨sta, loc, p, li, ai, es, xs⟩ : Sch).chg a b).xs := YsQ.steps (by show YsQ wr g9 xs li a b xs.length; rw [hxq]; exact hy) (by show xs.length ≤ _; omega)
      have hl8 : ((⟨sta, loc, p, li, ai, es, xs⟩ : Sch).chg a b).xs.length = q := by show (xs.map _).length = _; rw [List.length_map]; exact hxq
      have hg2 : GoodS ((⟨sta, loc, p, li, ai, es, xs⟩ : Sch).chg a b) := good_chg HG.out (by omega) (by omega) (by omega) (by omega)
      have HST := Lib.hid hst; have HG2 := Lib.hid hg2; have HL8 := Lib.hid hl8; clear hst hg2 hy
      have R7 := Lib.hid (fun W h => irun_any (⟨sta, loc, p, li, ai, es, xs⟩ : Sch) EA (some ad) ecap scap W h)
      have R8 := Lib.hid (fun W h => irun_any ((⟨sta, loc, p, li, ai, es, xs⟩ : Sch).chg a b) EA (some ⟨g9, 0, none⟩) ecap c9 W h)
      rw [hl8] at R8
      dsimp only [Sch.chg] at R7
      rw [hxq] at R7
      have ZR2 := KR.size
      have c7 := b7.cell; have l7 := b7.lt; have c8 := b8.cell; have l8 := b8.lt
      go_wp2_with fail
      refine (R7.out _ (HS.out.below (kept_call (show Below wr.heap.size wr _ from (by (repeat' (first | (with_reducible exact Below.refl _ _) | (with_reducible refine Below.setCell ?_ ?_ _) | (with_reducible refine Below.alloc ?_ ?_ _) | (with_reducible refine Below.drew ?_) | (with_reducible refine below_drewN ?_ _))) <;> (first | omega | (simp <;> omega)))) KR))).mono ?_
      rintro e w3 ⟨-, h2, hb3⟩
      obtain ⟨m7, r7, A7, cp7, hr7, rfl, hw7⟩ := h2 HG.out.1
      have S3 : Below wr.heap.size wr w3 := kept_call hb3 (by (repeat' (first | (with_reducible exact Below.refl _ _) | (with_reducible refine Below.setCell ?_ ?_ _) | (with_reducible refine Below.alloc ?_ ?_ _) | (with_reducible refine Below.drew ?_) | (with_reducible refine below_drewN ?_ _))) <;> (first | omega | (simp <;> omega)))
      have Z3 := S3.size
      have b8' := b8.below S3; have b7' := b7.below S3
      clear c7 l7 c8 l8 b7 b8
      have b7 := b7'; have b8 := b8'; clear b7' b8'
      have c8 := b8.cell; have l8 := b8.lt
      have HS3 := Lib.hid S3
      clear h2 hb3 S3 R7
      have hn7 : r7.length = q := (RunN.len hr7).1.trans hxq
      have HR7 := Lib.hid hr7; have HW7 := Lib.hid hw7; clear hr7 hw7
      have HN7 := Lib.hid hn7
      rw [hn7]
      clear hn7
      go_wp2_with fail
      refine (R8.out _ ⟨(HS.out.below (kept_call (show Below wr.heap.size wr _ from (by (repeat' (first | (with_reducible exact HS3.out) | (with_reducible refine Below.setCell ?_ ?_ _) | (with_reducible refine Below.alloc ?_ ?_ _) | (with_reducible refine Below.drew ?_) | (with_reducible refine below_drewN ?_ _))) <;> (first | omega | (simp <;> omega)))) KR)).1, HST.out.below (by (repeat' (first | (with_reducible exact HS3.out) | (with_reducible refine Below.setCell ?_ ?_ _) | (with_reducible refine Below.alloc ?_ ?_ _) | (with_reducible refine Below.drew ?_) | (with_reducible refine below_drewN ?_ _))) <;> (first | omega | (simp <;> omega)))⟩).mono ?_
      rintro e w5 ⟨-, h2, hb5⟩
      obtain ⟨m8, r8, A8, cp8, hr8, rfl, hw8⟩ := h2 HG2.out.1
      have S5 : Below w3.heap.size w3 w5 := kept_call hb5 (by (repeat' (first | (with_reducible exact Below.refl _ _) | (with_reducible refine Below.setCell ?_ ?_ _) | (with_reducible refine Below.alloc ?_ ?_ _) | (with_reducible refine Below.drew ?_) | (with_reducible refine below_drewN ?_ _))) <;> (first | omega | (simp <;> omega)))
      have Z5 := S5.size
      have hn8 : r8.length = q := (RunN.len hr8).1.trans HL8.out
      have HR8 := Lib.hid hr8; have HW8 := Lib.hid hw8; have HW7' := Lib.hid (HW7.out.below S5); clear HW7 hr8 hw8
      have HN8 := Lib.hid hn8
      rw [hn8]
      clear hn8
      have HK5 := Lib.hid (kept_call S5 (kept_call HS3.out (kept_call KR HK.out)))
      clear h2 hb5 S5 R8 HS3 HST HS b7 b8 c8 l8 KR HL8
      go_wp2
      go_loopg [14] q (fun G i wr => TrRel w5 q G i wr)
      case atStart => exact ⟨0, by omega, by omega, rfl, Below.refl _ _⟩
      case round =>
        obtain ⟨z, hz, rfl, rfl, KR⟩ := hrel
        have ZR := KR.size
        by_cases hlt2 : z < q
        · have gz : decide ((z : Int) < (q : Int)) = true := decide_eq_true (by omega)
          have gzn : decide (z < q) = true := decide_eq_true hlt2
          have wz1 : IntKind.i64.wrap ((z : Int) + 1) = ((z + 1 : Nat) : Int) := by rw [IntWalk.i64_in _ (by omega)]; omega
          obtain ⟨ga, rfl, hga, lga, hca⟩ := (HW7'.out.below KR).cells (q := z) (by rw [HN7.out]; exact hlt2)
          obtain ⟨gb, rfl, hgb, lgb, hcb⟩ := (HW8.out.below KR).cells (q := z) (by rw [HN8.out]; exact hlt2)
          have hsm := (same_time (Nat.le_refl _) HR7.out (show RunN ((⟨sta, loc, p, li, ai, es, xs⟩ : Sch).chg a b) xs.length m8 r8 by have h9 := HR8.out; rw [show ((⟨sta, loc, p, li, ai, es, xs⟩ : Sch).chg a b).xs.length = xs.length by show (xs.map _).length = _; rw [List.length_map]] at h9; exact h9)).2.2 z (by show z < xs.length; omega)
          have hfa := hd_fact HG2.out HR8.out (q := z) (by rw [HN8.out]; exact hlt2)
          obtain ⟨ra, hra⟩ : ∃ r, r7.getD z .zero = r := ⟨_, rfl⟩
          obtain ⟨rb, hrb⟩ : ∃ r, r8.getD z .zero = r := ⟨_, rfl⟩
          rw [hra] at hsm hca
          rw [hrb] at hsm hcb hfa
          clear hra hrb
          have da0 := hca 0 (by omega); have da1 := hca 1 (by omega)
          have db0 := hcb 0 (by omega); have db1 := hcb 1 (by omega); have db2 := hcb 2 (by omega); have db3 := hcb 3 (by omega); have db4 := hcb 4 (by omega)
          obtain ⟨a0, a1, a2, a3, a4, ack⟩ := ra
          obtain ⟨b0, b1, bs, b3, b4, bck⟩ := rb
          simp only [Rep.cs, Clk.cs, List.cons_append, List.nil_append, List.getElem?_cons_zero, List.getElem?_cons_succ, Nat.add_zero] at da0 da1 db0 db1 db2 db3 db4
          dsimp only at hsm hfa
          obtain ⟨rfl, rfl⟩ := hsm
          have RH := Lib.hid (fun (hb : bs = true) W => (hfa hb) ▸ rholds_all b3 b4 a1 W)
          clear hca hcb hfa
          have XB := Lib.hid (And.intro da0 (And.intro da1 (And.intro db0 (And.intro db1 (And.intro db2 (And.intro db3 db4))))))
          clear da0 da1 db0 db1 db2 db3 db4
          go_upto_region 16 with fail
          refine' wp_region_calm (by kernel_rfl) (fun _ _ w' => Below wr.heap.size wr w' ∧ True) (fun _ _ => True) ((Is _) :: (Is _) :: (Is _) :: (Is _) :: (Is _) :: (Is _) :: (Is _) :: (Is _) :: (Is _) :: (Is _) :: (Is _) :: (Is _) :: (Is _) :: (Is _) :: (Is _) :: (Is _) :: (Is _) :: (Is _) :: (Is _) :: (Is _) :: (Is _) :: (Is _) :: (Is _) :: (Is _) :: (Is _) :: (Is _) :: (Is _) :: (Is _) :: (Is _) :: (Is _) :: (Is _) :: (Gd bs _) :: (Gd bs _) :: (Gd bs _) :: (Gd bs _) :: (Gd bs _) :: (Gd bs _) :: (Gd bs _) :: (Gd bs _) :: (Gd bs _) :: (Gd bs _) :: (Gd bs _) :: (Gd bs _) :: (Is _) :: (Is _) :: []) ([] :: [] :: [0, 1] :: [2] :: [3] :: [] :: [] :: [5, 6] :: [7] :: [8] :: [4, 9] :: [10] :: [11] :: [11] :: [12, 13, 11] :: [14, 11] :: [15, 11] :: [11] :: [11] :: [17, 18, 11] :: [19, 11] :: [20, 11] :: [16, 21, 11] :: [11, 22] :: [23] :: [24] :: [24] :: [25, 26, 24] :: [27, 24] :: [28, 24] :: [29, 24] :: [30] :: [30] :: [31, 32, 30] :: [33, 30] :: [34, 30] :: [30] :: [30] :: [36, 37, 30] :: [38, 30] :: [39, 30] :: [35, 40, 30] :: [41, 30] :: [30, 42, 24] :: [24, 43] :: []) [] [] rfl (calmB_of (by kernel_rfl)) (fun u => by (simp only [calmPut, Act.put, List.setIfInBounds_toArray, List.set_cons_zero, List.set_cons_succ, Nat.zero_add, Nat.reduceAdd]; rfl)) ?_ (calmKeep_cons keep_is' (calmKeep_cons keep_is' (calmKeep_cons keep_is' (calmKeep_cons keep_is' (calmKeep_cons keep_is' (calmKeep_cons keep_is' (calmKeep_cons keep_is' (calmKeep_cons keep_is' (calmKeep_cons keep_is' (calmKeep_cons keep_is' (calmKeep_cons keep_is' (calmKeep_cons keep_is' (calmKeep_cons keep_is' (calmKeep_cons keep_is' (calmKeep_cons keep_is' (calmKeep_cons keep_is' (calmKeep_cons keep_is' (calmKeep_cons keep_is' (calmKeep_cons keep_is' (calmKeep_cons keep_is' (calmKeep_cons keep_is' (calmKeep_cons keep_is' (calmKeep_cons keep_is' (calmKeep_cons keep_is' (calmKeep_cons keep_is' (calmKeep_cons keep_is' (calmKeep_cons keep_is' (calmKeep_cons keep_is' (calmKeep_cons keep_is' (calmKeep_cons keep_is' (calmKeep_cons keep_is' (calmKeep_cons keep_gd (calmKeep_cons keep_gd (calmKeep_cons keep_gd (calmKeep_cons keep_gd (calmKeep_cons keep_gd (calmKeep_cons keep_gd (calmKeep_cons keep_gd (calmKeep_cons keep_gd (calmKeep_cons keep_gd (calmKeep_cons keep_gd (calmKeep_cons keep_gd (calmKeep_cons keep_gd (calmKeep_cons keep_is' (calmKeep_cons keep_is' (calmKeep_nil)))))))))))))))))))))))))))))))))))))))))))))) ?_ ?_
          · intro _
            exact ⟨(Below.refl _ _).drew, trivial⟩
          rotate_left 45
          · skip
            refine calmSteps_cons (fun u wq n9 hn hn2 hC hk K hK => ?_) ?_
            · obtain ⟨hP, hTr⟩ := hC
              clear hn hn2
              clear hk
              go_simp
              exact hK _ _ _ rfl ⟨hP, hTr⟩ trivial rfl
            refine calmSteps_cons (fun u wq n9 hn hn2 hC hk K hK => ?_) ?_
            · obtain ⟨hP, hTr⟩ := hC
              clear hn hn2
              clear hk
              go_simp
              exact hK _ _ _ rfl ⟨hP, hTr⟩ trivial rfl
            refine calmSteps_cons (fun u wq n9 hn hn2 hC hk K hK => ?_) ?_
            · obtain ⟨hP, hTr⟩ := hC
              clear hn hn2
              simp only [calmKnown, List.getElem?_cons_zero, List.getElem?_cons_succ, and_true, Is, Gd, Pure, Option.some.injEq, List.getD_cons_zero, List.getD_cons_succ, List.map_cons, List.map_nil] at hk
              obtain ⟨h0, h1⟩ := hk
              simp only [h0, h1] at hK ⊢
              have H0 := Lib.hid h0; clear h0; have H1 := Lib.hid h1; clear h1
              go_simp
              exact hK _ _ _ rfl ⟨hP, hTr⟩ trivial rfl
            refine calmSteps_cons (fun u wq n9 hn hn2 hC hk K hK => ?_) ?_
            · obtain ⟨hP, hTr⟩ := hC
              clear hn hn2
              simp only [calmKnown, List.getElem?_cons_zero, List.getElem?_cons_succ, and_true, Is, Gd, Pure, Option.some.injEq, List.getD_cons_zero, List.getD_cons_succ, List.map_cons, List.map_nil] at hk
              have h2 := hk; clear hk
              simp only [h2] at hK ⊢
              have H2 := Lib.hid h2; clear h2
              go_simp
              exact hK _ _ _ rfl ⟨hP, hTr⟩ trivial rfl
            refine calmSteps_cons (fun u wq n9 hn hn2 hC hk K hK => ?_) ?_
            · obtain ⟨hP, hTr⟩ := hC
              clear hn hn2
              simp only [calmKnown, List.getElem?_cons_zero, List.getElem?_cons_succ, and_true, Is, Gd, Pure, Option.some.injEq, List.getD_cons_zero, List.getD_cons_succ, List.map_cons, List.map_nil] at hk
              have h3 := hk; clear hk
              simp only [h3] at hK ⊢
              have H3 := Lib.hid h3; clear h3
              obtain ⟨x0, x1, y0, y1, y2, y3, y4⟩ := XB.out
              have lg8 : ga < wq.heap.size := Nat.lt_of_lt_of_le lga hP.size; have lh8 : gb < wq.heap.size := Nat.lt_of_lt_of_le lgb hP.size
              have x0 := (hP.cell (p := ⟨ga, z * 11, none⟩) lga).trans x0
              have x1 := (hP.cell (p := ⟨ga, z * 11 + 1, none⟩) lga).trans x1
              have y0 := (hP.cell (p := ⟨gb, z * 11, none⟩) lgb).trans y0
              have y1 := (hP.cell (p := ⟨gb, z * 11 + 1, none⟩) lgb).trans y1
              have y2 := (hP.cell (p := ⟨gb, z * 11 + 2, none⟩) lgb).trans y2
              have y3 := (hP.cell (p := ⟨gb, z * 11 + 3, none⟩) lgb).trans y3
              have y4 := (hP.cell (p := ⟨gb, z * 11 + 4, none⟩) lgb).trans y4
              go_simp
              exact hK _ _ _ rfl ⟨hP, hTr⟩ trivial rfl
            refine calmSteps_cons (fun u wq n9 hn hn2 hC hk K hK => ?_) ?_
            · obtain ⟨hP, hTr⟩ := hC
              clear hn hn2
              clear hk
              go_simp
              exact hK _ _ _ rfl ⟨hP, hTr⟩ trivial rfl
            refine calmSteps_cons (fun u wq n9 hn hn2 hC hk K hK => ?_) ?_
            · obtain ⟨hP, hTr⟩ := hC
              clear hn hn2
              clear hk
              go_simp
              exact hK _ _ _ rfl ⟨hP, hTr⟩ trivial rfl
            refine calmSteps_cons (fun u wq n9 hn hn2 hC hk K hK => ?_) ?_
            · obtain ⟨hP, hTr⟩ := hC
              clear hn hn2
              simp only [calmKnown, List.getElem?_cons_zero, List.getElem?_cons_succ, and_true, Is, Gd, Pure, Option.some.injEq, List.getD_cons_zero, List.getD_cons_succ, List.map_cons, List.map_nil] at hk
              obtain ⟨h5, h6⟩ := hk
              simp only [h5, h6] at hK ⊢
              have H5 := Lib.hid h5; clear h5; have H6 := Lib.hid h6; clear h6
              go_simp
              exact hK _ _ _ rfl ⟨hP, hTr⟩ trivial rfl
            refine calmSteps_cons (fun u wq n9 hn hn2 hC hk K hK => ?_) ?_
            · obtain ⟨hP, hTr⟩ := hC
              clear hn hn2
              simp only [calmKnown, List.getElem?_cons_zero, List.getElem?_cons_succ, and_true, Is, Gd, Pure, Option.some.injEq, List.getD_cons_zero, List.getD_cons_succ, List.map_cons, List.map_nil] at hk
              have h7 := hk; clear hk
              simp only [h7] at hK ⊢
              have H7 := Lib.hid h7; clear h7
              go_simp
              exact hK _ _ _ rfl ⟨hP, hTr⟩ trivial rfl
            refine calmSteps_cons (fun u wq n9 hn hn2 hC hk K hK => ?_) ?_
            · obtain ⟨hP, hTr⟩ := hC
              clear hn hn2
              simp only [calmKnown, List.getElem?_cons_zero, List.getElem?_cons_succ, and_true, Is, Gd, Pure, Option.some.injEq, List.getD_cons_zero, List.getD_cons_succ, List.map_cons, List.map_nil] at hk
              have h8 := hk; clear hk
              simp only [h8] at hK ⊢
              have H8 := Lib.hid h8; clear h8
              obtain ⟨x0, x1, y0, y1, y2, y3, y4⟩ := XB.out
              have lg8 : ga < wq.heap.size := Nat.lt_of_lt_of_le lga hP.size; have lh8 : gb < wq.heap.size := Nat.lt_of_lt_of_le lgb hP.size
              have x0 := (hP.cell (p := ⟨ga, z * 11, none⟩) lga).trans x0
              have x1 := (hP.cell (p := ⟨ga, z * 11 + 1, none⟩) lga).trans x1
              have y0 := (hP.cell (p := ⟨gb, z * 11, none⟩) lgb).trans y0
              have y1 := (hP.cell (p := ⟨gb, z * 11 + 1, none⟩) lgb).trans y1
              have y2 := (hP.cell (p := ⟨gb, z * 11 + 2, none⟩) lgb).trans y2
              have y3 := (hP.cell (p := ⟨gb, z * 11 + 3, none⟩) lgb).trans y3
              have y4 := (hP.cell (p := ⟨gb, z * 11 + 4, none⟩) lgb).trans y4
              go_simp
              exact hK _ _ _ rfl ⟨hP, hTr⟩ trivial rfl
            refine calmSteps_cons (fun u wq n9 hn hn2 hC hk K hK => ?_) ?_
            · obtain ⟨hP, hTr⟩ := hC
              clear hn hn2
              simp only [calmKnown, List.getElem?_cons_zero, List.getElem?_cons_succ, and_true, Is, Gd, Pure, Option.some.injEq, List.getD_cons_zero, List.getD_cons_succ, List.map_cons, List.map_nil] at hk
              obtain ⟨h4, h9⟩ := hk
              simp only [h4, h9] at hK ⊢
              have H4 := Lib.hid h4; clear h4; have H9 := Lib.hid h9; clear h9
              go_simp
              exact hK _ _ _ rfl ⟨hP, hTr⟩ trivial rfl
            refine calmSteps_cons (fun u wq n9 hn hn2 hC hk K hK => ?_) ?_
            · obtain ⟨hP, hTr⟩ := hC
              clear hn hn2
              simp only [calmKnown, List.getElem?_cons_zero, List.getElem?_cons_succ, and_true, Is, Gd, Pure, Option.some.injEq, List.getD_cons_zero, List.getD_cons_succ, List.map_cons, List.map_nil] at hk
              have h10 := hk; clear hk
              simp only [h10] at hK ⊢
              have H10 := Lib.hid h10; clear h10
              go_simp
              exact hK _ _ _ rfl ⟨hP, hTr⟩ trivial rfl
            refine calmSteps_cons (fun u wq n9 hn hn2 hC hk K hK => ?_) ?_
            · obtain ⟨hP, hTr⟩ := hC
              clear hn hn2
              simp only [calmKnown, List.getElem?_cons_zero, List.getElem?_cons_succ, and_true, Is, Gd, Pure, Option.some.injEq, List.getD_cons_zero, List.getD_cons_succ, List.map_cons, List.map_nil] at hk
              have h11 := hk; clear hk
              simp only [h11] at hK ⊢
              have H11 := Lib.hid h11; clear h11
              go_simp
              exact hK _ _ _ rfl ⟨hP, hTr⟩ trivial rfl
            refine calmSteps_cons (fun u wq n9 hn hn2 hC hk K hK => ?_) ?_
            · obtain ⟨hP, hTr⟩ := hC
              clear hn hn2
              simp only [calmKnown, List.getElem?_cons_zero, List.getElem?_cons_succ, and_true, Is, Gd, Pure, Option.some.injEq, List.getD_cons_zero, List.getD_cons_succ, List.map_cons, List.map_nil] at hk
              have h11 := hk; clear hk
              simp only [h11] at hK ⊢
              have H11 := Lib.hid h11; clear h11
              go_simp
              exact hK _ _ _ rfl ⟨hP, hTr⟩ trivial rfl
            refine calmSteps_cons (fun u wq n9 hn hn2 hC hk K hK => ?_) ?_
            · obtain ⟨hP, hTr⟩ := hC
              clear hn hn2
              simp only [calmKnown, List.getElem?_cons_zero, List.getElem?_cons_succ, and_true, Is, Gd, Pure, Option.some.injEq, List.getD_cons_zero, List.getD_cons_succ, List.map_cons, List.map_nil] at hk
              obtain ⟨h12, h13, h11⟩ := hk
              simp only [h12, h13, h11] at hK ⊢
              have H12 := Lib.hid h12; clear h12; have H13 := Lib.hid h13; clear h13; have H11 := Lib.hid h11; clear h11
              go_simp
              exact hK _ _ _ rfl ⟨hP, hTr⟩ trivial rfl
            refine calmSteps_cons (fun u wq n9 hn hn2 hC hk K hK => ?_) ?_
            · obtain ⟨hP, hTr⟩ := hC
              clear hn hn2
              simp only [calmKnown, List.getElem?_cons_zero, List.getElem?_cons_succ, and_true, Is, Gd, Pure, Option.some.injEq, List.getD_cons_zero, List.getD_cons_succ, List.map_cons, List.map_nil] at hk
              obtain ⟨h14, h11⟩ := hk
              simp only [h14, h11] at hK ⊢
              have H14 := Lib.hid h14; clear h14; have H11 := Lib.hid h11; clear h11
              go_simp
              exact hK _ _ _ rfl ⟨hP, hTr⟩ trivial rfl
            refine calmSteps_cons (fun u wq n9 hn hn2 hC hk K hK => ?_) ?_
            · obtain ⟨hP, hTr⟩ := hC
              clear hn hn2
              simp only [calmKnown, List.getElem?_cons_zero, List.getElem?_cons_succ, and_true, Is, Gd, Pure, Option.some.injEq, List.getD_cons_zero, List.getD_cons_succ, List.map_cons, List.map_nil] at hk
              obtain ⟨h15, h11⟩ := hk
              simp only [h15, h11] at hK ⊢
              have H15 := Lib.hid h15; clear h15; have H11 := Lib.hid h11; clear h11
              obtain ⟨x0, x1, y0, y1, y2, y3, y4⟩ := XB.out
              have lg8 : ga < wq.heap.size := Nat.lt_of_lt_of_le lga hP.size; have lh8 : gb < wq.heap.size := Nat.lt_of_lt_of_le lgb hP.size
              have x0 := (hP.cell (p := ⟨ga, z * 11, none⟩) lga).trans x0
              have x1 := (hP.cell (p := ⟨ga, z * 11 + 1, none⟩) lga).trans x1
              have y0 := (hP.cell (p := ⟨gb, z * 11, none⟩) lgb).trans y0
              have y1 := (hP.cell (p := ⟨gb, z * 11 + 1, none⟩) lgb).trans y1
              have y2 := (hP.cell (p := ⟨gb, z * 11 + 2, none⟩) lgb).trans y2
              have y3 := (hP.cell (p := ⟨gb, z * 11 + 3, none⟩) lgb).trans y3
              have y4 := (hP.cell (p := ⟨gb, z * 11 + 4, none⟩) lgb).trans y4
              go_simp
              exact hK _ _ _ rfl ⟨hP, hTr⟩ trivial rfl
            refine calmSteps_cons (fun u wq n9 hn hn2 hC hk K hK => ?_) ?_
            · obtain ⟨hP, hTr⟩ := hC
              clear hn hn2
              simp only [calmKnown, List.getElem?_cons_zero, List.getElem?_cons_succ, and_true, Is, Gd, Pure, Option.some.injEq, List.getD_cons_zero, List.getD_cons_succ, List.map_cons, List.map_nil] at hk
              have h11 := hk; clear hk
              simp only [h11] at hK ⊢
              have H11 := Lib.hid h11; clear h11
              go_simp
              exact hK _ _ _ rfl ⟨hP, hTr⟩ trivial rfl
            refine calmSteps_cons (fun u wq n9 hn hn2 hC hk K hK => ?_) ?_
            · obtain ⟨hP, hTr⟩ := hC
              clear hn hn2
              simp only [calmKnown, List.getElem?_cons_zero, List.getElem?_cons_succ, and_true, Is, Gd, Pure, Option.some.injEq, List.getD_cons_zero, List.getD_cons_succ, List.map_cons, List.map_nil] at hk
              have h11 := hk; clear hk
              simp only [h11] at hK ⊢
              have H11 := Lib.hid h11; clear h11
              go_simp
              exact hK _ _ _ rfl ⟨hP, hTr⟩ trivial rfl
            refine calmSteps_cons (fun u wq n9 hn hn2 hC hk K hK => ?_) ?_
            · obtain ⟨hP, hTr⟩ := hC
              clear hn hn2
              simp only [calmKnown, List.getElem?_cons_zero, List.getElem?_cons_succ, and_true, Is, Gd, Pure, Option.some.injEq, List.getD_cons_zero, List.getD_cons_succ, List.map_cons, List.map_nil] at hk
              obtain ⟨h17, h18, h11⟩ := hk
              simp only [h17, h18, h11] at hK ⊢
              have H17 := Lib.hid h17; clear h17; have H18 := Lib.hid h18; clear h18; have H11 := Lib.hid h11; clear h11
              go_simp
              exact hK _ _ _ rfl ⟨hP, hTr⟩ trivial rfl
            refine calmSteps_cons (fun u wq n9 hn hn2 hC hk K hK => ?_) ?_
            · obtain ⟨hP, hTr⟩ := hC
              clear hn hn2
              simp only [calmKnown, List.getElem?_cons_zero, List.getElem?_cons_succ, and_true, Is, Gd, Pure, Option.some.injEq, List.getD_cons_zero, List.getD_cons_succ, List.map_cons, List.map_nil] at hk
              obtain ⟨h19, h11⟩ := hk
              simp only [h19, h11] at hK ⊢
              have H19 := Lib.hid h19; clear h19; have H11 := Lib.hid h11; clear h11
              go_simp
              exact hK _ _ _ rfl ⟨hP, hTr⟩ trivial rfl
            refine calmSteps_cons (fun u wq n9 hn hn2 hC hk K hK => ?_) ?_
            · obtain ⟨hP, hTr⟩ := hC
              clear hn hn2
              simp only [calmKnown, List.getElem?_cons_zero, List.getElem?_cons_succ, and_true, Is, Gd, Pure, Option.some.injEq, List.getD_cons_zero, List.getD_cons_succ, List.map_cons, List.map_nil] at hk
              obtain ⟨h20, h11⟩ := hk
              simp only [h20, h11] at hK ⊢
              have H20 := Lib.hid h20; clear h20; have H11 := Lib.hid h11; clear h11
              obtain ⟨x0, x1, y0, y1, y2, y3, y4⟩ := XB.out
              have lg8 : ga < wq.heap.size := Nat.lt_of_lt_of_le lga hP.size; have lh8 : gb < wq.heap.size := Nat.lt_of_lt_of_le lgb hP.size
              have x0 := (hP.cell (p := ⟨ga, z * 11, none⟩) lga).trans x0
              have x1 := (hP.cell (p := ⟨ga, z * 11 + 1, none⟩) lga).trans x1
              have y0 := (hP.cell (p := ⟨gb, z * 11, none⟩) lgb).trans y0
              have y1 := (hP.cell (p := ⟨gb, z * 11 + 1, none⟩) lgb).trans y1
              have y2 := (hP.cell (p := ⟨gb, z * 11 + 2, none⟩) lgb).trans y2
              have y3 := (hP.cell (p := ⟨gb, z * 11 + 3, none⟩) lgb).trans y3
              have y4 := (hP.cell (p := ⟨gb, z * 11 + 4, none⟩) lgb).trans y4
              go_simp
              exact hK _ _ _ rfl ⟨hP, hTr⟩ trivial rfl
            refine calmSteps_cons (fun u wq n9 hn hn2 hC hk K hK => ?_) ?_
            · obtain ⟨hP, hTr⟩ := hC
              clear hn hn2
              simp only [calmKnown, List.getElem?_cons_zero, List.getElem?_cons_succ, and_true, Is, Gd, Pure, Option.some.injEq, List.getD_cons_zero, List.getD_cons_succ, List.map_cons, List.map_nil] at hk
              obtain ⟨h16, h21, h11⟩ := hk
              simp only [h16, h21, h11] at hK ⊢
              have H16 := Lib.hid h16; clear h16; have H21 := Lib.hid h21; clear h21; have H11 := Lib.hid h11; clear h11
              go_simp
              exact hK _ _ _ rfl ⟨hP, hTr⟩ trivial rfl
            refine calmSteps_cons (fun u wq n9 hn hn2 hC hk K hK => ?_) ?_
            · obtain ⟨hP, hTr⟩ := hC
              clear hn hn2
              simp only [calmKnown, List.getElem?_cons_zero, List.getElem?_cons_succ, and_true, Is, Gd, Pure, Option.some.injEq, List.getD_cons_zero, List.getD_cons_succ, List.map_cons, List.map_nil] at hk
              obtain ⟨h11, h22⟩ := hk
              simp only [h11, h22] at hK ⊢
              have H11 := Lib.hid h11; clear h11; have H22 := Lib.hid h22; clear h22
              go_simp
              exact hK _ _ _ rfl ⟨hP, hTr⟩ trivial rfl
            refine calmSteps_cons (fun u wq n9 hn hn2 hC hk K hK => ?_) ?_
            · obtain ⟨hP, hTr⟩ := hC
              clear hn hn2
              simp only [calmKnown, List.getElem?_cons_zero, List.getElem?_cons_succ, and_true, Is, Gd, Pure, Option.some.injEq, List.getD_cons_zero, List.getD_cons_succ, List.map_cons, List.map_nil] at hk
              have h23 := hk; clear hk
              simp only [h23] at hK ⊢
              have H23 := Lib.hid h23; clear h23
              go_simp
              exact hK _ _ _ rfl ⟨hP, hTr⟩ trivial rfl
            refine calmSteps_cons (fun u wq n9 hn hn2 hC hk K hK => ?_) ?_
            · obtain ⟨hP, hTr⟩ := hC
              clear hn hn2
              simp only [calmKnown, List.getElem?_cons_zero, List.getElem?_cons_succ, and_true, Is, Gd, Pure, Option.some.injEq, List.getD_cons_zero, List.getD_cons_succ, List.map_cons, List.map_nil] at hk
              have h24 := hk; clear hk
              simp only [h24] at hK ⊢
              have H24 := Lib.hid h24; clear h24
              go_simp
              exact hK _ _ _ rfl ⟨hP, hTr⟩ trivial rfl
            refine calmSteps_cons (fun u wq n9 hn hn2 hC hk K hK => ?_) ?_
            · obtain ⟨hP, hTr⟩ := hC
              clear hn hn2
              simp only [calmKnown, List.getElem?_cons_zero, List.getElem?_cons_succ, and_true, Is, Gd, Pure, Option.some.injEq, List.getD_cons_zero, List.getD_cons_succ, List.map_cons, List.map_nil] at hk
              have h24 := hk; clear hk
              simp only [h24] at hK ⊢
              have H24 := Lib.hid h24; clear h24
              go_simp
              exact hK _ _ _ rfl ⟨hP, hTr⟩ trivial rfl
            refine calmSteps_cons (fun u wq n9 hn hn2 hC hk K hK => ?_) ?_
            · obtain ⟨hP, hTr⟩ := hC
              clear hn hn2
              simp only [calmKnown, List.getElem?_cons_zero, List.getElem?_cons_succ, and_true, Is, Gd, Pure, Option.some.injEq, List.getD_cons_zero, List.getD_cons_succ, List.map_cons, List.map_nil] at hk
              obtain ⟨h25, h26, h24⟩ := hk
              simp only [h25, h26, h24] at hK ⊢
              have H25 := Lib.hid h25; clear h25; have H26 := Lib.hid h26; clear h26; have H24 := Lib.hid h24; clear h24
              go_simp
              exact hK _ _ _ rfl ⟨hP, hTr⟩ trivial rfl
            refine calmSteps_cons (fun u wq n9 hn hn2 hC hk K hK => ?_) ?_
            · obtain ⟨hP, hTr⟩ := hC
              clear hn hn2
              simp only [calmKnown, List.getElem?_cons_zero, List.getElem?_cons_succ, and_true, Is, Gd, Pure, Option.some.injEq, List.getD_cons_zero, List.getD_cons_succ, List.map_cons, List.map_nil] at hk
              obtain ⟨h27, h24⟩ := hk
              simp only [h27, h24] at hK ⊢
              have H27 := Lib.hid h27; clear h27; have H24 := Lib.hid h24; clear h24
              go_simp
              exact hK _ _ _ rfl ⟨hP, hTr⟩ trivial rfl
            refine calmSteps_cons (fun u wq n9 hn hn2 hC hk K hK => ?_) ?_
            · obtain ⟨hP, hTr⟩ := hC
              clear hn hn2
              simp only [calmKnown, List.getElem?_cons_zero, List.getElem?_cons_succ, and_true, Is, Gd, Pure, Option.some.injEq, List.getD_cons_zero, List.getD_cons_succ, List.map_cons, List.map_nil] at hk
              obtain ⟨h28, h24⟩ := hk
              simp only [h28, h24] at hK ⊢
              have H28 := Lib.hid h28; clear h28; have H24 := Lib.hid h24; clear h24
              obtain ⟨x0, x1, y0, y1, y2, y3, y4⟩ := XB.out
              have lg8 : ga < wq.heap.size := Nat.lt_of_lt_of_le lga hP.size; have lh8 : gb < wq.heap.size := Nat.lt_of_lt_of_le lgb hP.size
              have x0 := (hP.cell (p := ⟨ga, z * 11, none⟩) lga).trans x0
              have x1 := (hP.cell (p := ⟨ga, z * 11 + 1, none⟩) lga).trans x1
              have y0 := (hP.cell (p := ⟨gb, z * 11, none⟩) lgb).trans y0
              have y1 := (hP.cell (p := ⟨gb, z * 11 + 1, none⟩) lgb).trans y1
              have y2 := (hP.cell (p := ⟨gb, z * 11 + 2, none⟩) lgb).trans y2
              have y3 := (hP.cell (p := ⟨gb, z * 11 + 3, none⟩) lgb).trans y3
              have y4 := (hP.cell (p := ⟨gb, z * 11 + 4, none⟩) lgb).trans y4
              go_simp
              exact hK _ _ _ rfl ⟨hP, hTr⟩ trivial rfl
            refine calmSteps_cons (fun u wq n9 hn hn2 hC hk K hK => ?_) ?_
            · obtain ⟨hP, hTr⟩ := hC
              clear hn hn2
              simp only [calmKnown, List.getElem?_cons_zero, List.getElem?_cons_succ, and_true, Is, Gd, Pure, Option.some.injEq, List.getD_cons_zero, List.getD_cons_succ, List.map_cons, List.map_nil] at hk
              obtain ⟨h29, h24⟩ := hk
              simp only [h29, h24] at hK ⊢
              have H29 := Lib.hid h29; clear h29; have H24 := Lib.hid h24; clear h24
              go_simp
              exact hK _ _ _ rfl ⟨hP, hTr⟩ trivial rfl
            refine calmSteps_cons (fun u wq n9 hn hn2 hC hk K hK => ?_) ?_
            · obtain ⟨hP, hTr⟩ := hC
              clear hn hn2
              simp only [calmKnown, List.getElem?_cons_zero, List.getElem?_cons_succ, and_true, Is, Gd, Pure, Option.some.injEq, List.getD_cons_zero, List.getD_cons_succ, List.map_cons, List.map_nil] at hk
              have h30 := hk; clear hk
              simp only [h30] at hK ⊢
              have H30 := Lib.hid h30; clear h30
              by_cases hb : bs = true
              · skip
                obtain ⟨x0, x1, y0, y1, y2, y3, y4⟩ := XB.out
                have lg8 : ga < wq.heap.size := Nat.lt_of_lt_of_le lga hP.size; have lh8 : gb < wq.heap.size := Nat.lt_of_lt_of_le lgb hP.size
                have x0 := (hP.cell (p := ⟨ga, z * 11, none⟩) lga).trans x0
                have x1 := (hP.cell (p := ⟨ga, z * 11 + 1, none⟩) lga).trans x1
                have y0 := (hP.cell (p := ⟨gb, z * 11, none⟩) lgb).trans y0
                have y1 := (hP.cell (p := ⟨gb, z * 11 + 1, none⟩) lgb).trans y1
                have y2 := (hP.cell (p := ⟨gb, z * 11 + 2, none⟩) lgb).trans y2
                have y3 := (hP.cell (p := ⟨gb, z * 11 + 3, none⟩) lgb).trans y3
                have y4 := (hP.cell (p := ⟨gb, z * 11 + 4, none⟩) lgb).trans y4
                simp only [hb] at hK ⊢
                go_simp
                exact hK _ _ _ rfl ⟨hP, hTr⟩ trivial ⟨fun _ => rfl, (fun h => by cases h)⟩
              · replace hb : bs = false := by simpa using hb
                simp only [hb] at hK ⊢
                go_simp
                exact hK _ undef _ rfl ⟨hP, hTr⟩ trivial ⟨(fun h => by cases h), fun _ => rfl⟩
            refine calmSteps_cons (fun u wq n9 hn hn2 hC hk K hK => ?_) ?_
            · obtain ⟨hP, hTr⟩ := hC
              clear hn hn2
              simp only [calmKnown, List.getElem?_cons_zero, List.getElem?_cons_succ, and_true, Is, Gd, Pure, Option.some.injEq, List.getD_cons_zero, List.getD_cons_succ, List.map_cons, List.map_nil] at hk
              have h30 := hk; clear hk
              simp only [h30] at hK ⊢
              have H30 := Lib.hid h30; clear h30
              by_cases hb : bs = true
              · skip
                obtain ⟨x0, x1, y0, y1, y2, y3, y4⟩ := XB.out
                have lg8 : ga < wq.heap.size := Nat.lt_of_lt_of_le lga hP.size; have lh8 : gb < wq.heap.size := Nat.lt_of_lt_of_le lgb hP.size
                have x0 := (hP.cell (p := ⟨ga, z * 11, none⟩) lga).trans x0
                have x1 := (hP.cell (p := ⟨ga, z * 11 + 1, none⟩) lga).trans x1
                have y0 := (hP.cell (p := ⟨gb, z * 11, none⟩) lgb).trans y0
                have y1 := (hP.cell (p := ⟨gb, z * 11 + 1, none⟩) lgb).trans y1
                have y2 := (hP.cell (p := ⟨gb, z * 11 + 2, none⟩) lgb).trans y2
                have y3 := (hP.cell (p := ⟨gb, z * 11 + 3, none⟩) lgb).trans y3
                have y4 := (hP.cell (p := ⟨gb, z * 11 + 4, none⟩) lgb).trans y4
                simp only [hb] at hK ⊢
                go_simp
                exact hK _ _ _ rfl ⟨hP, hTr⟩ trivial ⟨fun _ => rfl, (fun h => by cases h)⟩
              · replace hb : bs = false := by simpa using hb
                simp only [hb] at hK ⊢
                go_simp
                exact hK _ undef _ rfl ⟨hP, hTr⟩ trivial ⟨(fun h => by cases h), fun _ => rfl⟩
            refine calmSteps_cons (fun u wq n9 hn hn2 hC hk K hK => ?_) ?_
            · obtain ⟨hP, hTr⟩ := hC
              clear hn hn2
              simp only [calmKnown, List.getElem?_cons_zero, List.getElem?_cons_succ, and_true, Is, Gd, Pure, Option.some.injEq, List.getD_cons_zero, List.getD_cons_succ, List.map_cons, List.map_nil] at hk
              obtain ⟨p31, p32, h30⟩ := hk
              simp only [h30] at hK ⊢
              have H30 := Lib.hid h30; clear h30
              by_cases hb : bs = true
              · skip
                replace p31 := p31.1 hb
                replace p32 := p32.1 hb
                simp only [p31, p32] at hK ⊢
                have P31 := Lib.hid p31; clear p31
                have P32 := Lib.hid p32; clear p32
                obtain ⟨x0, x1, y0, y1, y2, y3, y4⟩ := XB.out
                have lg8 : ga < wq.heap.size := Nat.lt_of_lt_of_le lga hP.size; have lh8 : gb < wq.heap.size := Nat.lt_of_lt_of_le lgb hP.size
                have x0 := (hP.cell (p := ⟨ga, z * 11, none⟩) lga).trans x0
                have x1 := (hP.cell (p := ⟨ga, z * 11 + 1, none⟩) lga).trans x1
                have y0 := (hP.cell (p := ⟨gb, z * 11, none⟩) lgb).trans y0
                have y1 := (hP.cell (p := ⟨gb, z * 11 + 1, none⟩) lgb).trans y1
                have y2 := (hP.cell (p := ⟨gb, z * 11 + 2, none⟩) lgb).trans y2
                have y3 := (hP.cell (p := ⟨gb, z * 11 + 3, none⟩) lgb).trans y3
                have y4 := (hP.cell (p := ⟨gb, z * 11 + 4, none⟩) lgb).trans y4
                simp only [hb] at hK ⊢
                go_simp
                exact hK _ _ _ rfl ⟨hP, hTr⟩ trivial ⟨fun _ => rfl, (fun h => by cases h)⟩
              · replace hb : bs = false := by simpa using hb
                replace p31 := p31.2 hb
                replace p32 := p32.2 hb
                simp only [p31, p32] at hK ⊢
                have P31 := Lib.hid p31; clear p31; have P32 := Lib.hid p32; clear p32
                simp only [hb] at hK ⊢
                go_simp
                exact hK _ undef _ rfl ⟨hP, hTr⟩ trivial ⟨(fun h => by cases h), fun _ => rfl⟩
            refine calmSteps_cons (fun u wq n9 hn hn2 hC hk K hK => ?_) ?_
            · obtain ⟨hP, hTr⟩ := hC
              clear hn hn2
              simp only [calmKnown, List.getElem?_cons_zero, List.getElem?_cons_succ, and_true, Is, Gd, Pure, Option.some.injEq, List.getD_cons_zero, List.getD_cons_succ, List.map_cons, List.map_nil] at hk
              obtain ⟨p33, h30⟩ := hk
              simp only [h30] at hK ⊢
              have H30 := Lib.hid h30; clear h30
              by_cases hb : bs = true
              · skip
                replace p33 := p33.1 hb
                simp only [p33] at hK ⊢
                have P33 := Lib.hid p33; clear p33
                obtain ⟨x0, x1, y0, y1, y2, y3, y4⟩ := XB.out
                have lg8 : ga < wq.heap.size := Nat.lt_of_lt_of_le lga hP.size; have lh8 : gb < wq.heap.size := Nat.lt_of_lt_of_le lgb hP.size
                have x0 := (hP.cell (p := ⟨ga, z * 11, none⟩) lga).trans x0
                have x1 := (hP.cell (p := ⟨ga, z * 11 + 1, none⟩) lga).trans x1
                have y0 := (hP.cell (p := ⟨gb, z * 11, none⟩) lgb).trans y0
                have y1 := (hP.cell (p := ⟨gb, z * 11 + 1, none⟩) lgb).trans y1
                have y2 := (hP.cell (p := ⟨gb, z * 11 + 2, none⟩) lgb).trans y2
                have y3 := (hP.cell (p := ⟨gb, z * 11 + 3, none⟩) lgb).trans y3
                have y4 := (hP.cell (p := ⟨gb, z * 11 + 4, none⟩) lgb).trans y4
                simp only [hb] at hK ⊢
                go_simp
                exact hK _ _ _ rfl ⟨hP, hTr⟩ trivial ⟨fun _ => rfl, (fun h => by cases h)⟩
              · replace hb : bs = false := by simpa using hb
                replace p33 := p33.2 hb
                simp only [p33] at hK ⊢
                have P33 := Lib.hid p33; clear p33
                simp only [hb] at hK ⊢
                go_simp
                exact hK _ undef _ rfl ⟨hP, hTr⟩ trivial ⟨(fun h => by cases h), fun _ => rfl⟩
            refine calmSteps_cons (fun u wq n9 hn hn2 hC hk K hK => ?_) ?_
            · obtain ⟨hP, hTr⟩ := hC
              clear hn hn2
              simp only [calmKnown, List.getElem?_cons_zero, List.getElem?_cons_succ, and_true, Is, Gd, Pure, Option.some.injEq, List.getD_cons_zero, List.getD_cons_succ, List.map_cons, List.map_nil] at hk
              obtain ⟨p34, h30⟩ := hk
              simp only [h30] at hK ⊢
              have H30 := Lib.hid h30; clear h30
              by_cases hb : bs = true
              · skip
                replace p34 := p34.1 hb
                simp only [p34] at hK ⊢
                have P34 := Lib.hid p34; clear p34
                obtain ⟨x0, x1, y0, y1, y2, y3, y4⟩ := XB.out
                have lg8 : ga < wq.heap.size := Nat.lt_of_lt_of_le lga hP.size; have lh8 : gb < wq.heap.size := Nat.lt_of_lt_of_le lgb hP.size
                have x0 := (hP.cell (p := ⟨ga, z * 11, none⟩) lga).trans x0
                have x1 := (hP.cell (p := ⟨ga, z * 11 + 1, none⟩) lga).trans x1
                have y0 := (hP.cell (p := ⟨gb, z * 11, none⟩) lgb).trans y0
                have y1 := (hP.cell (p := ⟨gb, z * 11 + 1, none⟩) lgb).trans y1
                have y2 := (hP.cell (p := ⟨gb, z * 11 + 2, none⟩) lgb).trans y2
                have y3 := (hP.cell (p := ⟨gb, z * 11 + 3, none⟩) lgb).trans y3
                have y4 := (hP.cell (p := ⟨gb, z * 11 + 4, none⟩) lgb).trans y4
                simp only [hb] at hK ⊢
                go_simp
                exact hK _ _ _ rfl ⟨hP, hTr⟩ trivial ⟨fun _ => rfl, (fun h => by cases h)⟩
              · replace hb : bs = false := by simpa using hb
                replace p34 := p34.2 hb
                simp only [p34] at hK ⊢
                have P34 := Lib.hid p34; clear p34
                simp only [hb] at hK ⊢
                go_simp
                exact hK _ undef _ rfl ⟨hP, hTr⟩ trivial ⟨(fun h => by cases h), fun _ => rfl⟩
            refine calmSteps_cons (fun u wq n9 hn hn2 hC hk K hK => ?_) ?_
            · obtain ⟨hP, hTr⟩ := hC
              clear hn hn2
              simp only [calmKnown, List.getElem?_cons_zero, List.getElem?_cons_succ, and_true, Is, Gd, Pure, Option.some.injEq, List.getD_cons_zero, List.getD_cons_succ, List.map_cons, List.map_nil] at hk
              have h30 := hk; clear hk
              simp only [h30] at hK ⊢
              have H30 := Lib.hid h30; clear h30
              by_cases hb : bs = true
              · skip
                obtain ⟨x0, x1, y0, y1, y2, y3, y4⟩ := XB.out
                have lg8 : ga < wq.heap.size := Nat.lt_of_lt_of_le lga hP.size; have lh8 : gb < wq.heap.size := Nat.lt_of_lt_of_le lgb hP.size
                have x0 := (hP.cell (p := ⟨ga, z * 11, none⟩) lga).trans x0
                have x1 := (hP.cell (p := ⟨ga, z * 11 + 1, none⟩) lga).trans x1
                have y0 := (hP.cell (p := ⟨gb, z * 11, none⟩) lgb).trans y0
                have y1 := (hP.cell (p := ⟨gb, z * 11 + 1, none⟩) lgb).trans y1
                have y2 := (hP.cell (p := ⟨gb, z * 11 + 2, none⟩) lgb).trans y2
                have y3 := (hP.cell (p := ⟨gb, z * 11 + 3, none⟩) lgb).trans y3
                have y4 := (hP.cell (p := ⟨gb, z * 11 + 4, none⟩) lgb).trans y4
                simp only [hb] at hK ⊢
                go_simp
                exact hK _ _ _ rfl ⟨hP, hTr⟩ trivial ⟨fun _ => rfl, (fun h => by cases h)⟩
              · replace hb : bs = false := by simpa using hb
                simp only [hb] at hK ⊢
                go_simp
                exact hK _ undef _ rfl ⟨hP, hTr⟩ trivial ⟨(fun h => by cases h), fun _ => rfl⟩
            refine calmSteps_cons (fun u wq n9 hn hn2 hC hk K hK => ?_) ?_
            · obtain ⟨hP, hTr⟩ := hC
              clear hn hn2
              simp only [calmKnown, List.getElem?_cons_zero, List.getElem?_cons_succ, and_true, Is, Gd, Pure, Option.some.injEq, List.getD_cons_zero, List.getD_cons_succ, List.map_cons, List.map_nil] at hk
              have h30 := hk; clear hk
              simp only [h30] at hK ⊢
              have H30 := Lib.hid h30; clear h30
              by_cases hb : bs = true
              · skip
                obtain ⟨x0, x1, y0, y1, y2, y3, y4⟩ := XB.out
                have lg8 : ga < wq.heap.size := Nat.lt_of_lt_of_le lga hP.size; have lh8 : gb < wq.heap.size := Nat.lt_of_lt_of_le lgb hP.size
                have x0 := (hP.cell (p := ⟨ga, z * 11, none⟩) lga).trans x0
                have x1 := (hP.cell (p := ⟨ga, z * 11 + 1, none⟩) lga).trans x1
                have y0 := (hP.cell (p := ⟨gb, z * 11, none⟩) lgb).trans y0
                have y1 := (hP.cell (p := ⟨gb, z * 11 + 1, none⟩) lgb).trans y1
                have y2 := (hP.cell (p := ⟨gb, z * 11 + 2, none⟩) lgb).trans y2
                have y3 := (hP.cell (p := ⟨gb, z * 11 + 3, none⟩) lgb).trans y3
                have y4 := (hP.cell (p := ⟨gb, z * 11 + 4, none⟩) lgb).trans y4
                simp only [hb] at hK ⊢
                go_simp
                exact hK _ _ _ rfl ⟨hP, hTr⟩ trivial ⟨fun _ => rfl, (fun h => by cases h)⟩
              · replace hb : bs = false := by simpa using hb
                simp only [hb] at hK ⊢
                go_simp
                exact hK _ undef _ rfl ⟨hP, hTr⟩ trivial ⟨(fun h => by cases h), fun _ => rfl⟩
            refine calmSteps_cons (fun u wq n9 hn hn2 hC hk K hK => ?_) ?_
            · obtain ⟨hP, hTr⟩ := hC
              clear hn hn2
              simp only [calmKnown, List.getElem?_cons_zero, List.getElem?_cons_succ, and_true, Is, Gd, Pure, Option.some.injEq, List.getD_cons_zero, List.getD_cons_succ, List.map_cons, List.map_nil] at hk
              obtain ⟨p36, p37, h30⟩ := hk
              simp only [h30] at hK ⊢
              have H30 := Lib.hid h30; clear h30
              by_cases hb : bs = true
              · skip
                replace p36 := p36.1 hb
                replace p37 := p37.1 hb
                simp only [p36, p37] at hK ⊢
                have P36 := Lib.hid p36; clear p36
                have P37 := Lib.hid p37; clear p37
                obtain ⟨x0, x1, y0, y1, y2, y3, y4⟩ := XB.out
                have lg8 : ga < wq.heap.size := Nat.lt_of_lt_of_le lga hP.size; have lh8 : gb < wq.heap.size := Nat.lt_of_lt_of_le lgb hP.size
                have x0 := (hP.cell (p := ⟨ga, z * 11, none⟩) lga).trans x0
                have x1 := (hP.cell (p := ⟨ga, z * 11 + 1, none⟩) lga).trans x1
                have y0 := (hP.cell (p := ⟨gb, z * 11, none⟩) lgb).trans y0
                have y1 := (hP.cell (p := ⟨gb, z * 11 + 1, none⟩) lgb).trans y1
                have y2 := (hP.cell (p := ⟨gb, z * 11 + 2, none⟩) lgb).trans y2
                have y3 := (hP.cell (p := ⟨gb, z * 11 + 3, none⟩) lgb).trans y3
                have y4 := (hP.cell (p := ⟨gb, z * 11 + 4, none⟩) lgb).trans y4
                simp only [hb] at hK ⊢
                go_simp
                exact hK _ _ _ rfl ⟨hP, hTr⟩ trivial ⟨fun _ => rfl, (fun h => by cases h)⟩
              · replace hb : bs = false := by simpa using hb
                replace p36 := p36.2 hb
                replace p37 := p37.2 hb
                simp only [p36, p37] at hK ⊢
                have P36 := Lib.hid p36; clear p36; have P37 := Lib.hid p37; clear p37
                simp only [hb] at hK ⊢
                go_simp
                exact hK _ undef _ rfl ⟨hP, hTr⟩ trivial ⟨(fun h => by cases h), fun _ => rfl⟩
            refine calmSteps_cons (fun u wq n9 hn hn2 hC hk K hK => ?_) ?_
            · obtain ⟨hP, hTr⟩ := hC
              clear hn hn2
              simp only [calmKnown, List.getElem?_cons_zero, List.getElem?_cons_succ, and_true, Is, Gd, Pure, Option.some.injEq, List.getD_cons_zero, List.getD_cons_succ, List.map_cons, List.map_nil] at hk
              obtain ⟨p38, h30⟩ := hk
              simp only [h30] at hK ⊢
              have H30 := Lib.hid h30; clear h30
              by_cases hb : bs = true
              · skip
                replace p38 := p38.1 hb
                simp only [p38] at hK ⊢
                have P38 := Lib.hid p38; clear p38
                obtain ⟨x0, x1, y0, y1, y2, y3, y4⟩ := XB.out
                have lg8 : ga < wq.heap.size := Nat.lt_of_lt_of_le lga hP.size; have lh8 : gb < wq.heap.size := Nat.lt_of_lt_of_le lgb hP.size
                have x0 := (hP.cell (p := ⟨ga, z * 11, none⟩) lga).trans x0
                have x1 := (hP.cell (p := ⟨ga, z * 11 + 1, none⟩) lga).trans x1
                have y0 := (hP.cell (p := ⟨gb, z * 11, none⟩) lgb).trans y0
                have y1 := (hP.cell (p := ⟨gb, z * 11 + 1, none⟩) lgb).trans y1
                have y2 := (hP.cell (p := ⟨gb, z * 11 + 2, none⟩) lgb).trans y2
                have y3 := (hP.cell (p := ⟨gb, z * 11 + 3, none⟩) lgb).trans y3
                have y4 := (hP.cell (p := ⟨gb, z * 11 + 4, none⟩) lgb).trans y4
                simp only [hb] at hK ⊢
                go_simp
                exact hK _ _ _ rfl ⟨hP, hTr⟩ trivial ⟨fun _ => rfl, (fun h => by cases h)⟩
              · replace hb : bs = false := by simpa using hb
                replace p38 := p38.2 hb
                simp only [p38] at hK ⊢
                have P38 := Lib.hid p38; clear p38
                simp only [hb] at hK ⊢
                go_simp
                exact hK _ undef _ rfl ⟨hP, hTr⟩ trivial ⟨(fun h => by cases h), fun _ => rfl⟩
            refine calmSteps_cons (fun u wq n9 hn hn2 hC hk K hK => ?_) ?_
            · obtain ⟨hP, hTr⟩ := hC
              clear hn hn2
              simp only [calmKnown, List.getElem?_cons_zero, List.getElem?_cons_succ, and_true, Is, Gd, Pure, Option.some.injEq, List.getD_cons_zero, List.getD_cons_succ, List.map_cons, List.map_nil] at hk
              obtain ⟨p39, h30⟩ := hk
              simp only [h30] at hK ⊢
              have H30 := Lib.hid h30; clear h30
              by_cases hb : bs = true
              · skip
                replace p39 := p39.1 hb
                simp only [p39] at hK ⊢
                have P39 := Lib.hid p39; clear p39
                obtain ⟨x0, x1, y0, y1, y2, y3, y4⟩ := XB.out
                have lg8 : ga < wq.heap.size := Nat.lt_of_lt_of_le lga hP.size; have lh8 : gb < wq.heap.size := Nat.lt_of_lt_of_le lgb hP.size
                have x0 := (hP.cell (p := ⟨ga, z * 11, none⟩) lga).trans x0
                have x1 := (hP.cell (p := ⟨ga, z * 11 + 1, none⟩) lga).trans x1
                have y0 := (hP.cell (p := ⟨gb, z * 11, none⟩) lgb).trans y0
                have y1 := (hP.cell (p := ⟨gb, z * 11 + 1, none⟩) lgb).trans y1
                have y2 := (hP.cell (p := ⟨gb, z * 11 + 2, none⟩) lgb).trans y2
                have y3 := (hP.cell (p := ⟨gb, z * 11 + 3, none⟩) lgb).trans y3
                have y4 := (hP.cell (p := ⟨gb, z * 11 + 4, none⟩) lgb).trans y4
                simp only [hb] at hK ⊢
                go_simp
                exact hK _ _ _ rfl ⟨hP, hTr⟩ trivial ⟨fun _ => rfl, (fun h => by cases h)⟩
              · replace hb : bs = false := by simpa using hb
                replace p39 := p39.2 hb
                simp only [p39] at hK ⊢
                have P39 := Lib.hid p39; clear p39
                simp only [hb] at hK ⊢
                go_simp
                exact hK _ undef _ rfl ⟨hP, hTr⟩ trivial ⟨(fun h => by cases h), fun _ => rfl⟩
            refine calmSteps_cons (fun u wq n9 hn hn2 hC hk K hK => ?_) ?_
            · obtain ⟨hP, hTr⟩ := hC
              clear hn hn2
              simp only [calmKnown, List.getElem?_cons_zero, List.getElem?_cons_succ, and_true, Is, Gd, Pure, Option.some.injEq, List.getD_cons_zero, List.getD_cons_succ, List.map_cons, List.map_nil] at hk
              obtain ⟨p35, p40, h30⟩ := hk
              simp only [h30] at hK ⊢
              have H30 := Lib.hid h30; clear h30
              by_cases hb : bs = true
              · skip
                replace p35 := p35.1 hb
                replace p40 := p40.1 hb
                simp only [p35, p40] at hK ⊢
                have P35 := Lib.hid p35; clear p35
                have P40 := Lib.hid p40; clear p40
                obtain ⟨x0, x1, y0, y1, y2, y3, y4⟩ := XB.out
                have lg8 : ga < wq.heap.size := Nat.lt_of_lt_of_le lga hP.size; have lh8 : gb < wq.heap.size := Nat.lt_of_lt_of_le lgb hP.size
                have x0 := (hP.cell (p := ⟨ga, z * 11, none⟩) lga).trans x0
                have x1 := (hP.cell (p := ⟨ga, z * 11 + 1, none⟩) lga).trans x1
                have y0 := (hP.cell (p := ⟨gb, z * 11, none⟩) lgb).trans y0
                have y1 := (hP.cell (p := ⟨gb, z * 11 + 1, none⟩) lgb).trans y1
                have y2 := (hP.cell (p := ⟨gb, z * 11 + 2, none⟩) lgb).trans y2
                have y3 := (hP.cell (p := ⟨gb, z * 11 + 3, none⟩) lgb).trans y3
                have y4 := (hP.cell (p := ⟨gb, z * 11 + 4, none⟩) lgb).trans y4
                simp only [hb] at hK ⊢
                go_simp
                refine (RH.out hb _).mono ?_
                rintro e w2 ⟨rfl, hbl⟩
                exact hK _ _ _ rfl ⟨kept_call hbl hP, trivial⟩ trivial ⟨fun _ => rfl, (fun h => by cases h)⟩
              · replace hb : bs = false := by simpa using hb
                replace p35 := p35.2 hb
                replace p40 := p40.2 hb
                simp only [p35, p40] at hK ⊢
                have P35 := Lib.hid p35; clear p35; have P40 := Lib.hid p40; clear p40
                simp only [hb] at hK ⊢
                go_simp
                exact hK _ undef _ rfl ⟨hP, hTr⟩ trivial ⟨(fun h => by cases h), fun _ => rfl⟩
            refine calmSteps_cons (fun u wq n9 hn hn2 hC hk K hK => ?_) ?_
            · obtain ⟨hP, hTr⟩ := hC
              clear hn hn2
              simp only [calmKnown, List.getElem?_cons_zero, List.getElem?_cons_succ, and_true, Is, Gd, Pure, Option.some.injEq, List.getD_cons_zero, List.getD_cons_succ, List.map_cons, List.map_nil] at hk
              obtain ⟨p41, h30⟩ := hk
              simp only [h30] at hK ⊢
              have H30 := Lib.hid h30; clear h30
              by_cases hb : bs = true
              · skip
                replace p41 := p41.1 hb
                simp only [p41] at hK ⊢
                have P41 := Lib.hid p41; clear p41
                obtain ⟨x0, x1, y0, y1, y2, y3, y4⟩ := XB.out
                have lg8 : ga < wq.heap.size := Nat.lt_of_lt_of_le lga hP.size; have lh8 : gb < wq.heap.size := Nat.lt_of_lt_of_le lgb hP.size
                have x0 := (hP.cell (p := ⟨ga, z * 11, none⟩) lga).trans x0
                have x1 := (hP.cell (p := ⟨ga, z * 11 + 1, none⟩) lga).trans x1
                have y0 := (hP.cell (p := ⟨gb, z * 11, none⟩) lgb).trans y0
                have y1 := (hP.cell (p := ⟨gb, z * 11 + 1, none⟩) lgb).trans y1
                have y2 := (hP.cell (p := ⟨gb, z * 11 + 2, none⟩) lgb).trans y2
                have y3 := (hP.cell (p := ⟨gb, z * 11 + 3, none⟩) lgb).trans y3
                have y4 := (hP.cell (p := ⟨gb, z * 11 + 4, none⟩) lgb).trans y4
                simp only [hb] at hK ⊢
                go_simp
                exact hK _ _ _ rfl ⟨hP, hTr⟩ trivial ⟨fun _ => rfl, (fun h => by cases h)⟩
              · replace hb : bs = false := by simpa using hb
                replace p41 := p41.2 hb
                simp only [p41] at hK ⊢
                have P41 := Lib.hid p41; clear p41
                simp only [hb] at hK ⊢
                go_simp
                exact hK _ undef _ rfl ⟨hP, hTr⟩ trivial ⟨(fun h => by cases h), fun _ => rfl⟩
            refine calmSteps_cons (fun u wq n9 hn hn2 hC hk K hK => ?_) ?_
            · obtain ⟨hP, hTr⟩ := hC
              clear hn hn2
              simp only [calmKnown, List.getElem?_cons_zero, List.getElem?_cons_succ, and_true, Is, Gd, Pure, Option.some.injEq, List.getD_cons_zero, List.getD_cons_succ, List.map_cons, List.map_nil] at hk
              obtain ⟨h30, p42, h24⟩ := hk
              simp only [h30, h24] at hK ⊢
              have H30 := Lib.hid h30; clear h30; have H24 := Lib.hid h24; clear h24
              by_cases hb : bs = true
              · replace p42 := p42.1 hb
                simp only [p42] at hK ⊢
                have P42 := Lib.hid p42; clear p42
                (try simp only [hb] at hK ⊢)
                go_simp
                exact hK _ _ _ rfl ⟨hP, hTr⟩ trivial rfl
              · clear p42
                replace hb : bs = false := by simpa using hb
                (try simp only [hb] at hK ⊢)
                go_simp
                exact hK _ _ _ rfl ⟨hP, hTr⟩ trivial (rfl)
            refine calmSteps_cons (fun u wq n9 hn hn2 hC hk K hK => ?_) ?_
            · obtain ⟨hP, hTr⟩ := hC
              clear hn hn2
              simp only [calmKnown, List.getElem?_cons_zero, List.getElem?_cons_succ, and_true, Is, Gd, Pure, Option.some.injEq, List.getD_cons_zero, List.getD_cons_succ, List.map_cons, List.map_nil] at hk
              obtain ⟨h24, h43⟩ := hk
              simp only [h24, h43] at hK ⊢
              have H24 := Lib.hid h24; clear h24; have H43 := Lib.hid h43; clear h43
              go_simp
              exact hK _ _ _ rfl ⟨hP, hTr⟩ trivial rfl
            exact calmSteps_nil
          · intro u wz hC hF
            obtain ⟨hP, hTr⟩ := hC
            simp only [calmFacts, Is, Gd, and_true, true_and] at hF
            obtain ⟨f0, f1, f2, f3, f4, f5, f6, f7, f8, f9, f10, f11, f12, f13, f14, f15, f16, f17, f18, f19, f20, f21, f22, f23, f24, f25, f26, f27, f28, f29, f30, f31, f32, f33, f34, f35, f36, f37, f38, f39, f40, f41, f42, f43, f44⟩ := hF
            simp only [f44]
            clear f0 f1 f2 f3 f4 f5 f6 f7 f8 f9 f10 f11 f12 f13 f14 f15 f16 f17 f18 f19 f20 f21 f22 f23 f24 f25 f26 f27 f28 f29 f30 f31 f32 f33 f34 f35 f36 f37 f38 f39 f40 f41 f42 f43 f44
            have KZ := kept_call hP KR
            have HKZ := Lib.hid KZ; clear KZ hP hTr
            go_wp2
            go_roundg (q - (z + 1))
            case measure => omega
            case rel => exact ⟨z + 1, by omega, by omega, by go_num, HKZ.out⟩
        · obtain rfl : z = q := by omega
          have gz : decide ((z : Int) < (z : Int)) = false := decide_eq_false (by omega)
          have gzn : decide (z < z) = false := decide_eq_false (by omega)
          go_wp2_with fail
          refine (known41_any _).mono ?_
          rintro e w9 ⟨rfl, hb9⟩
          go_wp2
          go_ret
          exact ⟨rfl, kept_call (kept_call hb9 KR) HK5.out⟩
end Go.Proofs.YtlnboheahbfgfaaGreat
