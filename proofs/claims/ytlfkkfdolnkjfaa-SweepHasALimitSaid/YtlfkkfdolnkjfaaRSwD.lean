/- The reference's put. -/
import Derived.Test.YtlfkkfdolnkjfaaRSwP
import Derived.Test.YtlfkkfdolnkjfaaRSwC
import Derived.Test.YtlfkkfdolnkjfaaAppX
import Derived.Test.YtlfkkfdolnkjfaaCalmP
import Derived.Test.YtlfkkfdolnkjfaaCalmS
namespace Go.Proofs.Ytlfkkfdolnkjfaa
open Go.RowKit Go.Shelf Go.Sort
set_option linter.unusedSimpArgs false
set_option linter.unusedVariables false

/-- Numbers in memory; none is nil. -/
def NumI (w : World) (A : Option Addr) (len cap : Nat) (xs : List Int) : Prop :=
  xs.length = len ∧ len ≤ cap ∧ len ≤ 1000 ∧ (len = 0 → A = none ∧ cap = 0) ∧ (0 < len → ∃ b off, A = some ⟨b, off, none⟩ ∧ b < w.heap.size ∧ ∀ j, j < len → w.cell? ⟨b, off + j, none⟩ = some (.int .i64 (xs.getD j 0)))
theorem NumI.below {w w' : World} {A : Option Addr} {len cap : Nat} {xs : List Int} (h : NumI w A len cap xs) (hb : Below w.heap.size w w') : NumI w' A len cap xs := by
  obtain ⟨h1, h2, h3, h4, h5⟩ := h
  refine ⟨h1, h2, h3, h4, fun hl => ?_⟩
  obtain ⟨b, off, e, hlt, hc⟩ := h5 hl
  exact ⟨b, off, e, Nat.lt_of_lt_of_le hlt hb.size, fun j hj => cell_below hb (hc j hj)⟩
def cellsI (xs : List Int) : List Value := xs.map fun x => .int .i64 x
theorem infoTI : (Try.prog.info? 3).map (fun i => (i.zero, i.size, i.bytes)) = some (some (.int .i64 0), 1, 8) := by kernel_rfl
theorem cellsI_one {xs : List Int} : ∀ u ∈ cellsI xs, u.oneCell' = true := by
  intro u hu
  obtain ⟨x, _, rfl⟩ := List.mem_map.1 hu
  rfl
theorem cellsI_get {xs : List Int} {j : Nat} {u : Value} (h : (cellsI xs)[j]? = some u) : j < xs.length ∧ u = .int .i64 (xs.getD j 0) := by
  unfold cellsI at h
  rw [List.getElem?_map] at h
  obtain ⟨x, hx, rfl⟩ := Option.map_eq_some_iff.1 h
  refine ⟨(List.getElem?_eq_some_iff.1 hx).1, ?_⟩
  rw [List.getD_eq_getElem?_getD, hx]; rfl
theorem src_take {w : World} {bl off q : Nat} {xs : List Int} (hc : ∀ j, j < xs.length → w.cell? ⟨bl, off + j, none⟩ = some (.int .i64 (xs.getD j 0))) : ∀ j u, (cellsI (xs.take q))[j]? = some u → w.cell? ((⟨bl, off, none⟩ : Addr).add j) = some u := fun j u hu => by
  obtain ⟨h1, rfl⟩ := cellsI_get hu
  rw [List.length_take] at h1
  have ea : (⟨bl, off, none⟩ : Addr).add j = ⟨bl, off + j, none⟩ := by unfold Addr.add; split <;> simp_all
  rw [ea, hc j (by omega), List.getD_eq_getElem?_getD, List.getD_eq_getElem?_getD, List.getElem?_take, if_pos (by omega)]
theorem src_drop {w : World} {bl off q : Nat} {xs : List Int} (hc : ∀ j, j < xs.length → w.cell? ⟨bl, off + j, none⟩ = some (.int .i64 (xs.getD j 0))) : ∀ j u, (cellsI (xs.drop q))[j]? = some u → w.cell? ((⟨bl, off + q, none⟩ : Addr).add j) = some u := fun j u hu => by
  obtain ⟨h1, rfl⟩ := cellsI_get hu
  rw [List.length_drop] at h1
  have ea : (⟨bl, off + q, none⟩ : Addr).add j = ⟨bl, off + q + j, none⟩ := by unfold Addr.add; split <;> simp_all
  rw [ea, Nat.add_assoc, hc (q + j) (by omega), List.getD_eq_getElem?_getD, List.getD_eq_getElem?_getD, List.getElem?_drop]
theorem calm_opI {P : Program} {o : Oper} {a : Act} {w : World} {K : Act → World → Prop} {Q : Exit → Act → World → Prop} {b : Bool} {X : Prop} (hb : b = true) (h : o.wp P a w K Q) : if b = true then Oper.wp P o a w K Q else X := by rw [if_pos hb]; exact h
def ZN (q : Nat) (v : Value) : Prop := q = 0 → v = .slice none 0 0
def RowI (w : World) (base : Nat) (A : Option Addr) (cap : Nat) (ys : List Int) : Prop := w.ownsRow base 3 1 (.slice A ys.length cap) ys.length (cellsI ys)
def OneI (x : Int) : List Value → Value → World → Prop := fun _ v w => ∃ g, v = .slice (some ⟨g, 0, none⟩) 1 1 ∧ Blk w g 3 #[.int .i64 x]
def KeepI (x : Int) (w w' : World) : Prop := ∀ g, Blk w g 3 #[.int .i64 x] → Blk w' g 3 #[.int .i64 x]
theorem keep_oneI {x : Int} : ∀ d v w w', KeepI x w w' → OneI x d v w → OneI x d v w' := fun _ _ _ _ h ⟨g, e, hb⟩ => ⟨g, e, h g hb⟩
theorem kg_blk {w w' : World} {g : Nat} {t : TypeId} {cs : Array Value} {r : Option Nat} (h : w.grownBy w' r) (hn : some g ≠ r) (hb : Blk w g t cs) : Blk w' g t cs := (h.block g hb.lt hn).trans hb
/-- What an append does to the single numbers, and to what was there. -/
theorem keep_app {w w' : World} {base n m : Nat} {x : Int} {v : Value} {xs : List Value} (hown : w.ownsRow base 3 1 v n xs) (hz : n = 0 → v = .slice none 0 0)
    (h : w.grownBy w' none ∨ ∃ g cap, v = .slice (some ⟨g, 0, none⟩) n cap ∧ 0 < m ∧ n + m ≤ cap ∧ w.grownBy w' (some g)) : KeepI x w w' := by
  intro g hb
  rcases h with h | ⟨g0, cap, e, hm, hc, h⟩
  · exact kg_blk h (by simp) hb
  · by_cases hg : g = g0
    · exfalso
      subst hg
      have hn : 0 < n := by
        by_cases c : n = 0
        · rw [hz c] at e; simp at e
        · omega
      rcases hown.2 with ⟨e1, e2⟩ | ⟨g1, cap1, cur, e1, _, hg1, hnc, _, hcs, _⟩
      · omega
      · rw [e] at e1
        injection e1 with e1 _ e3
        injection e1 with e1
        injection e1 with e1
        subst e1; subst e3
        unfold Blk at hb
        rw [hb] at hg1
        injection hg1 with hg1
        injection hg1 with hg1
        subst hg1
        simp at hcs
        omega
    · exact kg_blk h (by intro e; injection e with e; exact hg e) hb
theorem below_app {w0 w w' : World} {n m : Nat} {v : Value} {xs : List Value} (hP : Below w0.heap.size w0 w) (hown : w.ownsRow w0.heap.size 3 1 v n xs)
    (h : w.grownBy w' none ∨ ∃ g cap, v = .slice (some ⟨g, 0, none⟩) n cap ∧ 0 < m ∧ n + m ≤ cap ∧ w.grownBy w' (some g)) : Below w0.heap.size w0 w' := by
  rcases h with h | ⟨g, cap, e, -, -, h⟩
  · exact hP.grown h hP.size (fun k hk => by cases hk)
  · exact hP.grown h hP.size (fun k hk => by injection hk with hk; subst hk; exact (World.ownsRow.lt hown g (by rw [e]; rfl)).1)
theorem nums_of_row {w : World} {base : Nat} {A : Option Addr} {cap : Nat} {ys : List Int} (h : RowI w base A cap ys) (hl : 0 < ys.length) (h9 : ys.length ≤ 1000) : NumI w A ys.length cap ys := by
  obtain ⟨g, c, e, h1, h2⟩ := World.ownsRow.form h hl
  injection e with e1 _ e3
  subst e1; subst e3
  have hcap : ys.length ≤ cap := by
    rcases h.2 with ⟨e1, e2⟩ | ⟨g1, cap1, cur, e1, _, _, hnc, _⟩
    · omega
    · injection e1 with _ _ e3; omega
  refine ⟨rfl, hcap, h9, fun h0 => by omega, fun _ => ⟨g, 0, rfl, h2, fun j hj => ?_⟩⟩
  rw [Nat.zero_add, World.ownsRow.cellAt h j (by omega)]
  unfold cellsI
  rw [List.getElem?_map, List.getD_eq_getElem?_getD, List.getElem?_eq_getElem hj]; rfl
def PuRel (w : World) (xs : List Int) (v : Int) (G : Nat) (i : Value) (wr : World) : Prop := ∃ q : Nat, q ≤ xs.length ∧ G = xs.length - q ∧ i = .int .i64 q ∧ (∀ j, j < q → xs.getD j 0 < v) ∧ Below w.heap.size w wr
def PutR (w : World) (xs : List Int) (v : Int) (e : Ending) (w' : World) : Prop := ∃ (A : Option Addr) (cap : Nat) (ys : List Int), e = .returned (.slice A ys.length cap) ∧ NumI w' A ys.length cap ys ∧ PutX xs v ys ∧ Below w.heap.size w w'
set_option maxRecDepth 100000 in
set_option maxHeartbeats 2000000 in
theorem put_any (A : Option Addr) (len cap : Nat) (xs : List Int) (v : Int) (hasc : AscI xs) (h9 : len ≤ 900) (w : World) (h : NumI w A len cap xs) :
    Calls Try.prog 112 #[.slice A len cap, .int .i64 v] w (PutR w xs v) := by
  have hz := h.1
  have hcap := h.2.1
  subst hz
  have H := Lib.hid h; have HA := Lib.hid hasc; clear h hasc
  go_enter Try.func112, Try.ntmps112
  go_wp2
  go_loopg [5] xs.length (fun G i wr => PuRel w xs v G i wr)
  case atStart => exact ⟨0, by omega, by omega, rfl, fun j hj => by omega, by (repeat' (first | (with_reducible exact Below.refl _ _) | (with_reducible refine Below.setCell ?_ ?_ _) | (with_reducible refine Below.alloc ?_ ?_ _) | (with_reducible refine Below.drew ?_) | (with_reducible refine below_drewN ?_ _))) <;> (first | omega | (simp <;> omega))⟩
  case round =>
    obtain ⟨q, hq, rfl, rfl, hs, KR⟩ := hrel
    have ZR := KR.size
    have HS := Lib.hid hs; clear hs
    by_cases hlt : q < xs.length
    · have gk : decide ((q : Int) < (xs.length : Int)) = true := decide_eq_true (by omega)
      have wq : IntKind.i64.wrap ((q : Int) + 1) = ((q + 1 : Nat) : Int) := by rw [IntWalk.i64_in _ (by omega)]; omega
      obtain ⟨bl, off, rfl, hb, hcs⟩ := H.out.2.2.2.2 (by omega)
      have e0 := hcs q hlt
      have HCS := Lib.hid hcs; clear hcs
      have e0 := (KR.cell (p := ⟨bl, off + q, none⟩) hb).trans e0
      have hbW : bl < wr.heap.size := by omega
      obtain ⟨x, hx⟩ : ∃ x, xs.getD q 0 = x := ⟨_, rfl⟩
      rw [hx] at e0
      have HX := Lib.hid hx; clear hx
      by_cases c : x < v
      · have gc : decide (x < v) = true := decide_eq_true c
        go_wp2
        go_roundg (xs.length - (q + 1))
        case measure => omega
        case rel => exact ⟨q + 1, by omega, by omega, by go_num, fun j hj => by by_cases e9 : j = q; (subst e9; rw [HX.out]; exact c); (exact HS.out j (by omega)), by (repeat' (first | (with_reducible exact KR) | (with_reducible refine Below.setCell ?_ ?_ _) | (with_reducible refine Below.alloc ?_ ?_ _) | (with_reducible refine Below.drew ?_) | (with_reducible refine below_drewN ?_ _))) <;> (first | omega | (simp <;> omega))⟩
      have gc : decide (x < v) = false := decide_eq_false c
      by_cases c2 : x = v
      · have gd : decide (x = v) = true := decide_eq_true c2
        have gdb : (x == v) = true := by simpa using c2
        have HV := Lib.hid c2; clear c2
        have HN := H.out.below KR
        have HNN := Lib.hid HN; clear HN
        have hm : v ∈ xs := by
          have := HX.out
          rw [HV.out] at this
          rw [← this, List.getD_eq_getElem?_getD, List.getElem?_eq_getElem hlt]; exact List.getElem_mem _
        have HM := Lib.hid hm; clear hm
        go_wp2
        go_ret
        exact ⟨some ⟨bl, off, none⟩, cap, xs, rfl, HNN.out, put_in HA.out HM.out, by (repeat' (first | (with_reducible exact KR) | (with_reducible refine Below.setCell ?_ ?_ _) | (with_reducible refine Below.alloc ?_ ?_ _) | (with_reducible refine Below.drew ?_) | (with_reducible refine below_drewN ?_ _))) <;> (first | omega | (simp <;> omega))⟩
      have gd : decide (x = v) = false := decide_eq_false c2
      have gdb : (x == v) = false := by simpa using c2
      have hput := put_at (k := q) HA.out (by omega) HS.out (fun _ => by rw [HX.out]; omega)
      have HPUT := Lib.hid hput; clear hput
      have HSRC := Lib.hid (fun W (hW : Below w.heap.size w W) j (hj : j < xs.length) => (hW.cell (p := ⟨bl, off + j, none⟩) hb).trans (HCS.out j hj))
      have q2 : q ≤ xs.length := by omega
      go_upto_region 6 with fail
      have hcq : q ≤ cap := by omega
      clear e0 gc gd gdb c c2 gk
      obtain ⟨i0, hif, hz0, hz1, hz2⟩ := info_parts infoTI
      go_wp2_with fail
      refine' wp_region_calmS (by kernel_rfl) (fun n us w' => Below w.heap.size w w' ∧ (n = 1 → ∃ A' c', us[0]? = some (.slice A' q c') ∧ ZN q (.slice A' q c') ∧ w'.ownsRow w.heap.size 3 1 (.slice A' q c') q (cellsI (xs.take q))) ∧ (n = 2 → ∃ A' c', us[1]? = some (.slice A' (q + 1) c') ∧ w'.ownsRow w.heap.size 3 1 (.slice A' (q + 1) c') (q + 1) (cellsI (xs.take q) ++ [.int .i64 v])) ∧ (n = 3 → ∃ A' c', us[2]? = some (.slice A' (q + 1 + (xs.length - q)) c') ∧ w'.ownsRow w.heap.size 3 1 (.slice A' (q + 1 + (xs.length - q)) c') (q + 1 + (xs.length - q)) ((cellsI (xs.take q) ++ [.int .i64 v]) ++ cellsI (xs.drop q))) ∧ (n = 4 → ∃ A' c', us[3]? = some (.slice A' (q + 1 + (xs.length - q)) c') ∧ w'.ownsRow w.heap.size 3 1 (.slice A' (q + 1 + (xs.length - q)) c') (q + 1 + (xs.length - q)) ((cellsI (xs.take q) ++ [.int .i64 v]) ++ cellsI (xs.drop q)))) (KeepI v) [(Is (.slice (some ⟨bl, off, none⟩) xs.length cap)), (Is (.int .i64 (q : Int))), (Is (.slice (some ⟨bl, off, none⟩) q cap)), (fun _ _ _ => True), (Is (.int .i64 v)), (OneI v), (fun _ _ _ => True), (Is (.slice (some ⟨bl, off, none⟩) xs.length cap)), (Is (.int .i64 (q : Int))), (Is (.slice (if cap = q then some ⟨bl, off, none⟩ else some ⟨bl, off + q, none⟩) (xs.length - q) (cap - q))), (fun _ _ _ => True), (fun _ _ _ => True)] [[], [], [0, 1], [2], [], [4], [3, 5], [], [], [7, 8], [6, 9], [10]] [3, 6, 10, 11] [3, 6, 10, 11] rfl (by kernel_rfl) (fun u => by (simp only [calmPut, Act.put, List.setIfInBounds_toArray, List.set_cons_zero, List.set_cons_succ, Nat.zero_add, Nat.reduceAdd]; rfl)) ?_ (calmKeep_cons keep_is' (calmKeep_cons keep_is' (calmKeep_cons keep_is' (calmKeep_cons keep_triv (calmKeep_cons keep_is' (calmKeep_cons keep_oneI (calmKeep_cons keep_triv (calmKeep_cons keep_is' (calmKeep_cons keep_is' (calmKeep_cons keep_is' (calmKeep_cons keep_triv (calmKeep_cons keep_triv (calmKeep_nil))))))))))))) ?_ ?_
      · skip
        exact ⟨KR.drew, fun h => absurd h (by decide), fun h => absurd h (by decide), fun h => absurd h (by decide), fun h => absurd h (by decide)⟩
      · skip
        refine calmSteps_cons (fun u wq n hn hn2 hC hk K hK => ?_) ?_
        · obtain ⟨hP, h1, h2, h3, h4⟩ := hC
          clear hk
          go_simp
          exact hK _ _ _ rfl ⟨hP, h1, h2, h3, h4⟩ (fun _ h => h) rfl
        refine calmSteps_cons (fun u wq n hn hn2 hC hk K hK => ?_) ?_
        · obtain ⟨hP, h1, h2, h3, h4⟩ := hC
          clear hk
          go_simp
          exact hK _ _ _ rfl ⟨hP, h1, h2, h3, h4⟩ (fun _ h => h) rfl
        refine calmSteps_cons (fun u wq n hn hn2 hC hk K hK => ?_) ?_
        · obtain ⟨hP, h1, h2, h3, h4⟩ := hC
          simp only [calmKnown, List.getElem?_cons_zero, List.getElem?_cons_succ, and_true, Is, Pure, Option.some.injEq, List.getD_cons_zero, List.getD_cons_succ, List.map_cons, List.map_nil] at hk
          obtain ⟨h0, h1⟩ := hk
          simp only [h0, h1] at hK ⊢
          have H0 := Lib.hid h0; clear h0; have H1 := Lib.hid h1; clear h1
          go_simp
          exact hK _ _ _ rfl ⟨hP, h1, h2, h3, h4⟩ (fun _ h => h) rfl
        refine calmSteps_cons (fun u wq n hn hn2 hC hk K hK => ?_) ?_
        · obtain ⟨hP, h1, h2, h3, h4⟩ := hC
          simp only [calmKnown, List.getElem?_cons_zero, List.getElem?_cons_succ, and_true, Is, Pure, Option.some.injEq, List.getD_cons_zero, List.getD_cons_succ, List.map_cons, List.map_nil] at hk
          have h2 := hk; clear hk
          simp only [h2] at hK ⊢
          have H2 := Lib.hid h2; clear h2
          obtain rfl := hn 0 rfl
          refine calm_opI (by rfl) ?_
          refine wp_append_exact _ _ 22 rfl w.heap.size 3 i0 (.int .i64 0) 1 8 Try.underlying22 hif hz0 hz1 hz2 rfl (by decide) (.slice none 0 0) 0 [] rfl (World.ownsRow_nil _ _ _ _) (some ⟨bl, off, none⟩) q cap (cellsI (xs.take q)) rfl (by simp [cellsI]; omega) (fun _ => ⟨_, rfl, src_take (HSRC.out _ hP)⟩) cellsI_one (by unfold maxLen; omega) (by omega) hP.size ?_
          intro A' c' w' hown hgr hzz
          rw [Nat.zero_add] at hown hzz ⊢
          rw [List.nil_append] at hown
          exact hK _ _ _ rfl ⟨below_app hP (World.ownsRow_nil _ _ _ _) hgr, fun _ => ⟨A', c', rfl, hzz, hown⟩, fun h => absurd h (by decide), fun h => absurd h (by decide), fun h => absurd h (by decide)⟩ (keep_app (World.ownsRow_nil wq w.heap.size _ _) (fun _ => rfl) hgr) trivial
        refine calmSteps_cons (fun u wq n hn hn2 hC hk K hK => ?_) ?_
        · obtain ⟨hP, h1, h2, h3, h4⟩ := hC
          clear hk
          go_simp
          exact hK _ _ _ rfl ⟨hP, h1, h2, h3, h4⟩ (fun _ h => h) rfl
        refine calmSteps_cons (fun u wq n hn hn2 hC hk K hK => ?_) ?_
        · obtain ⟨hP, h1, h2, h3, h4⟩ := hC
          simp only [calmKnown, List.getElem?_cons_zero, List.getElem?_cons_succ, and_true, Is, Pure, Option.some.injEq, List.getD_cons_zero, List.getD_cons_succ, List.map_cons, List.map_nil] at hk
          have h4 := hk; clear hk
          simp only [h4] at hK ⊢
          have H4 := Lib.hid h4; clear h4
          have hn1 : n ≤ 1 := hn2 1 6 rfl (by kernel_rfl)
          have k2 : n = 2 → False := fun h => by omega
          have k3 : n = 3 → False := fun h => by omega
          have k4 : n = 4 → False := fun h => by omega
          go_simp
          exact hK _ _ _ rfl ⟨hP.alloc hP.size _, fun h => by obtain ⟨A', c', e1, e2, e3⟩ := h1 h; exact ⟨A', c', e1, e2, e3.alloc _⟩, fun h => (k2 h).elim, fun h => (k3 h).elim, fun h => (k4 h).elim⟩ (fun _ h => h.alloc _) ⟨wq.heap.size, rfl, Blk.new _ _ _⟩
        refine calmSteps_cons (fun u wq n hn hn2 hC hk K hK => ?_) ?_
        · obtain ⟨hP, h1, h2, h3, h4⟩ := hC
          simp only [calmKnown, List.getElem?_cons_zero, List.getElem?_cons_succ, and_true, Is, Pure, Option.some.injEq, List.getD_cons_zero, List.getD_cons_succ, List.map_cons, List.map_nil] at hk
          obtain ⟨_p, ⟨g, h5, hgB⟩⟩ := hk
          simp only [h5] at hK ⊢
          have H5 := Lib.hid h5; clear h5
          obtain rfl := hn 1 rfl
          obtain ⟨A1, c1, e1, e2, e3⟩ := h1 rfl
          have e1 : u 3 = .slice A1 q c1 := Option.some.inj (show some (u 3) = _ from e1)
          simp only [e1] at hK ⊢
          have E1 := Lib.hid e1; clear e1
          refine calm_opI (by rfl) ?_
          refine wp_append_exact _ _ 22 rfl w.heap.size 3 i0 (.int .i64 0) 1 8 Try.underlying22 hif hz0 hz1 hz2 rfl (by decide) (.slice A1 q c1) q (cellsI (xs.take q)) rfl e3 (some ⟨g, 0, none⟩) 1 1 [.int .i64 v] rfl rfl (fun _ => ⟨_, rfl, World.news_of_block (t := 3) (fr := (0, 0)) hgB⟩) (by simp [Value.oneCell']) (by unfold maxLen; omega) (by omega) hP.size ?_
          intro A' c' w' hown hgr _
          exact hK _ _ _ rfl ⟨below_app hP e3 hgr, fun h => absurd h (by decide), fun _ => ⟨A', c', rfl, hown⟩, fun h => absurd h (by decide), fun h => absurd h (by decide)⟩ (keep_app e3 e2 hgr) trivial
        refine calmSteps_cons (fun u wq n hn hn2 hC hk K hK => ?_) ?_
        · obtain ⟨hP, h1, h2, h3, h4⟩ := hC
          clear hk
          go_simp
          exact hK _ _ _ rfl ⟨hP, h1, h2, h3, h4⟩ (fun _ h => h) rfl
        refine calmSteps_cons (fun u wq n hn hn2 hC hk K hK => ?_) ?_
        · obtain ⟨hP, h1, h2, h3, h4⟩ := hC
          clear hk
          go_simp
          exact hK _ _ _ rfl ⟨hP, h1, h2, h3, h4⟩ (fun _ h => h) rfl
        refine calmSteps_cons (fun u wq n hn hn2 hC hk K hK => ?_) ?_
        · obtain ⟨hP, h1, h2, h3, h4⟩ := hC
          simp only [calmKnown, List.getElem?_cons_zero, List.getElem?_cons_succ, and_true, Is, Pure, Option.some.injEq, List.getD_cons_zero, List.getD_cons_succ, List.map_cons, List.map_nil] at hk
          obtain ⟨h7, h8⟩ := hk
          simp only [h7, h8] at hK ⊢
          have H7 := Lib.hid h7; clear h7; have H8 := Lib.hid h8; clear h8
          go_simp
          exact hK _ _ _ rfl ⟨hP, h1, h2, h3, h4⟩ (fun _ h => h) rfl
        refine calmSteps_cons (fun u wq n hn hn2 hC hk K hK => ?_) ?_
        · obtain ⟨hP, h1, h2, h3, h4⟩ := hC
          simp only [calmKnown, List.getElem?_cons_zero, List.getElem?_cons_succ, and_true, Is, Pure, Option.some.injEq, List.getD_cons_zero, List.getD_cons_succ, List.map_cons, List.map_nil] at hk
          obtain ⟨_p, h9⟩ := hk
          simp only [h9] at hK ⊢
          have H9 := Lib.hid h9; clear h9
          obtain rfl := hn 2 rfl
          obtain ⟨A1, c1, e1, e3⟩ := h2 rfl
          have e1 : u 6 = .slice A1 (q + 1) c1 := Option.some.inj (show some (u 6) = _ from e1)
          simp only [e1] at hK ⊢
          have E1 := Lib.hid e1; clear e1
          refine calm_opI (by rfl) ?_
          refine wp_append_exact _ _ 22 rfl w.heap.size 3 i0 (.int .i64 0) 1 8 Try.underlying22 hif hz0 hz1 hz2 rfl (by decide) (.slice A1 (q + 1) c1) (q + 1) (cellsI (xs.take q) ++ [.int .i64 v]) rfl e3 (if cap = q then some ⟨bl, off, none⟩ else some ⟨bl, off + q, none⟩) (xs.length - q) (cap - q) (cellsI (xs.drop q)) rfl (by simp [cellsI]) (fun hp => ⟨_, if_neg (by omega), src_drop (HSRC.out _ hP)⟩) cellsI_one (by unfold maxLen; omega) (by omega) hP.size ?_
          intro A' c' w' hown hgr _
          exact hK _ _ _ rfl ⟨below_app hP e3 hgr, fun h => absurd h (by decide), fun h => absurd h (by decide), fun _ => ⟨A', c', rfl, hown⟩, fun h => absurd h (by decide)⟩ (keep_app e3 (fun h => by omega) hgr) trivial
        refine calmSteps_cons (fun u wq n hn hn2 hC hk K hK => ?_) ?_
        · obtain ⟨hP, h1, h2, h3, h4⟩ := hC
          simp only [calmKnown, List.getElem?_cons_zero, List.getElem?_cons_succ, and_true, Is, Pure, Option.some.injEq, List.getD_cons_zero, List.getD_cons_succ, List.map_cons, List.map_nil] at hk
          have _p := hk; clear hk
          obtain rfl := hn 3 rfl
          obtain ⟨A1, c1, e1, e3⟩ := h3 rfl
          have e1 : u 10 = .slice A1 (q + 1 + (xs.length - q)) c1 := Option.some.inj (show some (u 10) = _ from e1)
          simp only [e1] at hK ⊢
          have E1 := Lib.hid e1; clear e1
          go_simp
          exact hK _ _ _ rfl ⟨hP, fun h => absurd h (by decide), fun h => absurd h (by decide), fun h => absurd h (by decide), fun _ => ⟨A1, c1, rfl, e3⟩⟩ (fun _ h => h) trivial
        exact calmSteps_nil
      · intro u w9 hC hF
        obtain ⟨hP, -, -, -, h4⟩ := hC
        obtain ⟨A9, c9, e1, e3⟩ := h4 (by decide)
        have e1 : u 11 = .slice A9 (q + 1 + (xs.length - q)) c9 := Option.some.inj (show some (u 11) = _ from e1)
        simp only [e1]
        clear e1 hF
        have hyl : (xs.take q ++ v :: xs.drop q).length = q + 1 + (xs.length - q) := by simp; omega
        have hrow : RowI w9 w.heap.size A9 c9 (xs.take q ++ v :: xs.drop q) := by
          unfold RowI
          rw [hyl, show cellsI (xs.take q ++ v :: xs.drop q) = (cellsI (xs.take q) ++ [.int .i64 v]) ++ cellsI (xs.drop q) from by simp [cellsI]]
          exact e3
        have hnm := nums_of_row hrow (by omega) (by omega)
        have HNM := Lib.hid hnm; have HYL := Lib.hid hyl; clear hnm hyl hrow e3
        go_wp2
        go_ret
        exact ⟨A9, c9, _, by rw [HYL.out]; rfl, HNM.out, HPUT.out, hP⟩
    · have gk : decide ((q : Int) < (xs.length : Int)) = false := decide_eq_false (by omega)
      by_cases h0 : 0 < xs.length
      · obtain ⟨bl, off, rfl, hb, hcs⟩ := H.out.2.2.2.2 h0
        have HCS := Lib.hid hcs; clear hcs
        have hbW : bl < wr.heap.size := by omega
        have hput := put_at (k := q) HA.out (by omega) HS.out (fun h => by omega)
        have HPUT := Lib.hid hput; clear hput
        have HSRC := Lib.hid (fun W (hW : Below w.heap.size w W) j (hj : j < xs.length) => (hW.cell (p := ⟨bl, off + j, none⟩) hb).trans (HCS.out j hj))
        have q2 : q ≤ xs.length := by omega
        go_upto_region 6 with fail
        have hcq : q ≤ cap := by omega
        obtain ⟨i0, hif, hz0, hz1, hz2⟩ := info_parts infoTI
        go_wp2_with fail
        refine' wp_region_calmS (by kernel_rfl) (fun n us w' => Below w.heap.size w w' ∧ (n = 1 → ∃ A' c', us[0]? = some (.slice A' q c') ∧ ZN q (.slice A' q c') ∧ w'.ownsRow w.heap.size 3 1 (.slice A' q c') q (cellsI (xs.take q))) ∧ (n = 2 → ∃ A' c', us[1]? = some (.slice A' (q + 1) c') ∧ w'.ownsRow w.heap.size 3 1 (.slice A' (q + 1) c') (q + 1) (cellsI (xs.take q) ++ [.int .i64 v])) ∧ (n = 3 → ∃ A' c', us[2]? = some (.slice A' (q + 1 + (xs.length - q)) c') ∧ w'.ownsRow w.heap.size 3 1 (.slice A' (q + 1 + (xs.length - q)) c') (q + 1 + (xs.length - q)) ((cellsI (xs.take q) ++ [.int .i64 v]) ++ cellsI (xs.drop q))) ∧ (n = 4 → ∃ A' c', us[3]? = some (.slice A' (q + 1 + (xs.length - q)) c') ∧ w'.ownsRow w.heap.size 3 1 (.slice A' (q + 1 + (xs.length - q)) c') (q + 1 + (xs.length - q)) ((cellsI (xs.take q) ++ [.int .i64 v]) ++ cellsI (xs.drop q)))) (KeepI v) [(Is (.slice (some ⟨bl, off, none⟩) xs.length cap)), (Is (.int .i64 (q : Int))), (Is (.slice (some ⟨bl, off, none⟩) q cap)), (fun _ _ _ => True), (Is (.int .i64 v)), (OneI v), (fun _ _ _ => True), (Is (.slice (some ⟨bl, off, none⟩) xs.length cap)), (Is (.int .i64 (q : Int))), (Is (.slice (if cap = q then some ⟨bl, off, none⟩ else some ⟨bl, off + q, none⟩) (xs.length - q) (cap - q))), (fun _ _ _ => True), (fun _ _ _ => True)] [[], [], [0, 1], [2], [], [4], [3, 5], [], [], [7, 8], [6, 9], [10]] [3, 6, 10, 11] [3, 6, 10, 11] rfl (by kernel_rfl) (fun u => by (simp only [calmPut, Act.put, List.setIfInBounds_toArray, List.set_cons_zero, List.set_cons_succ, Nat.zero_add, Nat.reduceAdd]; rfl)) ?_ (calmKeep_cons keep_is' (calmKeep_cons keep_is' (calmKeep_cons keep_is' (calmKeep_cons keep_triv (calmKeep_cons keep_is' (calmKeep_cons keep_oneI (calmKeep_cons keep_triv (calmKeep_cons keep_is' (calmKeep_cons keep_is' (calmKeep_cons keep_is' (calmKeep_cons keep_triv (calmKeep_cons keep_triv (calmKeep_nil))))))))))))) ?_ ?_
        · skip
          exact ⟨KR.drew, fun h => absurd h (by decide), fun h => absurd h (by decide), fun h => absurd h (by decide), fun h => absurd h (by decide)⟩
        · skip
          refine calmSteps_cons (fun u wq n hn hn2 hC hk K hK => ?_) ?_
          · obtain ⟨hP, h1, h2, h3, h4⟩ := hC
            clear hk
            go_simp
            exact hK _ _ _ rfl ⟨hP, h1, h2, h3, h4⟩ (fun _ h => h) rfl
          refine calmSteps_cons (fun u wq n hn hn2 hC hk K hK => ?_) ?_
          · obtain ⟨hP, h1, h2, h3, h4⟩ := hC
            clear hk
            go_simp
            exact hK _ _ _ rfl ⟨hP, h1, h2, h3, h4⟩ (fun _ h => h) rfl
          refine calmSteps_cons (fun u wq n hn hn2 hC hk K hK => ?_) ?_
          · obtain ⟨hP, h1, h2, h3, h4⟩ := hC
            simp only [calmKnown, List.getElem?_cons_zero, List.getElem?_cons_succ, and_true, Is, Pure, Option.some.injEq, List.getD_cons_zero, List.getD_cons_succ, List.map_cons, List.map_nil] at hk
            obtain ⟨h0, h1⟩ := hk
            simp only [h0, h1] at hK ⊢
            have H0 := Lib.hid h0; clear h0; have H1 := Lib.hid h1; clear h1
            go_simp
            exact hK _ _ _ rfl ⟨hP, h1, h2, h3, h4⟩ (fun _ h => h) rfl
          refine calmSteps_cons (fun u wq n hn hn2 hC hk K hK => ?_) ?_
          · obtain ⟨hP, h1, h2, h3, h4⟩ := hC
            simp only [calmKnown, List.getElem?_cons_zero, List.getElem?_cons_succ, and_true, Is, Pure, Option.some.injEq, List.getD_cons_zero, List.getD_cons_succ, List.map_cons, List.map_nil] at hk
            have h2 := hk; clear hk
            simp only [h2] at hK ⊢
            have H2 := Lib.hid h2; clear h2
            obtain rfl := hn 0 rfl
            refine calm_opI (by rfl) ?_
            refine wp_append_exact _ _ 22 rfl w.heap.size 3 i0 (.int .i64 0) 1 8 Try.underlying22 hif hz0 hz1 hz2 rfl (by decide) (.slice none 0 0) 0 [] rfl (World.ownsRow_nil _ _ _ _) (some ⟨bl, off, none⟩) q cap (cellsI (xs.take q)) rfl (by simp [cellsI]; omega) (fun _ => ⟨_, rfl, src_take (HSRC.out _ hP)⟩) cellsI_one (by unfold maxLen; omega) (by omega) hP.size ?_
            intro A' c' w' hown hgr hzz
            rw [Nat.zero_add] at hown hzz ⊢
            rw [List.nil_append] at hown
            exact hK _ _ _ rfl ⟨below_app hP (World.ownsRow_nil _ _ _ _) hgr, fun _ => ⟨A', c', rfl, hzz, hown⟩, fun h => absurd h (by decide), fun h => absurd h (by decide), fun h => absurd h (by decide)⟩ (keep_app (World.ownsRow_nil wq w.heap.size _ _) (fun _ => rfl) hgr) trivial
          refine calmSteps_cons (fun u wq n hn hn2 hC hk K hK => ?_) ?_
          · obtain ⟨hP, h1, h2, h3, h4⟩ := hC
            clear hk
            go_simp
            exact hK _ _ _ rfl ⟨hP, h1, h2, h3, h4⟩ (fun _ h => h) rfl
          refine calmSteps_cons (fun u wq n hn hn2 hC hk K hK => ?_) ?_
          · obtain ⟨hP, h1, h2, h3, h4⟩ := hC
            simp only [calmKnown, List.getElem?_cons_zero, List.getElem?_cons_succ, and_true, Is, Pure, Option.some.injEq, List.getD_cons_zero, List.getD_cons_succ, List.map_cons, List.map_nil] at hk
            have h4 := hk; clear hk
            simp only [h4] at hK ⊢
            have H4 := Lib.hid h4; clear h4
            have hn1 : n ≤ 1 := hn2 1 6 rfl (by kernel_rfl)
            have k2 : n = 2 → False := fun h => by omega
            have k3 : n = 3 → False := fun h => by omega
            have k4 : n = 4 → False := fun h => by omega
            go_simp
            exact hK _ _ _ rfl ⟨hP.alloc hP.size _, fun h => by obtain ⟨A', c', e1, e2, e3⟩ := h1 h; exact ⟨A', c', e1, e2, e3.alloc _⟩, fun h => (k2 h).elim, fun h => (k3 h).elim, fun h => (k4 h).elim⟩ (fun _ h => h.alloc _) ⟨wq.heap.size, rfl, Blk.new _ _ _⟩
          refine calmSteps_cons (fun u wq n hn hn2 hC hk K hK => ?_) ?_
          · obtain ⟨hP, h1, h2, h3, h4⟩ := hC
            simp only [calmKnown, List.getElem?_cons_zero, List.getElem?_cons_succ, and_true, Is, Pure, Option.some.injEq, List.getD_cons_zero, List.getD_cons_succ, List.map_cons, List.map_nil] at hk
            obtain ⟨_p, ⟨g, h5, hgB⟩⟩ := hk
            simp only [h5] at hK ⊢
            have H5 := Lib.hid h5; clear h5
            obtain rfl := hn 1 rfl
            obtain ⟨A1, c1, e1, e2, e3⟩ := h1 rfl
            have e1 : u 3 = .slice A1 q c1 := Option.some.inj (show some (u 3) = _ from e1)
            simp only [e1] at hK ⊢
            have E1 := Lib.hid e1; clear e1
            refine calm_opI (by rfl) ?_
            refine wp_append_exact _ _ 22 rfl w.heap.size 3 i0 (.int .i64 0) 1 8 Try.underlying22 hif hz0 hz1 hz2 rfl (by decide) (.slice A1 q c1) q (cellsI (xs.take q)) rfl e3 (some ⟨g, 0, none⟩) 1 1 [.int .i64 v] rfl rfl (fun _ => ⟨_, rfl, World.news_of_block (t := 3) (fr := (0, 0)) hgB⟩) (by simp [Value.oneCell']) (by unfold maxLen; omega) (by omega) hP.size ?_
            intro A' c' w' hown hgr _
            exact hK _ _ _ rfl ⟨below_app hP e3 hgr, fun h => absurd h (by decide), fun _ => ⟨A', c', rfl, hown⟩, fun h => absurd h (by decide), fun h => absurd h (by decide)⟩ (keep_app e3 e2 hgr) trivial
          refine calmSteps_cons (fun u wq n hn hn2 hC hk K hK => ?_) ?_
          · obtain ⟨hP, h1, h2, h3, h4⟩ := hC
            clear hk
            go_simp
            exact hK _ _ _ rfl ⟨hP, h1, h2, h3, h4⟩ (fun _ h => h) rfl
          refine calmSteps_cons (fun u wq n hn hn2 hC hk K hK => ?_) ?_
          · obtain ⟨hP, h1, h2, h3, h4⟩ := hC
            clear hk
            go_simp
            exact hK _ _ _ rfl ⟨hP, h1, h2, h3, h4⟩ (fun _ h => h) rfl
          refine calmSteps_cons (fun u wq n hn hn2 hC hk K hK => ?_) ?_
          · obtain ⟨hP, h1, h2, h3, h4⟩ := hC
            simp only [calmKnown, List.getElem?_cons_zero, List.getElem?_cons_succ, and_true, Is, Pure, Option.some.injEq, List.getD_cons_zero, List.getD_cons_succ, List.map_cons, List.map_nil] at hk
            obtain ⟨h7, h8⟩ := hk
            simp only [h7, h8] at hK ⊢
            have H7 := Lib.hid h7; clear h7; have H8 := Lib.hid h8; clear h8
            go_simp
            exact hK _ _ _ rfl ⟨hP, h1, h2, h3, h4⟩ (fun _ h => h) rfl
          refine calmSteps_cons (fun u wq n hn hn2 hC hk K hK => ?_) ?_
          · obtain ⟨hP, h1, h2, h3, h4⟩ := hC
            simp only [calmKnown, List.getElem?_cons_zero, List.getElem?_cons_succ, and_true, Is, Pure, Option.some.injEq, List.getD_cons_zero, List.getD_cons_succ, List.map_cons, List.map_nil] at hk
            obtain ⟨_p, h9⟩ := hk
            simp only [h9] at hK ⊢
            have H9 := Lib.hid h9; clear h9
            obtain rfl := hn 2 rfl
            obtain ⟨A1, c1, e1, e3⟩ := h2 rfl
            have e1 : u 6 = .slice A1 (q + 1) c1 := Option.some.inj (show some (u 6) = _ from e1)
            simp only [e1] at hK ⊢
            have E1 := Lib.hid e1; clear e1
            refine calm_opI (by rfl) ?_
            refine wp_append_exact _ _ 22 rfl w.heap.size 3 i0 (.int .i64 0) 1 8 Try.underlying22 hif hz0 hz1 hz2 rfl (by decide) (.slice A1 (q + 1) c1) (q + 1) (cellsI (xs.take q) ++ [.int .i64 v]) rfl e3 (if cap = q then some ⟨bl, off, none⟩ else some ⟨bl, off + q, none⟩) (xs.length - q) (cap - q) (cellsI (xs.drop q)) rfl (by simp [cellsI]) (fun hp => ⟨_, if_neg (by omega), src_drop (HSRC.out _ hP)⟩) cellsI_one (by unfold maxLen; omega) (by omega) hP.size ?_
            intro A' c' w' hown hgr _
            exact hK _ _ _ rfl ⟨below_app hP e3 hgr, fun h => absurd h (by decide), fun h => absurd h (by decide), fun _ => ⟨A', c', rfl, hown⟩, fun h => absurd h (by decide)⟩ (keep_app e3 (fun h => by omega) hgr) trivial
          refine calmSteps_cons (fun u wq n hn hn2 hC hk K hK => ?_) ?_
          · obtain ⟨hP, h1, h2, h3, h4⟩ := hC
            simp only [calmKnown, List.getElem?_cons_zero, List.getElem?_cons_succ, and_true, Is, Pure, Option.some.injEq, List.getD_cons_zero, List.getD_cons_succ, List.map_cons, List.map_nil] at hk
            have _p := hk; clear hk
            obtain rfl := hn 3 rfl
            obtain ⟨A1, c1, e1, e3⟩ := h3 rfl
            have e1 : u 10 = .slice A1 (q + 1 + (xs.length - q)) c1 := Option.some.inj (show some (u 10) = _ from e1)
            simp only [e1] at hK ⊢
            have E1 := Lib.hid e1; clear e1
            go_simp
            exact hK _ _ _ rfl ⟨hP, fun h => absurd h (by decide), fun h => absurd h (by decide), fun h => absurd h (by decide), fun _ => ⟨A1, c1, rfl, e3⟩⟩ (fun _ h => h) trivial
          exact calmSteps_nil
        · intro u w9 hC hF
          obtain ⟨hP, -, -, -, h4⟩ := hC
          obtain ⟨A9, c9, e1, e3⟩ := h4 (by decide)
          have e1 : u 11 = .slice A9 (q + 1 + (xs.length - q)) c9 := Option.some.inj (show some (u 11) = _ from e1)
          simp only [e1]
          clear e1 hF
          have hyl : (xs.take q ++ v :: xs.drop q).length = q + 1 + (xs.length - q) := by simp; omega
          have hrow : RowI w9 w.heap.size A9 c9 (xs.take q ++ v :: xs.drop q) := by
            unfold RowI
            rw [hyl, show cellsI (xs.take q ++ v :: xs.drop q) = (cellsI (xs.take q) ++ [.int .i64 v]) ++ cellsI (xs.drop q) from by simp [cellsI]]
            exact e3
          have hnm := nums_of_row hrow (by omega) (by omega)
          have HNM := Lib.hid hnm; have HYL := Lib.hid hyl; clear hnm hyl hrow e3
          go_wp2
          go_ret
          exact ⟨A9, c9, _, by rw [HYL.out]; rfl, HNM.out, HPUT.out, hP⟩
      · have hx : xs = [] := List.length_eq_zero_iff.1 (by omega)
        obtain ⟨hA, hc⟩ := H.out.2.2.2.1 (by omega)
        subst hA; subst hc; subst hx
        obtain rfl : q = 0 := by simpa using hq
        have hput := put_at (xs := []) (k := 0) HA.out (by simp) (fun j hj => by omega) (fun h => by simp at h) (v := v)
        have HPUT := Lib.hid hput; clear hput
        simp only [List.length_nil] at *
        go_upto_region 6 with fail
        obtain ⟨i0, hif, hz0, hz1, hz2⟩ := info_parts infoTI
        go_wp2_with fail
        refine' wp_region_calmS (by kernel_rfl) (fun n us w' => Below w.heap.size w w' ∧ (n = 1 → ∃ A' c', us[0]? = some (.slice A' 0 c') ∧ ZN 0 (.slice A' 0 c') ∧ w'.ownsRow w.heap.size 3 1 (.slice A' 0 c') 0 (([] : List Value))) ∧ (n = 2 → ∃ A' c', us[1]? = some (.slice A' (0 + 1) c') ∧ w'.ownsRow w.heap.size 3 1 (.slice A' (0 + 1) c') (0 + 1) (([] : List Value) ++ [.int .i64 v])) ∧ (n = 3 → ∃ A' c', us[2]? = some (.slice A' (0 + 1 + (0 - 0)) c') ∧ w'.ownsRow w.heap.size 3 1 (.slice A' (0 + 1 + (0 - 0)) c') (0 + 1 + (0 - 0)) ((([] : List Value) ++ [.int .i64 v]) ++ ([] : List Value))) ∧ (n = 4 → ∃ A' c', us[3]? = some (.slice A' (0 + 1 + (0 - 0)) c') ∧ w'.ownsRow w.heap.size 3 1 (.slice A' (0 + 1 + (0 - 0)) c') (0 + 1 + (0 - 0)) ((([] : List Value) ++ [.int .i64 v]) ++ ([] : List Value)))) (KeepI v) [(Is (.slice none 0 0)), (Is (.int .i64 0)), (Is (.slice none 0 0)), (fun _ _ _ => True), (Is (.int .i64 v)), (OneI v), (fun _ _ _ => True), (Is (.slice none 0 0)), (Is (.int .i64 0)), (Is (.slice none (0 - 0) (0 - 0))), (fun _ _ _ => True), (fun _ _ _ => True)] [[], [], [0, 1], [2], [], [4], [3, 5], [], [], [7, 8], [6, 9], [10]] [3, 6, 10, 11] [3, 6, 10, 11] rfl (by kernel_rfl) (fun u => by (simp only [calmPut, Act.put, List.setIfInBounds_toArray, List.set_cons_zero, List.set_cons_succ, Nat.zero_add, Nat.reduceAdd]; rfl)) ?_ (calmKeep_cons keep_is' (calmKeep_cons keep_is' (calmKeep_cons keep_is' (calmKeep_cons keep_triv (calmKeep_cons keep_is' (calmKeep_cons keep_oneI (calmKeep_cons keep_triv (calmKeep_cons keep_is' (calmKeep_cons keep_is' (calmKeep_cons keep_is' (calmKeep_cons keep_triv (calmKeep_cons keep_triv (calmKeep_nil))))))))))))) ?_ ?_
        · skip
          exact ⟨KR.drew, fun h => absurd h (by decide), fun h => absurd h (by decide), fun h => absurd h (by decide), fun h => absurd h (by decide)⟩
        · skip
          refine calmSteps_cons (fun u wq n hn hn2 hC hk K hK => ?_) ?_
          · obtain ⟨hP, h1, h2, h3, h4⟩ := hC
            clear hk
            go_simp
            exact hK _ _ _ rfl ⟨hP, h1, h2, h3, h4⟩ (fun _ h => h) rfl
          refine calmSteps_cons (fun u wq n hn hn2 hC hk K hK => ?_) ?_
          · obtain ⟨hP, h1, h2, h3, h4⟩ := hC
            clear hk
            go_simp
            exact hK _ _ _ rfl ⟨hP, h1, h2, h3, h4⟩ (fun _ h => h) rfl
          refine calmSteps_cons (fun u wq n hn hn2 hC hk K hK => ?_) ?_
          · obtain ⟨hP, h1, h2, h3, h4⟩ := hC
            simp only [calmKnown, List.getElem?_cons_zero, List.getElem?_cons_succ, and_true, Is, Pure, Option.some.injEq, List.getD_cons_zero, List.getD_cons_succ, List.map_cons, List.map_nil] at hk
            obtain ⟨h0, h1⟩ := hk
            simp only [h0, h1] at hK ⊢
            have H0 := Lib.hid h0; clear h0; have H1 := Lib.hid h1; clear h1
            go_simp
            exact hK _ _ _ rfl ⟨hP, h1, h2, h3, h4⟩ (fun _ h => h) rfl
          refine calmSteps_cons (fun u wq n hn hn2 hC hk K hK => ?_) ?_
          · obtain ⟨hP, h1, h2, h3, h4⟩ := hC
            simp only [calmKnown, List.getElem?_cons_zero, List.getElem?_cons_succ, and_true, Is, Pure, Option.some.injEq, List.getD_cons_zero, List.getD_cons_succ, List.map_cons, List.map_nil] at hk
            have h2 := hk; clear hk
            simp only [h2] at hK ⊢
            have H2 := Lib.hid h2; clear h2
            obtain rfl := hn 0 rfl
            refine calm_opI (by rfl) ?_
            refine wp_append_exact _ _ 22 rfl w.heap.size 3 i0 (.int .i64 0) 1 8 Try.underlying22 hif hz0 hz1 hz2 rfl (by decide) (.slice none 0 0) 0 [] rfl (World.ownsRow_nil _ _ _ _) none 0 0 (([] : List Value)) rfl (by simp) (fun h => absurd h (by decide)) (by simp) (by unfold maxLen; omega) (by omega) hP.size ?_
            intro A' c' w' hown hgr hzz
            rw [Nat.zero_add] at hown hzz ⊢
            rw [List.nil_append] at hown
            exact hK _ _ _ rfl ⟨below_app hP (World.ownsRow_nil _ _ _ _) hgr, fun _ => ⟨A', c', rfl, hzz, hown⟩, fun h => absurd h (by decide), fun h => absurd h (by decide), fun h => absurd h (by decide)⟩ (keep_app (World.ownsRow_nil wq w.heap.size _ _) (fun _ => rfl) hgr) trivial
          refine calmSteps_cons (fun u wq n hn hn2 hC hk K hK => ?_) ?_
          · obtain ⟨hP, h1, h2, h3, h4⟩ := hC
            clear hk
            go_simp
            exact hK _ _ _ rfl ⟨hP, h1, h2, h3, h4⟩ (fun _ h => h) rfl
          refine calmSteps_cons (fun u wq n hn hn2 hC hk K hK => ?_) ?_
          · obtain ⟨hP, h1, h2, h3, h4⟩ := hC
            simp only [calmKnown, List.getElem?_cons_zero, List.getElem?_cons_succ, and_true, Is, Pure, Option.some.injEq, List.getD_cons_zero, List.getD_cons_succ, List.map_cons, List.map_nil] at hk
            have h4 := hk; clear hk
            simp only [h4] at hK ⊢
            have H4 := Lib.hid h4; clear h4
            have hn1 : n ≤ 1 := hn2 1 6 rfl (by kernel_rfl)
            have k2 : n = 2 → False := fun h => by omega
            have k3 : n = 3 → False := fun h => by omega
            have k4 : n = 4 → False := fun h => by omega
            go_simp
            exact hK _ _ _ rfl ⟨hP.alloc hP.size _, fun h => by obtain ⟨A', c', e1, e2, e3⟩ := h1 h; exact ⟨A', c', e1, e2, e3.alloc _⟩, fun h => (k2 h).elim, fun h => (k3 h).elim, fun h => (k4 h).elim⟩ (fun _ h => h.alloc _) ⟨wq.heap.size, rfl, Blk.new _ _ _⟩
          refine calmSteps_cons (fun u wq n hn hn2 hC hk K hK => ?_) ?_
          · obtain ⟨hP, h1, h2, h3, h4⟩ := hC
            simp only [calmKnown, List.getElem?_cons_zero, List.getElem?_cons_succ, and_true, Is, Pure, Option.some.injEq, List.getD_cons_zero, List.getD_cons_succ, List.map_cons, List.map_nil] at hk
            obtain ⟨_p, ⟨g, h5, hgB⟩⟩ := hk
            simp only [h5] at hK ⊢
            have H5 := Lib.hid h5; clear h5
            obtain rfl := hn 1 rfl
            obtain ⟨A1, c1, e1, e2, e3⟩ := h1 rfl
            have e1 : u 3 = .slice A1 0 c1 := Option.some.inj (show some (u 3) = _ from e1)
            simp only [e1] at hK ⊢
            have E1 := Lib.hid e1; clear e1
            refine calm_opI (by rfl) ?_
            refine wp_append_exact _ _ 22 rfl w.heap.size 3 i0 (.int .i64 0) 1 8 Try.underlying22 hif hz0 hz1 hz2 rfl (by decide) (.slice A1 0 c1) 0 (([] : List Value)) rfl e3 (some ⟨g, 0, none⟩) 1 1 [.int .i64 v] rfl rfl (fun _ => ⟨_, rfl, World.news_of_block (t := 3) (fr := (0, 0)) hgB⟩) (by simp [Value.oneCell']) (by unfold maxLen; omega) (by omega) hP.size ?_
            intro A' c' w' hown hgr _
            exact hK _ _ _ rfl ⟨below_app hP e3 hgr, fun h => absurd h (by decide), fun _ => ⟨A', c', rfl, hown⟩, fun h => absurd h (by decide), fun h => absurd h (by decide)⟩ (keep_app e3 e2 hgr) trivial
          refine calmSteps_cons (fun u wq n hn hn2 hC hk K hK => ?_) ?_
          · obtain ⟨hP, h1, h2, h3, h4⟩ := hC
            clear hk
            go_simp
            exact hK _ _ _ rfl ⟨hP, h1, h2, h3, h4⟩ (fun _ h => h) rfl
          refine calmSteps_cons (fun u wq n hn hn2 hC hk K hK => ?_) ?_
          · obtain ⟨hP, h1, h2, h3, h4⟩ := hC
            clear hk
            go_simp
            exact hK _ _ _ rfl ⟨hP, h1, h2, h3, h4⟩ (fun _ h => h) rfl
          refine calmSteps_cons (fun u wq n hn hn2 hC hk K hK => ?_) ?_
          · obtain ⟨hP, h1, h2, h3, h4⟩ := hC
            simp only [calmKnown, List.getElem?_cons_zero, List.getElem?_cons_succ, and_true, Is, Pure, Option.some.injEq, List.getD_cons_zero, List.getD_cons_succ, List.map_cons, List.map_nil] at hk
            obtain ⟨h7, h8⟩ := hk
            simp only [h7, h8] at hK ⊢
            have H7 := Lib.hid h7; clear h7; have H8 := Lib.hid h8; clear h8
            go_simp
            exact hK _ _ _ rfl ⟨hP, h1, h2, h3, h4⟩ (fun _ h => h) rfl
          refine calmSteps_cons (fun u wq n hn hn2 hC hk K hK => ?_) ?_
          · obtain ⟨hP, h1, h2, h3, h4⟩ := hC
            simp only [calmKnown, List.getElem?_cons_zero, List.getElem?_cons_succ, and_true, Is, Pure, Option.some.injEq, List.getD_cons_zero, List.getD_cons_succ, List.map_cons, List.map_nil] at hk
            obtain ⟨_p, h9⟩ := hk
            simp only [h9] at hK ⊢
            have H9 := Lib.hid h9; clear h9
            obtain rfl := hn 2 rfl
            obtain ⟨A1, c1, e1, e3⟩ := h2 rfl
            have e1 : u 6 = .slice A1 (0 + 1) c1 := Option.some.inj (show some (u 6) = _ from e1)
            simp only [e1] at hK ⊢
            have E1 := Lib.hid e1; clear e1
            refine calm_opI (by rfl) ?_
            refine wp_append_exact _ _ 22 rfl w.heap.size 3 i0 (.int .i64 0) 1 8 Try.underlying22 hif hz0 hz1 hz2 rfl (by decide) (.slice A1 (0 + 1) c1) (0 + 1) (([] : List Value) ++ [.int .i64 v]) rfl e3 none (0 - 0) (0 - 0) (([] : List Value)) rfl (by simp [cellsI]) (fun h => absurd h (by decide)) (by simp) (by unfold maxLen; omega) (by omega) hP.size ?_
            intro A' c' w' hown hgr _
            exact hK _ _ _ rfl ⟨below_app hP e3 hgr, fun h => absurd h (by decide), fun h => absurd h (by decide), fun _ => ⟨A', c', rfl, hown⟩, fun h => absurd h (by decide)⟩ (keep_app e3 (fun h => by omega) hgr) trivial
          refine calmSteps_cons (fun u wq n hn hn2 hC hk K hK => ?_) ?_
          · obtain ⟨hP, h1, h2, h3, h4⟩ := hC
            simp only [calmKnown, List.getElem?_cons_zero, List.getElem?_cons_succ, and_true, Is, Pure, Option.some.injEq, List.getD_cons_zero, List.getD_cons_succ, List.map_cons, List.map_nil] at hk
            have _p := hk; clear hk
            obtain rfl := hn 3 rfl
            obtain ⟨A1, c1, e1, e3⟩ := h3 rfl
            have e1 : u 10 = .slice A1 (0 + 1 + (0 - 0)) c1 := Option.some.inj (show some (u 10) = _ from e1)
            simp only [e1] at hK ⊢
            have E1 := Lib.hid e1; clear e1
            go_simp
            exact hK _ _ _ rfl ⟨hP, fun h => absurd h (by decide), fun h => absurd h (by decide), fun h => absurd h (by decide), fun _ => ⟨A1, c1, rfl, e3⟩⟩ (fun _ h => h) trivial
          exact calmSteps_nil
        · intro u w9 hC hF
          obtain ⟨hP, -, -, -, h4⟩ := hC
          obtain ⟨A9, c9, e1, e3⟩ := h4 (by decide)
          have e1 : u 11 = .slice A9 (0 + 1 + (0 - 0)) c9 := Option.some.inj (show some (u 11) = _ from e1)
          simp only [e1]
          clear e1 hF
          have hyl : (([] : List Int) ++ v :: ([] : List Int)).length = 0 + 1 + (0 - 0) := by simp
          have hrow : RowI w9 w.heap.size A9 c9 (([] : List Int) ++ v :: ([] : List Int)) := by
            unfold RowI
            rw [hyl, show cellsI (([] : List Int) ++ v :: ([] : List Int)) = (([] : List Value) ++ [.int .i64 v]) ++ ([] : List Value) from by simp [cellsI]]
            exact e3
          have hnm := nums_of_row hrow (by omega) (by omega)
          have HNM := Lib.hid hnm; have HYL := Lib.hid hyl; clear hnm hyl hrow e3
          go_wp2
          go_ret
          exact ⟨A9, c9, _, by rw [HYL.out]; rfl, HNM.out, HPUT.out, hP⟩
end Go.Proofs.Ytlfkkfdolnkjfaa
