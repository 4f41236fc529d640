/- Lemmas. -/
import Derived.Test.YtiinmhfolfgobaaGreatDoorAppX
import Derived.Test.YtiinmhfolfgobaaGreatDoorJ9
import Derived.Test.YtiinmhfolfgobaaGreatDoorJ4
import Derived.Test.YtiinmhfolfgobaaGreatDoorJ17
import Derived.Test.YtiinmhfolfgobaaGreatDoorJ15
set_option linter.unusedVariables false
set_option linter.unusedSimpArgs false
namespace Go.Proofs.YtiinmhfolfgobaaGreatDoor
open Go.RowKit Go.Shelf Go.Sort
set_option maxHeartbeats 8000000
set_option maxRecDepth 100000
def NumI (w : World) (A : Option Addr) (len cap : Nat) (xs : List Int) : Prop :=
 xs.length = len ∧ len ≤ cap ∧ len ≤ 1000 ∧ (len = 0 → A = none ∧ cap = 0) ∧ (0 < len → ∃ b off, A = some ⟨b, off, none⟩ ∧ b < w.heap.size ∧ ∀ j, j < len → w.cell? ⟨b, off + j, none⟩ = some (.int .i64 (xs.getD j 0)))
theorem NumI.below {w w' : World} {A : Option Addr} {len cap : Nat} {xs : List Int} (h : NumI w A len cap xs) (hb : Below w.heap.size w w') : NumI w' A len cap xs := by
 obtain ⟨h1, h2, h3, h4, h5⟩ := h
 refine ⟨h1, h2, h3, h4, fun hl => ?_⟩
 obtain ⟨b, off, e, hlt, hc⟩ := h5 hl
 exact ⟨b, off, e, Nat.lt_of_lt_of_le hlt hb.size, fun j hj => cell_below hb (hc j hj)⟩
def cellsI (xs : List Int) : List Value := xs.map fun x => .int .i64 x
theorem infoTI : (Tryz.prog.info? 3).map (fun i => (i.zero, i.size, i.bytes)) = some (some (.int .i64 0), 1, 8) := by kernel_rfl
theorem cellsI_one {xs : List Int} : ∀ u ∈ cellsI xs, u.oneCell' = true := by
 intro u hu
 obtain ⟨x, _, rfl⟩ := List.mem_map.1 hu
 rfl
theorem cellsI_get {xs : List Int} {j : Nat} {u : Value} (h : (cellsI xs)[j]? = some u) : j < xs.length ∧ u = .int .i64 (xs.getD j 0) := by
 unfold cellsI at h
 rw [List.getElem?_map] at h
 obtain ⟨x, hx, rfl⟩ := Option.map_eq_some_iff.1 h
 refine ⟨(List.getElem?_eq_some_iff.1 hx).1, ?_⟩
 rw [Y8, hx]; rfl
theorem src_take {w : World} {bl off q : Nat} {xs : List Int} (hc : ∀ j, j < xs.length → w.cell? ⟨bl, off + j, none⟩ = some (.int .i64 (xs.getD j 0))) : ∀ j u, (cellsI (xs.take q))[j]? = some u → w.cell? ((⟨bl, off, none⟩ : Addr).add j) = some u := fun j u hu => by
 obtain ⟨h1, rfl⟩ := cellsI_get hu
 rw [List.length_take] at h1
 have ea : (⟨bl, off, none⟩ : Addr).add j = ⟨bl, off + j, none⟩ := by unfold Addr.add; split <;> simp_all
 rw [ea, hc j Yo, Y8, Y8, List.getElem?_take, if_pos Yo]
theorem src_drop {w : World} {bl off q : Nat} {xs : List Int} (hc : ∀ j, j < xs.length → w.cell? ⟨bl, off + j, none⟩ = some (.int .i64 (xs.getD j 0))) : ∀ j u, (cellsI (xs.drop q))[j]? = some u → w.cell? ((⟨bl, off + q, none⟩ : Addr).add j) = some u := fun j u hu => by
 obtain ⟨h1, rfl⟩ := cellsI_get hu
 rw [List.length_drop] at h1
 have ea : (⟨bl, off + q, none⟩ : Addr).add j = ⟨bl, off + q + j, none⟩ := by unfold Addr.add; split <;> simp_all
 rw [ea, Nat.add_assoc, hc (q + j) Yo, Y8, Y8, List.getElem?_drop]
theorem calm_opI {P : Program} {o : Oper} {a : Act} {w : World} {K : Act → World → Prop} {Q : Exit → Act → World → Prop} {b : Bool} {X : Prop} (hb : b = true) (h : o.wp P a w K Q) : if b = true then Oper.wp P o a w K Q else X := by rw [if_pos hb]; exact h
def ZN (q : Nat) (v : Value) : Prop := q = 0 → v = .slice none 0 0
def RowI (w : World) (base : Nat) (A : Option Addr) (cap : Nat) (ys : List Int) : Prop := w.ownsRow base 3 1 (.slice A ys.length cap) ys.length (cellsI ys)
def OneI (x : Int) : List Value → Value → World → Prop := fun _ v w => ∃ g, v = .slice (some ⟨g, 0, none⟩) 1 1 ∧ Blk w g 3 #[.int .i64 x]
def KeepI (x : Int) (w w' : World) : Prop := ∀ g, Blk w g 3 #[.int .i64 x] → Blk w' g 3 #[.int .i64 x]
theorem keep_oneI {x : Int} : ∀ d v w w', KeepI x w w' → OneI x d v w → OneI x d v w' := fun _ _ _ _ h ⟨g, e, hb⟩ => ⟨g, e, h g hb⟩
theorem kg_blk {w w' : World} {g : Nat} {t : TypeId} {cs : Array Value} {r : Option Nat} (h : w.grownBy w' r) (hn : some g ≠ r) (hb : Blk w g t cs) : Blk w' g t cs := (h.block g hb.lt hn).trans hb
theorem keep_app {w w' : World} {base n m : Nat} {x : Int} {v : Value} {xs : List Value} (hown : w.ownsRow base 3 1 v n xs) (hz : n = 0 → v = .slice none 0 0)
  (h : w.grownBy w' none ∨ ∃ g cap, v = .slice (some ⟨g, 0, none⟩) n cap ∧ 0 < m ∧ n + m ≤ cap ∧ w.grownBy w' (some g)) : KeepI x w w' := by
 intro g hb
 rcases h with h | ⟨g0, cap, e, hm, hc, h⟩
 ·exact kg_blk h Ys hb
 ·by_cases hg : g = g0
  ·exfalso
   subst hg
   have hn : 0 < n := by
    by_cases c : n = 0
    ·rw [hz c] at e; simp at e
    ·omega
   rcases hown.2 with ⟨e1, e2⟩ | ⟨g1, cap1, cur, e1, _, hg1, hnc, _, hcs, _⟩
   ·omega
   ·rw [e] at e1
    injection e1 with e1 _ e3
    injection e1 with e1
    injection e1 with e1
    subst e1; subst e3
    unfold Blk at hb
    rw [hb] at hg1
    injection hg1 with hg1
    injection hg1 with hg1
    subst hg1
    simp at hcs
    omega
  ·exact kg_blk h (by intro e; injection e with e; exact hg e) hb
theorem below_app {w0 w w' : World} {n m : Nat} {v : Value} {xs : List Value} (hP : Below w0.heap.size w0 w) (hown : w.ownsRow w0.heap.size 3 1 v n xs)
  (h : w.grownBy w' none ∨ ∃ g cap, v = .slice (some ⟨g, 0, none⟩) n cap ∧ 0 < m ∧ n + m ≤ cap ∧ w.grownBy w' (some g)) : Below w0.heap.size w0 w' := by
 rcases h with h | ⟨g, cap, e, -, -, h⟩
 ·exact hP.grown h hP.size (fun k hk => by cases hk)
 ·exact hP.grown h hP.size (fun k hk => by injection hk with hk; subst hk; exact (World.ownsRow.lt hown g (by rw [e]; rfl)).1)
theorem nums_of_row {w : World} {base : Nat} {A : Option Addr} {cap : Nat} {ys : List Int} (h : RowI w base A cap ys) (hl : 0 < ys.length) (h9 : ys.length ≤ 1000) : NumI w A ys.length cap ys := by
 obtain ⟨g, c, e, h1, h2⟩ := World.ownsRow.form h hl
 injection e with e1 _ e3
 subst e1; subst e3
 have hcap : ys.length ≤ cap := by
  rcases h.2 with ⟨e1, e2⟩ | ⟨g1, cap1, cur, e1, _, _, hnc, _⟩
  ·omega
  ·injection e1 with _ _ e3; omega
 refine ⟨rfl, hcap, h9, fun h0 => by omega, fun _ => ⟨g, 0, rfl, h2, fun j hj => ?_⟩⟩
 rw [Nat.zero_add, World.ownsRow.cellAt h j Yo]
 unfold cellsI
 rw [List.getElem?_map, Y8, Y9 hj]; rfl
def PuRel (w : World) (xs : List Int) (v : Int) (G : Nat) (i : Value) (wr : World) : Prop := ∃ q : Nat, q ≤ xs.length ∧ G = xs.length - q ∧ i = .int .i64 q ∧ (∀ j, j < q → xs.getD j 0 < v) ∧ Below w.heap.size w wr
def PutR (w : World) (xs : List Int) (v : Int) (e : Ending) (w' : World) : Prop := ∃ (A : Option Addr) (cap : Nat) (ys : List Int), e = .returned (.slice A ys.length cap) ∧ NumI w' A ys.length cap ys ∧ PutX xs v ys ∧ Below w.heap.size w w'
theorem put_any (A : Option Addr) (len cap : Nat) (xs : List Int) (v : Int) (hasc : AscI xs) (h9 : len ≤ 900) (w : World) (h : NumI w A len cap xs) :
  Calls Tryz.prog 261 #[.slice A len cap, .int .i64 v] w (PutR w xs v) := by
 have hz := h.1
 have hcap := h.2.1
 subst hz
 have H := Yh h; have HA := Yh hasc; clear h hasc
 go_enter Tryz.func261, Tryz.ntmps261
 go_wp2
 go_loopg [5] xs.length (fun G i wr => PuRel w xs v G i wr)
 case atStart => exact ⟨0, Yo, Yo, rfl, fun j hj => by omega, bl0⟩
 case round =>
  obtain ⟨q, hq, rfl, rfl, hs, KR⟩ := hrel
  have ZR := KR.size
  have HS := Yh hs; clear hs
  by_cases hlt : q < xs.length
  ·have gk : decide ((q : Int) < (xs.length : Int)) = true := Y2
   have wq : IntKind.i64.wrap ((q : Int) + 1) = ((q + 1 : Nat) : Int) := Y4
   obtain ⟨bl, off, rfl, hb, hcs⟩ := H.out.2.2.2.2 Yo
   have e0 := hcs q hlt
   have HCS := Yh hcs; clear hcs
   have e0 := (KR.cell (p := ⟨bl, off + q, none⟩) hb).trans e0
   have hbW : bl < wr.heap.size := by omega
   obtain ⟨x, hx⟩ : ∃ x, xs.getD q 0 = x := ⟨_, rfl⟩
   rw [hx] at e0
   have HX := Yh hx; clear hx
   by_cases c : x < v
   ·have gc : decide (x < v) = true := decide_eq_true c
    go_wp2
    go_roundg (xs.length - (q + 1))
    case measure => omega
    case rel => exact ⟨q + 1, Yo, Yo, by go_num, fun j hj => by by_cases e9 : j = q; (subst e9; rw [HX.out]; exact c); (exact HS.out j Yo), bl1⟩
   have gc : decide (x < v) = false := decide_eq_false c
   by_cases c2 : x = v
   ·have gd : decide (x = v) = true := decide_eq_true c2
    have gdb : (x == v) = true := by simpa using c2
    have HV := Yh c2; clear c2
    have HN := H.out.below KR
    have HNN := Yh HN; clear HN
    have hm : v ∈ xs := by
     have := HX.out
     rw [HV.out] at this
     rw [← this, Y8, Y9 hlt]; exact List.getElem_mem _
    have HM := Yh hm; clear hm
    go_wp2
    go_ret
    exact ⟨some ⟨bl, off, none⟩, cap, xs, rfl, HNN.out, put_in HA.out HM.out, bl1⟩
   have gd : decide (x = v) = false := decide_eq_false c2
   have gdb : (x == v) = false := by simpa using c2
   have hput := put_at (k := q) HA.out Yo HS.out (fun _ => by rw [HX.out]; omega)
   have HPUT := Yh hput; clear hput
   have HSRC := Yh (fun W (hW : Below w.heap.size w W) j (hj : j < xs.length) => (hW.cell (p := ⟨bl, off + j, none⟩) hb).trans (HCS.out j hj))
   have q2 : q ≤ xs.length := by omega
   go_upto_region 6 with fail
   have hcq : q ≤ cap := by omega
   clear e0 gc gd gdb c c2 gk
   obtain ⟨i0, hif, hz0, hz1, hz2⟩ := info_parts infoTI
   go_wp2_with fail
   refine' wp_region_calmS Yr (fun n us w' => Below w.heap.size w w' ∧ (n = 1 → ∃ A' c', us[0]? = some (.slice A' q c') ∧ ZN q (.slice A' q c') ∧ w'.ownsRow w.heap.size 3 1 (.slice A' q c') q (cellsI (xs.take q))) ∧ (n = 2 → ∃ A' c', us[1]? = some (.slice A' (q + 1) c') ∧ w'.ownsRow w.heap.size 3 1 (.slice A' (q + 1) c') (q + 1) (cellsI (xs.take q) ++ [.int .i64 v])) ∧ (n = 3 → ∃ A' c', us[2]? = some (.slice A' (q + 1 + (xs.length - q)) c') ∧ w'.ownsRow w.heap.size 3 1 (.slice A' (q + 1 + (xs.length - q)) c') (q + 1 + (xs.length - q)) ((cellsI (xs.take q) ++ [.int .i64 v]) ++ cellsI (xs.drop q))) ∧ (n = 4 → ∃ A' c', us[3]? = some (.slice A' (q + 1 + (xs.length - q)) c') ∧ w'.ownsRow w.heap.size 3 1 (.slice A' (q + 1 + (xs.length - q)) c') (q + 1 + (xs.length - q)) ((cellsI (xs.take q) ++ [.int .i64 v]) ++ cellsI (xs.drop q)))) (KeepI v) [(Is (.slice (some ⟨bl, off, none⟩) xs.length cap)), (Is (.int .i64 (q : Int))), (Is (.slice (some ⟨bl, off, none⟩) q cap)), (fun _ _ _ => True), (Is (.int .i64 v)), (OneI v), (fun _ _ _ => True), (Is (.slice (some ⟨bl, off, none⟩) xs.length cap)), (Is (.int .i64 (q : Int))), (Is (.slice (if cap = q then some ⟨bl, off, none⟩ else some ⟨bl, off + q, none⟩) (xs.length - q) (cap - q))), (fun _ _ _ => True), (fun _ _ _ => True)] [[], [], [0, 1], [2], [], [4], [3, 5], [], [], [7, 8], [6, 9], [10]] [3, 6, 10, 11] [3, 6, 10, 11] rfl Yr Yp ?_ (Y1 (Y1 (Y1 (Y0 (Y1 (kcc keep_oneI (Y0 (Y1 (Y1 (Y1 (Y0 (Y0 Yn)))))))))))) ?_ ?_
   ·skip
    exact ⟨KR.drew, fun h => absurd h Yd, fun h => absurd h Yd, fun h => absurd h Yd, fun h => absurd h Yd⟩
   ·skip
    iterate 3 refine zq0 ?_
    refine Yz (fun u wq n hn hn2 hC hk K hK => ?_) ?_
    ·obtain ⟨hP, h1, h2, h3, h4⟩ := hC
     simp only [calmKnown, lg0, lg1, and_true, Is] at hk
     have h2 := hk; clear hk
     simp only [h2] at hK ⊢
     have H2 := Yh h2; clear h2
     obtain rfl := hn 0 rfl
     refine calm_opI (by rfl) ?_
     refine wp_append_exact _ _ 22 rfl w.heap.size 3 i0 (.int .i64 0) 1 8 Tryz.underlying22 hif hz0 hz1 hz2 rfl Yd (.slice none 0 0) 0 [] rfl (World.ownsRow_nil _ _ _ _) (some ⟨bl, off, none⟩) q cap (cellsI (xs.take q)) rfl (by simp [cellsI]; omega) (fun _ => ⟨_, rfl, src_take (HSRC.out _ hP)⟩) cellsI_one (by unfold maxLen; omega) Yo hP.size ?_
     intro A' c' w' hown hgr hzz
     rw [Nat.zero_add] at hown hzz ⊢
     rw [List.nil_append] at hown
     exact hK _ _ _ rfl ⟨below_app hP (World.ownsRow_nil _ _ _ _) hgr, fun _ => ⟨A', c', rfl, hzz, hown⟩, fun h => absurd h Yd, fun h => absurd h Yd, fun h => absurd h Yd⟩ (keep_app (World.ownsRow_nil wq w.heap.size _ _) (fun _ => rfl) hgr) trivial
    refine zq0 ?_
    refine Yz (fun u wq n hn hn2 hC hk K hK => ?_) ?_
    ·obtain ⟨hP, h1, h2, h3, h4⟩ := hC
     simp only [calmKnown, lg0, lg1, and_true, Is] at hk
     have h4 := hk; clear hk
     simp only [h4] at hK ⊢
     have H4 := Yh h4; clear h4
     have hn1 : n ≤ 1 := hn2 1 6 rfl Yr
     have k2 : n = 2 → False := fun h => by omega
     have k3 : n = 3 → False := fun h => by omega
     have k4 : n = 4 → False := fun h => by omega
     go_simp
     exact hK _ _ _ rfl ⟨hP.alloc hP.size _, fun h => by obtain ⟨A', c', e1, e2, e3⟩ := h1 h; exact ⟨A', c', e1, e2, e3.alloc _⟩, fun h => (k2 h).elim, fun h => (k3 h).elim, fun h => (k4 h).elim⟩ (fun _ h => h.alloc _) ⟨wq.heap.size, rfl, Blk.new _ _ _⟩
    refine Yz (fun u wq n hn hn2 hC hk K hK => ?_) ?_
    ·obtain ⟨hP, h1, h2, h3, h4⟩ := hC
     simp only [calmKnown, lg0, lg1, and_true, Is] at hk
     obtain ⟨_p, ⟨g, h5, hgB⟩⟩ := hk
     simp only [h5] at hK ⊢
     have H5 := Yh h5; clear h5
     obtain rfl := hn 1 rfl
     obtain ⟨A1, c1, e1, e2, e3⟩ := h1 rfl
     have e1 : u 3 = .slice A1 q c1 := Option.some.inj (show some (u 3) = _ from e1)
     simp only [e1] at hK ⊢
     have E1 := Yh e1; clear e1
     refine calm_opI (by rfl) ?_
     refine wp_append_exact _ _ 22 rfl w.heap.size 3 i0 (.int .i64 0) 1 8 Tryz.underlying22 hif hz0 hz1 hz2 rfl Yd (.slice A1 q c1) q (cellsI (xs.take q)) rfl e3 (some ⟨g, 0, none⟩) 1 1 [.int .i64 v] rfl rfl (fun _ => ⟨_, rfl, World.news_of_block (t := 3) (fr := (0, 0)) hgB⟩) (by simp [Value.oneCell']) (by unfold maxLen; omega) Yo hP.size ?_
     intro A' c' w' hown hgr _
     exact hK _ _ _ rfl ⟨below_app hP e3 hgr, fun h => absurd h Yd, fun _ => ⟨A', c', rfl, hown⟩, fun h => absurd h Yd, fun h => absurd h Yd⟩ (keep_app e3 e2 hgr) trivial
    iterate 3 refine zq0 ?_
    refine Yz (fun u wq n hn hn2 hC hk K hK => ?_) ?_
    ·obtain ⟨hP, h1, h2, h3, h4⟩ := hC
     simp only [calmKnown, lg0, lg1, and_true, Is] at hk
     obtain ⟨_p, h9⟩ := hk
     simp only [h9] at hK ⊢
     have H9 := Yh h9; clear h9
     obtain rfl := hn 2 rfl
     obtain ⟨A1, c1, e1, e3⟩ := h2 rfl
     have e1 : u 6 = .slice A1 (q + 1) c1 := Option.some.inj (show some (u 6) = _ from e1)
     simp only [e1] at hK ⊢
     have E1 := Yh e1; clear e1
     refine calm_opI (by rfl) ?_
     refine wp_append_exact _ _ 22 rfl w.heap.size 3 i0 (.int .i64 0) 1 8 Tryz.underlying22 hif hz0 hz1 hz2 rfl Yd (.slice A1 (q + 1) c1) (q + 1) (cellsI (xs.take q) ++ [.int .i64 v]) rfl e3 (if cap = q then some ⟨bl, off, none⟩ else some ⟨bl, off + q, none⟩) (xs.length - q) (cap - q) (cellsI (xs.drop q)) rfl (by simp [cellsI]) (fun hp => ⟨_, if_neg Yo, src_drop (HSRC.out _ hP)⟩) cellsI_one (by unfold maxLen; omega) Yo hP.size ?_
     intro A' c' w' hown hgr _
     exact hK _ _ _ rfl ⟨below_app hP e3 hgr, fun h => absurd h Yd, fun h => absurd h Yd, fun _ => ⟨A', c', rfl, hown⟩, fun h => absurd h Yd⟩ (keep_app e3 (fun h => by omega) hgr) trivial
    refine Yz (fun u wq n hn hn2 hC hk K hK => ?_) ?_
    ·obtain ⟨hP, h1, h2, h3, h4⟩ := hC
     simp only [calmKnown, lg0, lg1, and_true, Is] at hk
     have _p := hk; clear hk
     obtain rfl := hn 3 rfl
     obtain ⟨A1, c1, e1, e3⟩ := h3 rfl
     have e1 : u 10 = .slice A1 (q + 1 + (xs.length - q)) c1 := Option.some.inj (show some (u 10) = _ from e1)
     simp only [e1] at hK ⊢
     have E1 := Yh e1; clear e1
     go_simp
     exact hK _ _ _ rfl ⟨hP, fun h => absurd h Yd, fun h => absurd h Yd, fun h => absurd h Yd, fun _ => ⟨A1, c1, rfl, e3⟩⟩ (fun _ h => h) trivial
    exact Yw
   ·intro u w9 hC hF
    obtain ⟨hP, -, -, -, h4⟩ := hC
    obtain ⟨A9, c9, e1, e3⟩ := h4 Yd
    have e1 : u 11 = .slice A9 (q + 1 + (xs.length - q)) c9 := Option.some.inj (show some (u 11) = _ from e1)
    simp only [e1]
    clear e1 hF
    have hyl : (xs.take q ++ v :: xs.drop q).length = q + 1 + (xs.length - q) := by simp; omega
    have hrow : RowI w9 w.heap.size A9 c9 (xs.take q ++ v :: xs.drop q) := by
     unfold RowI
     rw [hyl, show cellsI (xs.take q ++ v :: xs.drop q) = (cellsI (xs.take q) ++ [.int .i64 v]) ++ cellsI (xs.drop q) from by simp [cellsI]]
     exact e3
    have hnm := nums_of_row hrow Yo Yo
    have HNM := Yh hnm; have HYL := Yh hyl; clear hnm hyl hrow e3
    go_wp2
    go_ret
    exact ⟨A9, c9, _, by rw [HYL.out]; rfl, HNM.out, HPUT.out, hP⟩
  ·have gk : decide ((q : Int) < (xs.length : Int)) = false := Y3
   by_cases h0 : 0 < xs.length
   ·obtain ⟨bl, off, rfl, hb, hcs⟩ := H.out.2.2.2.2 h0
    have HCS := Yh hcs; clear hcs
    have hbW : bl < wr.heap.size := by omega
    have hput := put_at (k := q) HA.out Yo HS.out (fun h => by omega)
    have HPUT := Yh hput; clear hput
    have HSRC := Yh (fun W (hW : Below w.heap.size w W) j (hj : j < xs.length) => (hW.cell (p := ⟨bl, off + j, none⟩) hb).trans (HCS.out j hj))
    have q2 : q ≤ xs.length := by omega
    go_upto_region 6 with fail
    have hcq : q ≤ cap := by omega
    obtain ⟨i0, hif, hz0, hz1, hz2⟩ := info_parts infoTI
    go_wp2_with fail
    refine' wp_region_calmS Yr (fun n us w' => Below w.heap.size w w' ∧ (n = 1 → ∃ A' c', us[0]? = some (.slice A' q c') ∧ ZN q (.slice A' q c') ∧ w'.ownsRow w.heap.size 3 1 (.slice A' q c') q (cellsI (xs.take q))) ∧ (n = 2 → ∃ A' c', us[1]? = some (.slice A' (q + 1) c') ∧ w'.ownsRow w.heap.size 3 1 (.slice A' (q + 1) c') (q + 1) (cellsI (xs.take q) ++ [.int .i64 v])) ∧ (n = 3 → ∃ A' c', us[2]? = some (.slice A' (q + 1 + (xs.length - q)) c') ∧ w'.ownsRow w.heap.size 3 1 (.slice A' (q + 1 + (xs.length - q)) c') (q + 1 + (xs.length - q)) ((cellsI (xs.take q) ++ [.int .i64 v]) ++ cellsI (xs.drop q))) ∧ (n = 4 → ∃ A' c', us[3]? = some (.slice A' (q + 1 + (xs.length - q)) c') ∧ w'.ownsRow w.heap.size 3 1 (.slice A' (q + 1 + (xs.length - q)) c') (q + 1 + (xs.length - q)) ((cellsI (xs.take q) ++ [.int .i64 v]) ++ cellsI (xs.drop q)))) (KeepI v) [(Is (.slice (some ⟨bl, off, none⟩) xs.length cap)), (Is (.int .i64 (q : Int))), (Is (.slice (some ⟨bl, off, none⟩) q cap)), (fun _ _ _ => True), (Is (.int .i64 v)), (OneI v), (fun _ _ _ => True), (Is (.slice (some ⟨bl, off, none⟩) xs.length cap)), (Is (.int .i64 (q : Int))), (Is (.slice (if cap = q then some ⟨bl, off, none⟩ else some ⟨bl, off + q, none⟩) (xs.length - q) (cap - q))), (fun _ _ _ => True), (fun _ _ _ => True)] [[], [], [0, 1], [2], [], [4], [3, 5], [], [], [7, 8], [6, 9], [10]] [3, 6, 10, 11] [3, 6, 10, 11] rfl Yr Yp ?_ (Y1 (Y1 (Y1 (Y0 (Y1 (kcc keep_oneI (Y0 (Y1 (Y1 (Y1 (Y0 (Y0 Yn)))))))))))) ?_ ?_
    ·skip
     exact ⟨KR.drew, fun h => absurd h Yd, fun h => absurd h Yd, fun h => absurd h Yd, fun h => absurd h Yd⟩
    ·skip
     iterate 3 refine zq0 ?_
     refine Yz (fun u wq n hn hn2 hC hk K hK => ?_) ?_
     ·obtain ⟨hP, h1, h2, h3, h4⟩ := hC
      simp only [calmKnown, lg0, lg1, and_true, Is] at hk
      have h2 := hk; clear hk
      simp only [h2] at hK ⊢
      have H2 := Yh h2; clear h2
      obtain rfl := hn 0 rfl
      refine calm_opI (by rfl) ?_
      refine wp_append_exact _ _ 22 rfl w.heap.size 3 i0 (.int .i64 0) 1 8 Tryz.underlying22 hif hz0 hz1 hz2 rfl Yd (.slice none 0 0) 0 [] rfl (World.ownsRow_nil _ _ _ _) (some ⟨bl, off, none⟩) q cap (cellsI (xs.take q)) rfl (by simp [cellsI]; omega) (fun _ => ⟨_, rfl, src_take (HSRC.out _ hP)⟩) cellsI_one (by unfold maxLen; omega) Yo hP.size ?_
      intro A' c' w' hown hgr hzz
      rw [Nat.zero_add] at hown hzz ⊢
      rw [List.nil_append] at hown
      exact hK _ _ _ rfl ⟨below_app hP (World.ownsRow_nil _ _ _ _) hgr, fun _ => ⟨A', c', rfl, hzz, hown⟩, fun h => absurd h Yd, fun h => absurd h Yd, fun h => absurd h Yd⟩ (keep_app (World.ownsRow_nil wq w.heap.size _ _) (fun _ => rfl) hgr) trivial
     refine zq0 ?_
     refine Yz (fun u wq n hn hn2 hC hk K hK => ?_) ?_
     ·obtain ⟨hP, h1, h2, h3, h4⟩ := hC
      simp only [calmKnown, lg0, lg1, and_true, Is] at hk
      have h4 := hk; clear hk
      simp only [h4] at hK ⊢
      have H4 := Yh h4; clear h4
      have hn1 : n ≤ 1 := hn2 1 6 rfl Yr
      have k2 : n = 2 → False := fun h => by omega
      have k3 : n = 3 → False := fun h => by omega
      have k4 : n = 4 → False := fun h => by omega
      go_simp
      exact hK _ _ _ rfl ⟨hP.alloc hP.size _, fun h => by obtain ⟨A', c', e1, e2, e3⟩ := h1 h; exact ⟨A', c', e1, e2, e3.alloc _⟩, fun h => (k2 h).elim, fun h => (k3 h).elim, fun h => (k4 h).elim⟩ (fun _ h => h.alloc _) ⟨wq.heap.size, rfl, Blk.new _ _ _⟩
     refine Yz (fun u wq n hn hn2 hC hk K hK => ?_) ?_
     ·obtain ⟨hP, h1, h2, h3, h4⟩ := hC
      simp only [calmKnown, lg0, lg1, and_true, Is] at hk
      obtain ⟨_p, ⟨g, h5, hgB⟩⟩ := hk
      simp only [h5] at hK ⊢
      have H5 := Yh h5; clear h5
      obtain rfl := hn 1 rfl
      obtain ⟨A1, c1, e1, e2, e3⟩ := h1 rfl
      have e1 : u 3 = .slice A1 q c1 := Option.some.inj (show some (u 3) = _ from e1)
      simp only [e1] at hK ⊢
      have E1 := Yh e1; clear e1
      refine calm_opI (by rfl) ?_
      refine wp_append_exact _ _ 22 rfl w.heap.size 3 i0 (.int .i64 0) 1 8 Tryz.underlying22 hif hz0 hz1 hz2 rfl Yd (.slice A1 q c1) q (cellsI (xs.take q)) rfl e3 (some ⟨g, 0, none⟩) 1 1 [.int .i64 v] rfl rfl (fun _ => ⟨_, rfl, World.news_of_block (t := 3) (fr := (0, 0)) hgB⟩) (by simp [Value.oneCell']) (by unfold maxLen; omega) Yo hP.size ?_
      intro A' c' w' hown hgr _
      exact hK _ _ _ rfl ⟨below_app hP e3 hgr, fun h => absurd h Yd, fun _ => ⟨A', c', rfl, hown⟩, fun h => absurd h Yd, fun h => absurd h Yd⟩ (keep_app e3 e2 hgr) trivial
     iterate 3 refine zq0 ?_
     refine Yz (fun u wq n hn hn2 hC hk K hK => ?_) ?_
     ·obtain ⟨hP, h1, h2, h3, h4⟩ := hC
      simp only [calmKnown, lg0, lg1, and_true, Is] at hk
      obtain ⟨_p, h9⟩ := hk
      simp only [h9] at hK ⊢
      have H9 := Yh h9; clear h9
      obtain rfl := hn 2 rfl
      obtain ⟨A1, c1, e1, e3⟩ := h2 rfl
      have e1 : u 6 = .slice A1 (q + 1) c1 := Option.some.inj (show some (u 6) = _ from e1)
      simp only [e1] at hK ⊢
      have E1 := Yh e1; clear e1
      refine calm_opI (by rfl) ?_
      refine wp_append_exact _ _ 22 rfl w.heap.size 3 i0 (.int .i64 0) 1 8 Tryz.underlying22 hif hz0 hz1 hz2 rfl Yd (.slice A1 (q + 1) c1) (q + 1) (cellsI (xs.take q) ++ [.int .i64 v]) rfl e3 (if cap = q then some ⟨bl, off, none⟩ else some ⟨bl, off + q, none⟩) (xs.length - q) (cap - q) (cellsI (xs.drop q)) rfl (by simp [cellsI]) (fun hp => ⟨_, if_neg Yo, src_drop (HSRC.out _ hP)⟩) cellsI_one (by unfold maxLen; omega) Yo hP.size ?_
      intro A' c' w' hown hgr _
      exact hK _ _ _ rfl ⟨below_app hP e3 hgr, fun h => absurd h Yd, fun h => absurd h Yd, fun _ => ⟨A', c', rfl, hown⟩, fun h => absurd h Yd⟩ (keep_app e3 (fun h => by omega) hgr) trivial
     refine Yz (fun u wq n hn hn2 hC hk K hK => ?_) ?_
     ·obtain ⟨hP, h1, h2, h3, h4⟩ := hC
      simp only [calmKnown, lg0, lg1, and_true, Is] at hk
      have _p := hk; clear hk
      obtain rfl := hn 3 rfl
      obtain ⟨A1, c1, e1, e3⟩ := h3 rfl
      have e1 : u 10 = .slice A1 (q + 1 + (xs.length - q)) c1 := Option.some.inj (show some (u 10) = _ from e1)
      simp only [e1] at hK ⊢
      have E1 := Yh e1; clear e1
      go_simp
      exact hK _ _ _ rfl ⟨hP, fun h => absurd h Yd, fun h => absurd h Yd, fun h => absurd h Yd, fun _ => ⟨A1, c1, rfl, e3⟩⟩ (fun _ h => h) trivial
     exact Yw
    ·intro u w9 hC hF
     obtain ⟨hP, -, -, -, h4⟩ := hC
     obtain ⟨A9, c9, e1, e3⟩ := h4 Yd
     have e1 : u 11 = .slice A9 (q + 1 + (xs.length - q)) c9 := Option.some.inj (show some (u 11) = _ from e1)
     simp only [e1]
     clear e1 hF
     have hyl : (xs.take q ++ v :: xs.drop q).length = q + 1 + (xs.length - q) := by simp; omega
     have hrow : RowI w9 w.heap.size A9 c9 (xs.take q ++ v :: xs.drop q) := by
      unfold RowI
      rw [hyl, show cellsI (xs.take q ++ v :: xs.drop q) = (cellsI (xs.take q) ++ [.int .i64 v]) ++ cellsI (xs.drop q) from by simp [cellsI]]
      exact e3
     have hnm := nums_of_row hrow Yo Yo
     have HNM := Yh hnm; have HYL := Yh hyl; clear hnm hyl hrow e3
     go_wp2
     go_ret
     exact ⟨A9, c9, _, by rw [HYL.out]; rfl, HNM.out, HPUT.out, hP⟩
   ·have hx : xs = [] := List.length_eq_zero_iff.1 Yo
    obtain ⟨hA, hc⟩ := H.out.2.2.2.1 Yo
    subst hA; subst hc; subst hx
    obtain rfl : q = 0 := by simpa using hq
    have hput := put_at (xs := []) (k := 0) HA.out Ys (fun j hj => by omega) (fun h => by simp at h) (v := v)
    have HPUT := Yh hput; clear hput
    simp only [List.length_nil] at *
    go_upto_region 6 with fail
    obtain ⟨i0, hif, hz0, hz1, hz2⟩ := info_parts infoTI
    go_wp2_with fail
    refine' wp_region_calmS Yr (fun n us w' => Below w.heap.size w w' ∧ (n = 1 → ∃ A' c', us[0]? = some (.slice A' 0 c') ∧ ZN 0 (.slice A' 0 c') ∧ w'.ownsRow w.heap.size 3 1 (.slice A' 0 c') 0 (([] : List Value))) ∧ (n = 2 → ∃ A' c', us[1]? = some (.slice A' (0 + 1) c') ∧ w'.ownsRow w.heap.size 3 1 (.slice A' (0 + 1) c') (0 + 1) (([] : List Value) ++ [.int .i64 v])) ∧ (n = 3 → ∃ A' c', us[2]? = some (.slice A' (0 + 1 + (0 - 0)) c') ∧ w'.ownsRow w.heap.size 3 1 (.slice A' (0 + 1 + (0 - 0)) c') (0 + 1 + (0 - 0)) ((([] : List Value) ++ [.int .i64 v]) ++ ([] : List Value))) ∧ (n = 4 → ∃ A' c', us[3]? = some (.slice A' (0 + 1 + (0 - 0)) c') ∧ w'.ownsRow w.heap.size 3 1 (.slice A' (0 + 1 + (0 - 0)) c') (0 + 1 + (0 - 0)) ((([] : List Value) ++ [.int .i64 v]) ++ ([] : List Value)))) (KeepI v) [(Is (.slice none 0 0)), (Is (.int .i64 0)), (Is (.slice none 0 0)), (fun _ _ _ => True), (Is (.int .i64 v)), (OneI v), (fun _ _ _ => True), (Is (.slice none 0 0)), (Is (.int .i64 0)), (Is (.slice none (0 - 0) (0 - 0))), (fun _ _ _ => True), (fun _ _ _ => True)] [[], [], [0, 1], [2], [], [4], [3, 5], [], [], [7, 8], [6, 9], [10]] [3, 6, 10, 11] [3, 6, 10, 11] rfl Yr Yp ?_ (Y1 (Y1 (Y1 (Y0 (Y1 (kcc keep_oneI (Y0 (Y1 (Y1 (Y1 (Y0 (Y0 Yn)))))))))))) ?_ ?_
    ·skip
     exact ⟨KR.drew, fun h => absurd h Yd, fun h => absurd h Yd, fun h => absurd h Yd, fun h => absurd h Yd⟩
    ·skip
     iterate 3 refine zq0 ?_
     refine Yz (fun u wq n hn hn2 hC hk K hK => ?_) ?_
     ·obtain ⟨hP, h1, h2, h3, h4⟩ := hC
      simp only [calmKnown, lg0, lg1, and_true, Is] at hk
      have h2 := hk; clear hk
      simp only [h2] at hK ⊢
      have H2 := Yh h2; clear h2
      obtain rfl := hn 0 rfl
      refine calm_opI (by rfl) ?_
      refine wp_append_exact _ _ 22 rfl w.heap.size 3 i0 (.int .i64 0) 1 8 Tryz.underlying22 hif hz0 hz1 hz2 rfl Yd (.slice none 0 0) 0 [] rfl (World.ownsRow_nil _ _ _ _) none 0 0 (([] : List Value)) rfl Ys Ye Ys (by unfold maxLen; omega) Yo hP.size ?_
      intro A' c' w' hown hgr hzz
      rw [Nat.zero_add] at hown hzz ⊢
      rw [List.nil_append] at hown
      exact hK _ _ _ rfl ⟨below_app hP (World.ownsRow_nil _ _ _ _) hgr, fun _ => ⟨A', c', rfl, hzz, hown⟩, fun h => absurd h Yd, fun h => absurd h Yd, fun h => absurd h Yd⟩ (keep_app (World.ownsRow_nil wq w.heap.size _ _) (fun _ => rfl) hgr) trivial
     refine zq0 ?_
     refine Yz (fun u wq n hn hn2 hC hk K hK => ?_) ?_
     ·obtain ⟨hP, h1, h2, h3, h4⟩ := hC
      simp only [calmKnown, lg0, lg1, and_true, Is] at hk
      have h4 := hk; clear hk
      simp only [h4] at hK ⊢
      have H4 := Yh h4; clear h4
      have hn1 : n ≤ 1 := hn2 1 6 rfl Yr
      have k2 : n = 2 → False := fun h => by omega
      have k3 : n = 3 → False := fun h => by omega
      have k4 : n = 4 → False := fun h => by omega
      go_simp
      exact hK _ _ _ rfl ⟨hP.alloc hP.size _, fun h => by obtain ⟨A', c', e1, e2, e3⟩ := h1 h; exact ⟨A', c', e1, e2, e3.alloc _⟩, fun h => (k2 h).elim, fun h => (k3 h).elim, fun h => (k4 h).elim⟩ (fun _ h => h.alloc _) ⟨wq.heap.size, rfl, Blk.new _ _ _⟩
     refine Yz (fun u wq n hn hn2 hC hk K hK => ?_) ?_
     ·obtain ⟨hP, h1, h2, h3, h4⟩ := hC
      simp only [calmKnown, lg0, lg1, and_true, Is] at hk
      obtain ⟨_p, ⟨g, h5, hgB⟩⟩ := hk
      simp only [h5] at hK ⊢
      have H5 := Yh h5; clear h5
      obtain rfl := hn 1 rfl
      obtain ⟨A1, c1, e1, e2, e3⟩ := h1 rfl
      have e1 : u 3 = .slice A1 0 c1 := Option.some.inj (show some (u 3) = _ from e1)
      simp only [e1] at hK ⊢
      have E1 := Yh e1; clear e1
      refine calm_opI (by rfl) ?_
      refine wp_append_exact _ _ 22 rfl w.heap.size 3 i0 (.int .i64 0) 1 8 Tryz.underlying22 hif hz0 hz1 hz2 rfl Yd (.slice A1 0 c1) 0 (([] : List Value)) rfl e3 (some ⟨g, 0, none⟩) 1 1 [.int .i64 v] rfl rfl (fun _ => ⟨_, rfl, World.news_of_block (t := 3) (fr := (0, 0)) hgB⟩) (by simp [Value.oneCell']) (by unfold maxLen; omega) Yo hP.size ?_
      intro A' c' w' hown hgr _
      exact hK _ _ _ rfl ⟨below_app hP e3 hgr, fun h => absurd h Yd, fun _ => ⟨A', c', rfl, hown⟩, fun h => absurd h Yd, fun h => absurd h Yd⟩ (keep_app e3 e2 hgr) trivial
     iterate 3 refine zq0 ?_
     refine Yz (fun u wq n hn hn2 hC hk K hK => ?_) ?_
     ·obtain ⟨hP, h1, h2, h3, h4⟩ := hC
      simp only [calmKnown, lg0, lg1, and_true, Is] at hk
      obtain ⟨_p, h9⟩ := hk
      simp only [h9] at hK ⊢
      have H9 := Yh h9; clear h9
      obtain rfl := hn 2 rfl
      obtain ⟨A1, c1, e1, e3⟩ := h2 rfl
      have e1 : u 6 = .slice A1 (0 + 1) c1 := Option.some.inj (show some (u 6) = _ from e1)
      simp only [e1] at hK ⊢
      have E1 := Yh e1; clear e1
      refine calm_opI (by rfl) ?_
      refine wp_append_exact _ _ 22 rfl w.heap.size 3 i0 (.int .i64 0) 1 8 Tryz.underlying22 hif hz0 hz1 hz2 rfl Yd (.slice A1 (0 + 1) c1) (0 + 1) (([] : List Value) ++ [.int .i64 v]) rfl e3 none (0 - 0) (0 - 0) (([] : List Value)) rfl (by simp [cellsI]) Ye Ys (by unfold maxLen; omega) Yo hP.size ?_
      intro A' c' w' hown hgr _
      exact hK _ _ _ rfl ⟨below_app hP e3 hgr, fun h => absurd h Yd, fun h => absurd h Yd, fun _ => ⟨A', c', rfl, hown⟩, fun h => absurd h Yd⟩ (keep_app e3 (fun h => by omega) hgr) trivial
     refine Yz (fun u wq n hn hn2 hC hk K hK => ?_) ?_
     ·obtain ⟨hP, h1, h2, h3, h4⟩ := hC
      simp only [calmKnown, lg0, lg1, and_true, Is] at hk
      have _p := hk; clear hk
      obtain rfl := hn 3 rfl
      obtain ⟨A1, c1, e1, e3⟩ := h3 rfl
      have e1 : u 10 = .slice A1 (0 + 1 + (0 - 0)) c1 := Option.some.inj (show some (u 10) = _ from e1)
      simp only [e1] at hK ⊢
      have E1 := Yh e1; clear e1
      go_simp
      exact hK _ _ _ rfl ⟨hP, fun h => absurd h Yd, fun h => absurd h Yd, fun h => absurd h Yd, fun _ => ⟨A1, c1, rfl, e3⟩⟩ (fun _ h => h) trivial
     exact Yw
    ·intro u w9 hC hF
     obtain ⟨hP, -, -, -, h4⟩ := hC
     obtain ⟨A9, c9, e1, e3⟩ := h4 Yd
     have e1 : u 11 = .slice A9 (0 + 1 + (0 - 0)) c9 := Option.some.inj (show some (u 11) = _ from e1)
     simp only [e1]
     clear e1 hF
     have hyl : (([] : List Int) ++ v :: ([] : List Int)).length = 0 + 1 + (0 - 0) := by simp
     have hrow : RowI w9 w.heap.size A9 c9 (([] : List Int) ++ v :: ([] : List Int)) := by
      unfold RowI
      rw [hyl, show cellsI (([] : List Int) ++ v :: ([] : List Int)) = (([] : List Value) ++ [.int .i64 v]) ++ ([] : List Value) from by simp [cellsI]]
      exact e3
     have hnm := nums_of_row hrow Yo Yo
     have HNM := Yh hnm; have HYL := Yh hyl; clear hnm hyl hrow e3
     go_wp2
     go_ret
     exact ⟨A9, c9, _, by rw [HYL.out]; rfl, HNM.out, HPUT.out, hP⟩
def CutsR (w : World) (zs : List (Int × Int)) (e : Ending) (w' : World) : Prop := ∃ (A : Option Addr) (cap : Nat) (cs : List Int), e = .returned (.slice A cs.length cap) ∧ NumI w' A cs.length cap cs ∧ CutX zs cs ∧ Below w.heap.size w w'
def CuRel (w : World) (zs : List (Int × Int)) (G : Nat) (v i : Value) (wr : World) : Prop := ∃ (k : Nat) (A : Option Addr) (cap : Nat) (cs : List Int), k ≤ zs.length ∧ G = zs.length - k ∧ i = .int .i64 k ∧ v = .slice A cs.length cap ∧ NumI wr A cs.length cap cs ∧ CutX (zs.take k) cs ∧ Below w.heap.size w wr
theorem nums_nil {w : World} : NumI w none 0 0 [] := ⟨rfl, Yo, Yo, fun _ => ⟨rfl, rfl⟩, fun h => by omega⟩
theorem cuts_any (A0 : Option Addr) (len cap0 : Nat) (zs : List (Int × Int)) (hv : ∀ z ∈ zs, vS z.1 z.2 = true) (h64 : len ≤ 64) (w : World) (h : SpansAt w A0 len zs) :
  Calls Tryz.prog 248 #[.slice A0 len cap0] w (CutsR w zs) := by
 have hz := h.1
 subst hz
 have H := Yh h; have HV := Yh hv; clear h hv
 go_enter Tryz.func248, Tryz.ntmps248
 go_wp2
 go_loopg [3, 4] zs.length (fun G v i wr => CuRel w zs G v i wr)
 case atStart => exact ⟨0, none, 0, [], Yo, Yo, rfl, rfl, nums_nil, CutX.nil, bl0⟩
 case round =>
  obtain ⟨k, A, cap, cs, hk, rfl, rfl, rfl, hnm, hcu, KR⟩ := hrel
  have ZR := KR.size
  have hcl := hcu.2.2
  rw [List.length_take] at hcl
  have HNM := Yh hnm; have HCU := Yh hcu; clear hnm hcu
  by_cases hlt : k < zs.length
  ·have gk : decide ((k : Int) < (zs.length : Int)) = true := Y2
   have wk : IntKind.i64.wrap ((k : Int) + 1) = ((k + 1 : Nat) : Int) := Y4
   obtain ⟨bl, off, rfl, hb, hcs⟩ := H.out.2.2 Yo
   have hE := hcs k hlt
   clear hcs
   have hsn : zs.take (k + 1) = zs.take k ++ [zs.getD k (0, 0)] := take_snocC (0, 0) zs hlt
   have hzv := HV.out (zs.getD k (0, 0)) (by rw [Y8, Y9 hlt]; exact List.getElem_mem _)
   generalize zs.getD k (0, 0) = z at *
   obtain ⟨x, y⟩ := z
   dsimp only at hE hzv
   obtain ⟨v1, v2, v3⟩ := vS_true.1 hzv
   have E0 : ∀ W, Below wr.heap.size wr W → W.cell? ⟨bl, off + k * 2, none⟩ = some (.int .i64 x) := fun W hW => (hW.cell (p := ⟨bl, off + k * 2, none⟩) (by show bl < wr.heap.size; omega)).trans ((KR.cell (p := ⟨bl, off + k * 2, none⟩) hb).trans hE.1)
   have E1 : ∀ W, Below wr.heap.size wr W → W.cell? ⟨bl, off + k * 2 + 1, none⟩ = some (.int .i64 y) := fun W hW => (hW.cell (p := ⟨bl, off + k * 2 + 1, none⟩) (by show bl < wr.heap.size; omega)).trans ((KR.cell (p := ⟨bl, off + k * 2 + 1, none⟩) hb).trans hE.2)
   have HSN := Yh hsn; clear hE hsn hzv
   have wy : IntKind.i64.wrap (y + 1) = y + 1 := IntWalk.i64_in _ Yo
   have HP1 := Yh (fun W (hW : Below wr.heap.size wr W) => put_any A cs.length cap cs x HCU.out.1 Yo W (HNM.out.below hW))
   have HP2 := Yh (fun (A1 : Option Addr) (c1 : Nat) (ys : List Int) (W : World) (hn : NumI W A1 ys.length c1 ys) (hp : PutX cs x ys) => put_any A1 ys.length c1 ys (y + 1) hp.1 (by have := hp.2.2; omega) W hn)
   go_upto_region 5 with fail
   refine' wp_region_calmS Yr (fun n us w' => Below wr.heap.size wr w' ∧ (n = 1 → ∃ A' c' ys, us[0]? = some (.slice A' ys.length c') ∧ NumI w' A' ys.length c' ys ∧ PutX cs x ys) ∧ (n = 2 → ∃ A' c' ys, us[1]? = some (.slice A' ys.length c') ∧ NumI w' A' ys.length c' ys ∧ CutX (zs.take (k + 1)) ys) ∧ (n = 3 → ∃ A' c' ys, us[2]? = some (.slice A' ys.length c') ∧ NumI w' A' ys.length c' ys ∧ CutX (zs.take (k + 1)) ys) ∧ (n ≤ 2 → us[2]? = some (.slice A cs.length cap))) (fun _ _ => True) [(Is (.slice A cs.length cap)), (Is (.slice (some ⟨bl, off, none⟩) zs.length cap0)), (Is (.int .i64 (k : Int))), (Is (.pointer (some ⟨bl, off + k * 2, none⟩))), (Is (.pointer (some ⟨bl, off + k * 2, none⟩))), (Is (.int .i64 x)), (fun _ _ _ => True), (Is (.slice (some ⟨bl, off, none⟩) zs.length cap0)), (Is (.int .i64 (k : Int))), (Is (.pointer (some ⟨bl, off + k * 2, none⟩))), (Is (.pointer (some ⟨bl, off + k * 2 + 1, none⟩))), (Is (.int .i64 y)), (Is (.int .i64 (y + 1))), (fun _ _ _ => True), (fun _ _ _ => True)] [[], [], [], [1, 2], [3], [4], [0, 5], [], [], [7, 8], [9], [10], [11], [6, 12], [13]] [6, 13, 14] [6, 13, 14] rfl Yr Yp ?_ (Y1 (Y1 (Y1 (Y1 (Y1 (Y1 (Y0 (Y1 (Y1 (Y1 (Y1 (Y1 (Y1 (Y0 (Y0 Yn))))))))))))))) ?_ ?_
   ·skip
    exact ⟨Yl.drew, fun h => absurd h Yd, fun h => absurd h Yd, fun h => absurd h Yd, fun _ => rfl⟩
   ·skip
    refine Yz (fun u wq n hn hn2 hC hk K hK => ?_) ?_
    ·obtain ⟨hP, h1, h2, h3, h4⟩ := hC
     clear hk
     obtain rfl : n = 0 := Nat.le_zero.1 (hn2 0 6 rfl Yr)
     have hu : u 14 = .slice A cs.length cap := Option.some.inj (show some (u 14) = _ from h4 Yd)
     simp only [hu] at hK ⊢
     have HU := Yh hu; clear hu
     go_simp
     exact hK _ _ _ rfl ⟨hP, h1, h2, h3, h4⟩ trivial rfl
    iterate 4 refine zq0 ?_
    refine zq1 (fun _ _ _ _ _ ⟨hP, _⟩ => (E0 _ hP)) ?_
    refine Yz (fun u wq n hn hn2 hC hk K hK => ?_) ?_
    ·obtain ⟨hP, h1, h2, h3, h4⟩ := hC
     simp only [calmKnown, lg0, lg1, and_true, Is] at hk
     obtain ⟨h0, h5⟩ := hk
     simp only [h0, h5] at hK ⊢
     have H0 := Yh h0; clear h0; have H5 := Yh h5; clear h5
     obtain rfl := hn 0 rfl
     go_wp2_with fail
     refine (HP1.out _ hP).mono ?_
     rintro e w2 ⟨A', c', ys, rfl, hn2', hpx, hbl⟩
     exact hK _ _ _ rfl ⟨Yc hbl hP, fun _ => ⟨A', c', ys, rfl, hn2', hpx⟩, fun h => absurd h Yd, fun h => absurd h Yd, fun _ => h4 Yd⟩ trivial trivial
    iterate 4 refine zq0 ?_
    refine zq1 (fun _ _ _ _ _ ⟨hP, _⟩ => (E1 _ hP)) ?_
    refine zq0 ?_
    refine Yz (fun u wq n hn hn2 hC hk K hK => ?_) ?_
    ·obtain ⟨hP, h1, h2, h3, h4⟩ := hC
     simp only [calmKnown, lg0, lg1, and_true, Is] at hk
     obtain ⟨_p, h12⟩ := hk
     simp only [h12] at hK ⊢
     have H12 := Yh h12; clear h12
     obtain rfl := hn 1 rfl
     obtain ⟨A1, c1, ys, e1, e2, e3⟩ := h1 rfl
     have e1 : u 6 = .slice A1 ys.length c1 := Option.some.inj (show some (u 6) = _ from e1)
     simp only [e1] at hK ⊢
     have E9 := Yh e1; clear e1
     go_wp2_with fail
     refine (HP2.out A1 c1 ys _ e2 e3).mono ?_
     rintro e w2 ⟨A', c', us, rfl, hn2', hpx, hbl⟩
     exact hK _ _ _ rfl ⟨Yc hbl hP, fun h => absurd h Yd, fun _ => ⟨A', c', us, rfl, hn2', by rw [HSN.out]; exact HCU.out.snoc e3 hpx⟩, fun h => absurd h Yd, fun _ => h4 Yd⟩ trivial trivial
    refine Yz (fun u wq n hn hn2 hC hk K hK => ?_) ?_
    ·obtain ⟨hP, h1, h2, h3, h4⟩ := hC
     simp only [calmKnown, lg0, lg1, and_true, Is] at hk
     have _p := hk; clear hk
     obtain rfl := hn 2 rfl
     obtain ⟨A1, c1, ys, e1, e2, e3⟩ := h2 rfl
     have e1 : u 13 = .slice A1 ys.length c1 := Option.some.inj (show some (u 13) = _ from e1)
     simp only [e1] at hK ⊢
     have E9 := Yh e1; clear e1
     go_simp
     exact hK _ _ _ rfl ⟨hP, fun h => absurd h Yd, fun h => absurd h Yd, fun _ => ⟨A1, c1, ys, rfl, e2, e3⟩, fun h => absurd h Yd⟩ trivial trivial
    exact Yw
   ·intro u w9 hC hF
    obtain ⟨hP, -, -, h3, -⟩ := hC
    obtain ⟨A9, c9, ys, e1, e2, e3⟩ := h3 Yd
    have e1 : u 14 = .slice A9 ys.length c9 := Option.some.inj (show some (u 14) = _ from e1)
    simp only [e1]
    clear e1 hF
    have HN9 := Yh e2; have HC9 := Yh e3; clear e2 e3
    have K9 : Below w.heap.size w w9 := Yc hP KR
    go_wp2
    go_roundg (zs.length - (k + 1))
    case measure => omega
    case rel => exact ⟨k + 1, A9, c9, ys, Yo, Yo, by go_num, rfl, HN9.out, HC9.out, K9⟩
  ·obtain rfl : zs.length = k := by omega
   have gk : decide ((zs.length : Int) < (zs.length : Int)) = false := Y3
   have hcu := HCU.out
   rw [List.take_length] at hcu
   have HC9 := Yh hcu; clear hcu
   go_wp2
   go_ret
   exact ⟨A, cap, cs, rfl, HNM.out, HC9.out, bl1⟩
set_option maxHeartbeats 16000000
theorem grown_belowP {w w' : World} (X : Option Nat) (h : Below w.heap.size w w') : w.grownBy w' X := ⟨h.os, h.tape, h.output, h.size, fun k hk _ => h.block k hk⟩
theorem RowP.below {w w' : World} {base : Nat} {v : Value} {ps : List Pc} (h : RowP w base v ps) (hb : Below w.heap.size w w') : RowP w' base v ps := RowP.kept h (grown_belowP none hb) (fun k _ e => by cases e)
theorem calm_opP {P : Program} {o : Oper} {a : Act} {w : World} {K : Act → World → Prop} {Q : Exit → Act → World → Prop} {b : Bool} {X : Prop} (hb : b = true) (h : o.wp P a w K Q) : if b = true then Oper.wp P o a w K Q else X := by rw [if_pos hb]; exact h
def OneP (X : Option Nat) (x y n : Int) : List Value → Value → World → Prop := fun _ v w => ∃ g, v = .slice (some ⟨g, 0, none⟩) 1 1 ∧ some g ≠ X ∧ Blk w g 202 #[.int .i64 x, .int .i64 y, .int .i64 n]
theorem keep_oneP {X : Option Nat} {x y n : Int} : ∀ d v w w', w.grownBy w' X → OneP X x y n d v w → OneP X x y n d v w' := fun _ _ _ _ h ⟨g, e, hn, hb⟩ => ⟨g, e, hn, (h.block g hb.lt hn).trans hb⟩
theorem rp_lo {zs : List (Int × Int)} {cs : List Int} {b : Int} (h : ∀ u ∈ cs, b ≤ u) : ∀ k, k ≤ cs.length → ∀ q ∈ rpAt zs cs k, b ≤ q.lo
 | 0, _, q, hq => by simp [rpAt] at hq
 | k + 1, hk, q, hq => by
  have ih := rp_lo (zs := zs) h k Yo
  unfold rpAt at hq
  split at hq
  ·exact ih q hq
  ·exact addP_lo ih (h _ (by rw [Y8, Y9 Yo]; exact List.getElem_mem _)) q hq
def RpRel (w : World) (zs : List (Int × Int)) (cs : List Int) (G : Nat) (v i : Value) (wr : World) : Prop := ∃ k : Nat, k ≤ cs.length - 1 ∧ G = cs.length - k ∧ i = .int .i64 k ∧ RowP wr w.heap.size v (rpAt zs cs k) ∧ Below w.heap.size w wr
theorem rprofile_any (A : Option Addr) (len cap : Nat) (zs : List (Int × Int)) (w : World) (h : SpansAt w A len zs) :
  Calls Tryz.prog 237 #[.slice A len cap] w (PfR w zs) := by
 have hz := h.1
 have hlm := h.2.1
 subst hz
 have HC := Yh (fun W (hW : Below w.heap.size w W) => rswcheck_any A zs.length cap zs W (h.below hW))
 by_cases hc0 : ckE zs = 0
 ·obtain ⟨h64, hv⟩ := ckE_ok hc0
  have HCU := Yh (fun W (hW : Below w.heap.size w W) => cuts_any A zs.length cap zs hv h64 W (h.below hW))
  have HK := Yh (fun a W (hW : Below w.heap.size w W) => rcnt_any A zs.length cap zs a h64 W (h.below hW))
  simp only [hc0] at HC
  have HC0 := Yh hc0; have HV := Yh hv; clear h hc0 hv
  go_enter Tryz.func237, Tryz.ntmps237
  go_wp2_with fail
  refine (HC.out _ bl0).mono ?_
  rintro e w1 ⟨rfl, hb1⟩
  have K1 : Below w.heap.size w w1 := Yc hb1 bl0
  have Z1 := K1.size
  clear hb1
  go_wp2_with fail
  refine (HCU.out _ bl1).mono ?_
  rintro e w2 ⟨A2, c2, cs, rfl, hnm, hcu, hb2⟩
  have K2 : Below w.heap.size w w2 := Yc hb2 bl1
  have Z2 := K2.size
  clear hb2 K1
  have hcl := hcu.2.2
  have hlaw := rp_law hcu
  have hrl := rpAt_law hcu
  have HNM := Yh hnm; have HCX := Yh hcu; have HLAW := Yh hlaw; have HRL := Yh hrl; clear hnm hcu hlaw hrl
  go_wp2
  go_loopg [6, 7] cs.length (fun G v i wr => RpRel w2 zs cs G v i wr)
  case atStart => exact ⟨0, Yo, Yo, rfl, RowP.nil, bl0⟩
  case round =>
   obtain ⟨k, hk, rfl, rfl, hrow, KR⟩ := hrel
   have ZR := KR.size
   have KW : Below w.heap.size w wr := Yc KR K2
   have hpl := rpAt_length zs cs k
   obtain ⟨out, hout⟩ : ∃ out, rpAt zs cs k = out := ⟨_, rfl⟩
   rw [hout] at hrow hpl
   obtain ⟨A3, c3, e3⟩ := RowP.len hrow
   subst e3
   have HROW := Yh hrow; clear hrow
   have wk : IntKind.i64.wrap ((k : Int) + 1) = ((k + 1 : Nat) : Int) := Y4
   by_cases hlt : k + 1 < cs.length
   ·have gk : decide (((k + 1 : Nat) : Int) < (cs.length : Int)) = true := Y2
    have gk2 : decide ((k : Int) + 1 < (cs.length : Int)) = true := Y2
    obtain ⟨bl, off, rfl, hb, hcs⟩ := HNM.out.2.2.2.2 Yo
    have HCS := Yh hcs; clear hcs
    obtain ⟨p1, p2, -⟩ := HRL.out k Yo
    have hab := HCX.out.1.get (i := k) (j := k + 1) Yo hlt
    have hin : ∀ u ∈ cs, -1152921504606846976 ≤ u ∧ u ≤ 1152921504606846977 := fun u hu => by
     obtain ⟨z, hz, e⟩ := (HCX.out.2.1 u).1 hu
     have := vS_true.1 (HV.out z hz)
     rcases e with e | e <;> omega
    have hia := hin (cs.getD k 0) (by rw [Y8, Y9 Yo]; exact List.getElem_mem _)
    have hib := hin (cs.getD (k + 1) 0) (by rw [Y8, Y9 hlt]; exact List.getElem_mem _)
    have hnx : rpAt zs cs (k + 1) = if cntS zs (cs.getD k 0) = 0 then rpAt zs cs k else addP (rpAt zs cs k) ⟨cs.getD k 0, cs.getD (k + 1) 0 - 1, cntS zs (cs.getD k 0)⟩ := rfl
    have hlo := rp_lo (zs := zs) (fun u hu => (hin u hu).1) k Yo
    rw [hout] at hnx p1 p2 hlo
    have HLO := Yh hlo; clear hlo
    have hnn := cntS_nonneg zs (cs.getD k 0)
    have EA : ∀ W, Below w2.heap.size w2 W → W.cell? ⟨bl, off + k, none⟩ = some (.int .i64 (cs.getD k 0)) := fun W h => (h.cell (p := ⟨bl, off + k, none⟩) hb).trans (HCS.out k Yo)
    have EB : ∀ W, Below w2.heap.size w2 W → W.cell? ⟨bl, off + (k + 1), none⟩ = some (.int .i64 (cs.getD (k + 1) 0)) := fun W h => (h.cell (p := ⟨bl, off + (k + 1), none⟩) hb).trans (HCS.out (k + 1) hlt)
    generalize hA : cs.getD k 0 = a at *
    generalize hB : cs.getD (k + 1) 0 = b at *
    clear hA hB hin
    obtain ⟨n, hn⟩ : ∃ n, cntS zs a = n := ⟨_, rfl⟩
    have HKA := Yh (fun W (hW : Below w.heap.size w W) => hn ▸ HK.out a W hW)
    rw [hn] at hnx hnn
    have HNX := Yh hnx; have HP1 := Yh p1; have HP2 := Yh p2; clear hnx hn p1 p2 hout
    have ea := EA _ KR
    have hbW : bl < wr.heap.size := by omega
    go_wp2_with fail
    refine (HKA.out _ bl1).mono ?_
    rintro e w3 ⟨rfl, hb3⟩
    have K3 : Below w2.heap.size w2 w3 := Yc hb3 bl1
    have Z3 := K3.size
    have hr3 : RowP w3 w2.heap.size (.slice A3 out.length c3) out := RowP.below (by first | exact HROW.out | exact RowP.drewN HROW.out _) hb3
    have ea := EA _ K3
    have eb := EB _ K3
    have hbW : bl < w3.heap.size := by omega
    have HR3 := Yh hr3; clear hr3 hb3 HROW KR ZR KW
    have wl : IntKind.i64.wrap ((out.length : Int) - 1) = (out.length : Int) - 1 := IntWalk.i64_in _ Yo
    have wb : IntKind.i64.wrap (b - 1) = b - 1 := IntWalk.i64_in _ Yo
    by_cases hn0 : n = 0
    ·have HSK := Yh (show rpAt zs cs (k + 1) = out by rw [HNX.out, if_pos hn0])
     subst hn0
     go_wp2
     go_roundg (cs.length - (k + 1))
     case measure => omega
     case rel => exact ⟨k + 1, Yo, Yo, by go_num, by rw [HSK.out]; exact HR3.out, bl1⟩
    ·have gn : decide (n = 0) = false := decide_eq_false hn0
     have gnb : (n == 0) = false := by simpa using hn0
     have hadd : rpAt zs cs (k + 1) = addP out ⟨a, b - 1, n⟩ := by rw [HNX.out, if_neg hn0]
     have HADD := Yh hadd; clear hadd hn0 HNX
     obtain ⟨i0, hif, hz0, hz1, hz2⟩ := info_parts infoPc
     have wk1 : IntKind.i64.wrap ((k : Int) + 1) = (k : Int) + 1 := IntWalk.i64_in _ Yo
     have hki0 : (0 : Int) ≤ (k : Int) + 1 := by omega
     have hkl : k < cs.length := by omega
     have hki : (k : Int) + 1 < (cs.length : Int) := by omega
     by_cases m0 : out.length = 0
     ·clear wl
      have w0 : IntKind.i64.wrap ((out.length : Int) - 1) = -1 := by rw [show (out.length : Int) - 1 = -1 by omega]; rfl
      have had : rpAt zs cs (k + 1) = out ++ [⟨a, b - 1, n⟩] := by rw [HADD.out]; exact if_neg (by rintro ⟨h, -⟩; omega)
      have HAD := Yh had; clear had
      have HM0 := Yh m0; clear m0
      go_wp2_with fail
      go_quiet (fail)
      go_wp2_with fail
      refine' wp_region_calmS Yr (fun n9 us w' => Below w2.heap.size w2 w' ∧ w3.heap.size ≤ w'.heap.size ∧ (n9 = 0 → w'.ownsRow w2.heap.size 202 3 (.slice A3 out.length c3) out.length (cellsP (out))) ∧ (n9 ≤ 1 → us[1]? = some (.slice A3 out.length c3)) ∧ (n9 = 1 → ∃ A' c', us[0]? = some (.slice A' (out.length + 1) c') ∧ w'.ownsRow w2.heap.size 202 3 (.slice A' (out.length + 1) c') (out.length + 1) (cellsP (out) ++ [.int .i64 a, .int .i64 (b - 1), .int .i64 n])) ∧ (n9 = 2 → ∃ A' c', us[1]? = some (.slice A' (out.length + 1) c') ∧ w'.ownsRow w2.heap.size 202 3 (.slice A' (out.length + 1) c') (out.length + 1) (cellsP (out) ++ [.int .i64 a, .int .i64 (b - 1), .int .i64 n]))) (fun w w' => w.grownBy w' ((Value.slice A3 out.length c3).ownBlock)) [(Is (.slice A3 out.length c3)), (Is (.slice (some ⟨bl, off, none⟩) cs.length c2)), (Is (.int .i64 (k : Int))), (Is (.pointer (some ⟨bl, off + k, none⟩))), (Is (.int .i64 a)), (Is (.slice (some ⟨bl, off, none⟩) cs.length c2)), (Is (.int .i64 (k : Int))), (Is (.int .i64 ((k : Int) + 1))), (Is (.pointer (some ⟨bl, off + (k + 1), none⟩))), (Is (.int .i64 b)), (Is (.int .i64 (b - 1))), (Is (.agg #[.int .i64 a, .int .i64 (b - 1)])), (Is (.int .i64 n)), (Is (.agg #[.int .i64 a, .int .i64 (b - 1), .int .i64 n])), (OneP ((Value.slice A3 out.length c3).ownBlock) a (b - 1) n), (fun _ _ _ => True), (fun _ _ _ => True)] [[], [], [], [1, 2], [3], [], [], [6], [5, 7], [8], [9], [4, 10], [], [11, 12], [13], [0, 14], [15]] [15, 16] [15, 16] rfl Yr Yp ?_ (Y1 (Y1 (Y1 (Y1 (Y1 (Y1 (Y1 (Y1 (Y1 (Y1 (Y1 (Y1 (Y1 (Y1 (kcc keep_oneP (Y0 (Y0 Yn))))))))))))))))) ?_ ?_
      ·skip
       exact ⟨(below_drewN K3 _).drew, Nat.le_refl _, fun _ => HR3.out, fun _ => rfl, fun h => absurd h Yd, fun h => absurd h Yd⟩
      ·skip
       refine Yz (fun u wq n' hn hn2 hC hk K hK => ?_) ?_
       ·obtain ⟨hP, hS, hR, hU, h1, h2⟩ := hC
        clear hk
        obtain rfl : n' = 0 := Nat.le_zero.1 (hn2 0 15 rfl Yr)
        have hu : u 16 = .slice A3 out.length c3 := Option.some.inj (show some (u 16) = _ from hU Yd)
        simp only [hu] at hK ⊢
        have HU := Yh hu; clear hu
        have RR := Yh hR; clear hR
        go_simp
        exact hK _ _ _ rfl ⟨hP, hS, RR.out, hU, h1, h2⟩ (grown_belowP _ Yl) rfl
       iterate 3 refine zq0 ?_
       refine zq1 (fun _ _ _ _ _ ⟨hP, _⟩ => (EA _ hP)) ?_
       iterate 4 refine zq0 ?_
       refine zq1 (fun _ _ _ _ _ ⟨hP, _⟩ => (EB _ hP)) ?_
       iterate 4 refine zq0 ?_
       refine Yz (fun u wq n' hn hn2 hC hk K hK => ?_) ?_
       ·obtain ⟨hP, hS, hR, hU, h1, h2⟩ := hC
        simp only [calmKnown, lg0, lg1, and_true, Is] at hk
        have h13 := hk; clear hk
        simp only [h13] at hK ⊢
        have H13 := Yh h13; clear h13
        obtain rfl : n' = 0 := Nat.le_zero.1 (hn2 0 15 rfl Yr)
        have hr := hR rfl
        have hXl : ∀ k, (Value.slice A3 out.length c3).ownBlock = some k → k < wq.heap.size := fun k hk => (World.ownsRow.lt hr k hk).2
        have HR := Yh hr; clear hr hR
        go_simp
        exact hK _ _ _ rfl ⟨hP.alloc hP.size _, by simp; omega, fun _ => World.ownsRow.alloc HR.out _, hU, fun h => absurd h Yd, fun h => absurd h Yd⟩ (grown_belowP _ (Yl.alloc (Nat.le_refl _) _)) ⟨wq.heap.size, rfl, fun e => absurd (hXl _ e.symm) Yo, Blk.new _ _ _⟩
       refine Yz (fun u wq n' hn hn2 hC hk K hK => ?_) ?_
       ·obtain ⟨hP, hS, hR, hU, h1, h2⟩ := hC
        simp only [calmKnown, lg0, lg1, and_true, Is] at hk
        obtain ⟨h0, ⟨g5, h14, hgX, hgB⟩⟩ := hk
        simp only [h0, h14] at hK ⊢
        have H0 := Yh h0; clear h0; have H14 := Yh h14; clear h14
        obtain rfl := hn 0 rfl
        have hr := hR rfl
        refine calm_opP (by rfl) ?_
        refine wp_append_exact _ _ 199 rfl w2.heap.size 202 i0 (.agg #[.int .i64 0, .int .i64 0, .int .i64 0]) 3 24 Tryz.underlying199 hif hz0 hz1 hz2 rfl Yd (.slice A3 out.length c3) out.length (cellsP (out)) rfl hr (some ⟨g5, 0, none⟩) 1 1 [.int .i64 a, .int .i64 (b - 1), .int .i64 n] rfl rfl (fun _ => ⟨_, rfl, World.news_of_block (t := 202) (fr := (0, 0)) hgB⟩) (by simp [Value.oneCell']) (by unfold maxLen; omega) Yo hP.size ?_
        intro A' c' w' hown hgr _
        have hb9 : Below w2.heap.size w2 w' := by rcases hgr with h | ⟨g0, cap0, e, -, -, h⟩; (exact hP.grown h hP.size (fun k hk => by cases hk)); (exact hP.grown h hP.size (fun k hk => by injection hk with hk; subst hk; exact (World.ownsRow.lt hr g0 (by rw [e]; rfl)).1))
        have hg9 : wq.grownBy w' ((Value.slice A3 out.length c3).ownBlock) := by rcases hgr with h | ⟨g0, cap0, e, -, -, h⟩; (exact ⟨h.os, h.tape, h.output, h.size, fun k hk hn => h.block k hk Ys⟩); (rw [e]; exact h)
        exact hK _ _ _ rfl ⟨hb9, Nat.le_trans hS hg9.size, fun h => absurd h Yd, fun _ => hU Yd, fun _ => ⟨A', c', rfl, hown⟩, fun h => absurd h Yd⟩ hg9 trivial
       refine Yz (fun u wq n' hn hn2 hC hk K hK => ?_) ?_
       ·obtain ⟨hP, hS, hR, hU, h1, h2⟩ := hC
        simp only [calmKnown, lg0, lg1, and_true, Is] at hk
        have _p := hk; clear hk
        obtain rfl := hn 1 rfl
        obtain ⟨A1, c1, e1, e3⟩ := h1 rfl
        have e1 : u 15 = .slice A1 (out.length + 1) c1 := Option.some.inj (show some (u 15) = _ from e1)
        simp only [e1] at hK ⊢
        have E9 := Yh e1; clear e1
        go_simp
        exact hK _ _ _ rfl ⟨hP, hS, fun h => absurd h Yd, fun h => absurd h Yd, fun h => absurd h Yd, fun _ => ⟨A1, c1, rfl, e3⟩⟩ (grown_belowP _ Yl) trivial
       exact Yw
      ·intro u w9 hC hF
       obtain ⟨hP, -, -, -, -, h2⟩ := hC
       obtain ⟨A9, c9, e1, e3⟩ := h2 Yd
       have e1 : u 16 = .slice A9 (out.length + 1) c9 := Option.some.inj (show some (u 16) = _ from e1)
       simp only [e1]
       clear e1 hF
       have hr9 : RowP w9 w2.heap.size (.slice A9 (out.length + 1) c9) ((out) ++ [⟨a, b - 1, n⟩]) := by unfold RowP; rw [show ((out) ++ [(⟨a, b - 1, n⟩ : Pc)]).length = out.length + 1 from by simp, cellsP_snoc]; exact e3
       have R9 := Yh hr9; clear e3 hr9
       go_wp2
       go_roundg (cs.length - (k + 1))
       case measure => omega
       case rel => exact ⟨k + 1, Yo, Yo, by go_num, by rw [HAD.out]; exact R9.out, hP⟩
     ·obtain ⟨g, cp, eg, hg1, hg2, hgf, hgc⟩ := RowP.form HR3.out Yo
      obtain ⟨a', x9, rfl⟩ := snoc_of (l := out) Yo
      have hln : (a' ++ [x9]).length = a'.length + 1 := by simp
      cases eg
      obtain ⟨d0, d1, d2⟩ := hgc a'.length Yo
      have hgl : (a' ++ [x9]).getD a'.length ⟨0, 0, 0⟩ = x9 := by simp [Y8]
      have hgl2 : (a' ++ [x9]).getD ((a' ++ [x9]).length - 1) ⟨0, 0, 0⟩ = x9 := by rw [hln]; exact hgl
      have hset : ∀ u : Pc, (a' ++ [x9]).set ((a' ++ [x9]).length - 1) u = a' ++ [u] := fun u => by
       rw [hln, Nat.add_sub_cancel, List.set_append, if_neg Yo, Nat.sub_self]; rfl
      rw [hgl] at d0 d1 d2
      clear hgc
      have hst2 : rpAt zs cs (k + 1) = if 0 < (a' ++ [x9]).length ∧ x9.n = n ∧ x9.hi + 1 = a then a' ++ [⟨x9.lo, b - 1, n⟩] else (a' ++ [x9]) ++ [⟨a, b - 1, n⟩] := by rw [HADD.out]; unfold addP; rw [hgl2, hset]
      have hbx := HP2.out x9 Ys
      have hbl := (HP1.out.1 x9 Ys).1
      have hbo := HLO.out x9 Ys
      have HST2 := Yh hst2; have HLN := Yh hln; clear hst2 hgl hgl2 hset HADD
      have hHR : RowP w3 w2.heap.size (.slice (some ⟨g, 0, none⟩) (a'.length + 1) c3) (a' ++ [x9]) := by have := HR3.out; rwa [HLN.out] at this
      rw [hln] at hpl wl ⊢
      clear HR3 hln m0
      have HR3 := Yh hHR; clear hHR
      obtain ⟨xl, xh, xn⟩ := x9
      dsimp only at hbx hbl hbo d0 d1 d2 HST2
      obtain ⟨q, hq⟩ : ∃ q, q = a'.length := ⟨_, rfl⟩
      rw [← hq] at d0 d1 d2 hpl wl ⊢
      rw [← hq] at HR3
      have HM := Yh hq; clear hq wl
      have wm : IntKind.i64.wrap (((q : Int) + 1) - 1) = (q : Int) := by rw [show (q : Int) + 1 - 1 = (q : Int) by omega]; exact IntWalk.i64_in _ Yo
      have wm2 : IntKind.i64.wrap ((((q + 1 : Nat) : Int)) - 1) = (q : Int) := by rw [show (((q + 1 : Nat) : Int)) - 1 = (q : Int) by omega]; exact IntWalk.i64_in _ Yo
      have g3 : decide (0 ≤ (q : Int)) = true := Y2
      have hR9 : RowP w3 w2.heap.size (.slice (some ⟨g, 0, none⟩) (a' ++ [(⟨xl, xh, xn⟩ : Pc)]).length c3) (a' ++ [(⟨xl, xh, xn⟩ : Pc)]) := by have := HR3.out; rw [HLN.out, ← HM.out]; exact this
      have HR9 := Yh hR9; clear hR9
      have nbg : bl ≠ g := by omega
      have wx : IntKind.i64.wrap (xh + 1) = xh + 1 := IntWalk.i64_in _ Yo
      by_cases q1 : xn = n
      ·obtain rfl : n = xn := q1.symm
       by_cases q2 : xh + 1 = a
       ·have HQ2 := Yh q2
        have g5 : decide (xh + 1 = a) = true := decide_eq_true q2
        have g5b : ((xh + 1) == a) = true := by simpa using q2
        clear q2
        have had : rpAt zs cs (k + 1) = a' ++ [⟨xl, b - 1, n⟩] := by rw [HST2.out, if_pos ⟨by simp, rfl, HQ2.out⟩]
        have HAD := Yh had; clear had
        have hfz := hgf (q * 3 + 1)
        go_wp2_with fail
        go_quiet (fail)
        have hs9 := World.ownsRow.stored (RowP.drewN HR9.out nq) (q * 3 + 1) (.int .i64 (b - 1))
        have HS9 := Yh hs9; clear hs9
        go_wp2
        go_roundg (cs.length - (k + 1))
        case measure => omega
        case rel =>
         refine ⟨k + 1, Yo, Yo, by go_num, ?_, bl1⟩
         rw [HAD.out]
         have h1 := HS9.out.1
         unfold RowP
         have e1 : (a' ++ [(⟨xl, b - 1, n⟩ : Pc)]).length = (a' ++ [(⟨xl, xh, n⟩ : Pc)]).length := by simp
         rw [e1, ← cellsP_set a' ⟨xl, xh, n⟩ (b - 1), ← HM.out]
         have e2 := HLN.out
         rw [e2, ← HM.out] at h1
         rw [e2, ← HM.out]
         exact h1
       ·have g5 : decide (xh + 1 = a) = false := decide_eq_false q2
        have g5b : ((xh + 1) == a) = false := by simpa using q2
        have had : rpAt zs cs (k + 1) = (a' ++ [(⟨xl, xh, n⟩ : Pc)]) ++ [⟨a, b - 1, n⟩] := by rw [HST2.out, if_neg (fun h => q2 h.2.2)]
        have HAD := Yh had; clear had
        go_wp2_with fail
        go_quiet (fail)
        go_wp2_with fail
        refine' wp_region_calmS Yr (fun n9 us w' => Below w2.heap.size w2 w' ∧ w3.heap.size ≤ w'.heap.size ∧ (n9 = 0 → w'.ownsRow w2.heap.size 202 3 (.slice (some ⟨g, 0, none⟩) (q + 1) c3) (q + 1) (cellsP (a' ++ [(⟨xl, xh, n⟩ : Pc)]))) ∧ (n9 ≤ 1 → us[1]? = some (.slice (some ⟨g, 0, none⟩) (q + 1) c3)) ∧ (n9 = 1 → ∃ A' c', us[0]? = some (.slice A' ((q + 1) + 1) c') ∧ w'.ownsRow w2.heap.size 202 3 (.slice A' ((q + 1) + 1) c') ((q + 1) + 1) (cellsP (a' ++ [(⟨xl, xh, n⟩ : Pc)]) ++ [.int .i64 a, .int .i64 (b - 1), .int .i64 n])) ∧ (n9 = 2 → ∃ A' c', us[1]? = some (.slice A' ((q + 1) + 1) c') ∧ w'.ownsRow w2.heap.size 202 3 (.slice A' ((q + 1) + 1) c') ((q + 1) + 1) (cellsP (a' ++ [(⟨xl, xh, n⟩ : Pc)]) ++ [.int .i64 a, .int .i64 (b - 1), .int .i64 n]))) (fun w w' => w.grownBy w' ((Value.slice (some ⟨g, 0, none⟩) (q + 1) c3).ownBlock)) [(Is (.slice (some ⟨g, 0, none⟩) (q + 1) c3)), (Is (.slice (some ⟨bl, off, none⟩) cs.length c2)), (Is (.int .i64 (k : Int))), (Is (.pointer (some ⟨bl, off + k, none⟩))), (Is (.int .i64 a)), (Is (.slice (some ⟨bl, off, none⟩) cs.length c2)), (Is (.int .i64 (k : Int))), (Is (.int .i64 ((k : Int) + 1))), (Is (.pointer (some ⟨bl, off + (k + 1), none⟩))), (Is (.int .i64 b)), (Is (.int .i64 (b - 1))), (Is (.agg #[.int .i64 a, .int .i64 (b - 1)])), (Is (.int .i64 n)), (Is (.agg #[.int .i64 a, .int .i64 (b - 1), .int .i64 n])), (OneP ((Value.slice (some ⟨g, 0, none⟩) (q + 1) c3).ownBlock) a (b - 1) n), (fun _ _ _ => True), (fun _ _ _ => True)] [[], [], [], [1, 2], [3], [], [], [6], [5, 7], [8], [9], [4, 10], [], [11, 12], [13], [0, 14], [15]] [15, 16] [15, 16] rfl Yr Yp ?_ (Y1 (Y1 (Y1 (Y1 (Y1 (Y1 (Y1 (Y1 (Y1 (Y1 (Y1 (Y1 (Y1 (Y1 (kcc keep_oneP (Y0 (Y0 Yn))))))))))))))))) ?_ ?_
        ·skip
         exact ⟨(below_drewN K3 _).drew, Nat.le_refl _, fun _ => (by have h := HR3.out; unfold RowP at h; rw [show (a' ++ [(⟨xl, xh, n⟩ : Pc)]).length = q + 1 from by rw [HM.out]; simp] at h; exact h), fun _ => rfl, fun h => absurd h Yd, fun h => absurd h Yd⟩
        ·skip
         refine Yz (fun u wq n' hn hn2 hC hk K hK => ?_) ?_
         ·obtain ⟨hP, hS, hR, hU, h1, h2⟩ := hC
          clear hk
          obtain rfl : n' = 0 := Nat.le_zero.1 (hn2 0 15 rfl Yr)
          have hu : u 16 = .slice (some ⟨g, 0, none⟩) (q + 1) c3 := Option.some.inj (show some (u 16) = _ from hU Yd)
          simp only [hu] at hK ⊢
          have HU := Yh hu; clear hu
          have RR := Yh hR; clear hR
          go_simp
          exact hK _ _ _ rfl ⟨hP, hS, RR.out, hU, h1, h2⟩ (grown_belowP _ Yl) rfl
         iterate 3 refine zq0 ?_
         refine zq1 (fun _ _ _ _ _ ⟨hP, _⟩ => (EA _ hP)) ?_
         iterate 4 refine zq0 ?_
         refine zq1 (fun _ _ _ _ _ ⟨hP, _⟩ => (EB _ hP)) ?_
         iterate 4 refine zq0 ?_
         refine Yz (fun u wq n' hn hn2 hC hk K hK => ?_) ?_
         ·obtain ⟨hP, hS, hR, hU, h1, h2⟩ := hC
          simp only [calmKnown, lg0, lg1, and_true, Is] at hk
          have h13 := hk; clear hk
          simp only [h13] at hK ⊢
          have H13 := Yh h13; clear h13
          obtain rfl : n' = 0 := Nat.le_zero.1 (hn2 0 15 rfl Yr)
          have hr := hR rfl
          have hXl : ∀ k, (Value.slice (some ⟨g, 0, none⟩) (q + 1) c3).ownBlock = some k → k < wq.heap.size := fun k hk => (World.ownsRow.lt hr k hk).2
          have HR := Yh hr; clear hr hR
          go_simp
          exact hK _ _ _ rfl ⟨hP.alloc hP.size _, by simp; omega, fun _ => World.ownsRow.alloc HR.out _, hU, fun h => absurd h Yd, fun h => absurd h Yd⟩ (grown_belowP _ (Yl.alloc (Nat.le_refl _) _)) ⟨wq.heap.size, rfl, fun e => absurd (hXl _ e.symm) Yo, Blk.new _ _ _⟩
         refine Yz (fun u wq n' hn hn2 hC hk K hK => ?_) ?_
         ·obtain ⟨hP, hS, hR, hU, h1, h2⟩ := hC
          simp only [calmKnown, lg0, lg1, and_true, Is] at hk
          obtain ⟨h0, ⟨g5, h14, hgX, hgB⟩⟩ := hk
          simp only [h0, h14] at hK ⊢
          have H0 := Yh h0; clear h0; have H14 := Yh h14; clear h14
          obtain rfl := hn 0 rfl
          have hr := hR rfl
          refine calm_opP (by rfl) ?_
          refine wp_append_exact _ _ 199 rfl w2.heap.size 202 i0 (.agg #[.int .i64 0, .int .i64 0, .int .i64 0]) 3 24 Tryz.underlying199 hif hz0 hz1 hz2 rfl Yd (.slice (some ⟨g, 0, none⟩) (q + 1) c3) (q + 1) (cellsP (a' ++ [(⟨xl, xh, n⟩ : Pc)])) rfl hr (some ⟨g5, 0, none⟩) 1 1 [.int .i64 a, .int .i64 (b - 1), .int .i64 n] rfl rfl (fun _ => ⟨_, rfl, World.news_of_block (t := 202) (fr := (0, 0)) hgB⟩) (by simp [Value.oneCell']) (by unfold maxLen; omega) Yo hP.size ?_
          intro A' c' w' hown hgr _
          have hb9 : Below w2.heap.size w2 w' := by rcases hgr with h | ⟨g0, cap0, e, -, -, h⟩; (exact hP.grown h hP.size (fun k hk => by cases hk)); (exact hP.grown h hP.size (fun k hk => by injection hk with hk; subst hk; exact (World.ownsRow.lt hr g0 (by rw [e]; rfl)).1))
          have hg9 : wq.grownBy w' ((Value.slice (some ⟨g, 0, none⟩) (q + 1) c3).ownBlock) := by rcases hgr with h | ⟨g0, cap0, e, -, -, h⟩; (exact ⟨h.os, h.tape, h.output, h.size, fun k hk hn => h.block k hk Ys⟩); (rw [e]; exact h)
          exact hK _ _ _ rfl ⟨hb9, Nat.le_trans hS hg9.size, fun h => absurd h Yd, fun _ => hU Yd, fun _ => ⟨A', c', rfl, hown⟩, fun h => absurd h Yd⟩ hg9 trivial
         refine Yz (fun u wq n' hn hn2 hC hk K hK => ?_) ?_
         ·obtain ⟨hP, hS, hR, hU, h1, h2⟩ := hC
          simp only [calmKnown, lg0, lg1, and_true, Is] at hk
          have _p := hk; clear hk
          obtain rfl := hn 1 rfl
          obtain ⟨A1, c1, e1, e3⟩ := h1 rfl
          have e1 : u 15 = .slice A1 ((q + 1) + 1) c1 := Option.some.inj (show some (u 15) = _ from e1)
          simp only [e1] at hK ⊢
          have E9 := Yh e1; clear e1
          go_simp
          exact hK _ _ _ rfl ⟨hP, hS, fun h => absurd h Yd, fun h => absurd h Yd, fun h => absurd h Yd, fun _ => ⟨A1, c1, rfl, e3⟩⟩ (grown_belowP _ Yl) trivial
         exact Yw
        ·intro u w9 hC hF
         obtain ⟨hP, -, -, -, -, h2⟩ := hC
         obtain ⟨A9, c9, e1, e3⟩ := h2 Yd
         have e1 : u 16 = .slice A9 ((q + 1) + 1) c9 := Option.some.inj (show some (u 16) = _ from e1)
         simp only [e1]
         clear e1 hF
         have hr9 : RowP w9 w2.heap.size (.slice A9 ((q + 1) + 1) c9) ((a' ++ [(⟨xl, xh, n⟩ : Pc)]) ++ [⟨a, b - 1, n⟩]) := by unfold RowP; rw [show ((a' ++ [(⟨xl, xh, n⟩ : Pc)]) ++ [(⟨a, b - 1, n⟩ : Pc)]).length = (q + 1) + 1 from by rw [HM.out]; simp, cellsP_snoc]; exact e3
         have R9 := Yh hr9; clear e3 hr9
         go_wp2
         go_roundg (cs.length - (k + 1))
         case measure => omega
         case rel => exact ⟨k + 1, Yo, Yo, by go_num, by rw [HAD.out]; exact R9.out, hP⟩
      ·have g4 : decide (xn = n) = false := decide_eq_false q1
       have g4b : (xn == n) = false := by simpa using q1
       have had : rpAt zs cs (k + 1) = (a' ++ [(⟨xl, xh, xn⟩ : Pc)]) ++ [⟨a, b - 1, n⟩] := by rw [HST2.out, if_neg (fun h => q1 h.2.1)]
       have HAD := Yh had; clear had
       go_wp2_with fail
       go_quiet (fail)
       go_wp2_with fail
       refine' wp_region_calmS Yr (fun n9 us w' => Below w2.heap.size w2 w' ∧ w3.heap.size ≤ w'.heap.size ∧ (n9 = 0 → w'.ownsRow w2.heap.size 202 3 (.slice (some ⟨g, 0, none⟩) (q + 1) c3) (q + 1) (cellsP (a' ++ [(⟨xl, xh, xn⟩ : Pc)]))) ∧ (n9 ≤ 1 → us[1]? = some (.slice (some ⟨g, 0, none⟩) (q + 1) c3)) ∧ (n9 = 1 → ∃ A' c', us[0]? = some (.slice A' ((q + 1) + 1) c') ∧ w'.ownsRow w2.heap.size 202 3 (.slice A' ((q + 1) + 1) c') ((q + 1) + 1) (cellsP (a' ++ [(⟨xl, xh, xn⟩ : Pc)]) ++ [.int .i64 a, .int .i64 (b - 1), .int .i64 n])) ∧ (n9 = 2 → ∃ A' c', us[1]? = some (.slice A' ((q + 1) + 1) c') ∧ w'.ownsRow w2.heap.size 202 3 (.slice A' ((q + 1) + 1) c') ((q + 1) + 1) (cellsP (a' ++ [(⟨xl, xh, xn⟩ : Pc)]) ++ [.int .i64 a, .int .i64 (b - 1), .int .i64 n]))) (fun w w' => w.grownBy w' ((Value.slice (some ⟨g, 0, none⟩) (q + 1) c3).ownBlock)) [(Is (.slice (some ⟨g, 0, none⟩) (q + 1) c3)), (Is (.slice (some ⟨bl, off, none⟩) cs.length c2)), (Is (.int .i64 (k : Int))), (Is (.pointer (some ⟨bl, off + k, none⟩))), (Is (.int .i64 a)), (Is (.slice (some ⟨bl, off, none⟩) cs.length c2)), (Is (.int .i64 (k : Int))), (Is (.int .i64 ((k : Int) + 1))), (Is (.pointer (some ⟨bl, off + (k + 1), none⟩))), (Is (.int .i64 b)), (Is (.int .i64 (b - 1))), (Is (.agg #[.int .i64 a, .int .i64 (b - 1)])), (Is (.int .i64 n)), (Is (.agg #[.int .i64 a, .int .i64 (b - 1), .int .i64 n])), (OneP ((Value.slice (some ⟨g, 0, none⟩) (q + 1) c3).ownBlock) a (b - 1) n), (fun _ _ _ => True), (fun _ _ _ => True)] [[], [], [], [1, 2], [3], [], [], [6], [5, 7], [8], [9], [4, 10], [], [11, 12], [13], [0, 14], [15]] [15, 16] [15, 16] rfl Yr Yp ?_ (Y1 (Y1 (Y1 (Y1 (Y1 (Y1 (Y1 (Y1 (Y1 (Y1 (Y1 (Y1 (Y1 (Y1 (kcc keep_oneP (Y0 (Y0 Yn))))))))))))))))) ?_ ?_
       ·skip
        exact ⟨(below_drewN K3 _).drew, Nat.le_refl _, fun _ => (by have h := HR3.out; unfold RowP at h; rw [show (a' ++ [(⟨xl, xh, xn⟩ : Pc)]).length = q + 1 from by rw [HM.out]; simp] at h; exact h), fun _ => rfl, fun h => absurd h Yd, fun h => absurd h Yd⟩
       ·skip
        refine Yz (fun u wq n' hn hn2 hC hk K hK => ?_) ?_
        ·obtain ⟨hP, hS, hR, hU, h1, h2⟩ := hC
         clear hk
         obtain rfl : n' = 0 := Nat.le_zero.1 (hn2 0 15 rfl Yr)
         have hu : u 16 = .slice (some ⟨g, 0, none⟩) (q + 1) c3 := Option.some.inj (show some (u 16) = _ from hU Yd)
         simp only [hu] at hK ⊢
         have HU := Yh hu; clear hu
         have RR := Yh hR; clear hR
         go_simp
         exact hK _ _ _ rfl ⟨hP, hS, RR.out, hU, h1, h2⟩ (grown_belowP _ Yl) rfl
        iterate 3 refine zq0 ?_
        refine zq1 (fun _ _ _ _ _ ⟨hP, _⟩ => (EA _ hP)) ?_
        iterate 4 refine zq0 ?_
        refine zq1 (fun _ _ _ _ _ ⟨hP, _⟩ => (EB _ hP)) ?_
        iterate 4 refine zq0 ?_
        refine Yz (fun u wq n' hn hn2 hC hk K hK => ?_) ?_
        ·obtain ⟨hP, hS, hR, hU, h1, h2⟩ := hC
         simp only [calmKnown, lg0, lg1, and_true, Is] at hk
         have h13 := hk; clear hk
         simp only [h13] at hK ⊢
         have H13 := Yh h13; clear h13
         obtain rfl : n' = 0 := Nat.le_zero.1 (hn2 0 15 rfl Yr)
         have hr := hR rfl
         have hXl : ∀ k, (Value.slice (some ⟨g, 0, none⟩) (q + 1) c3).ownBlock = some k → k < wq.heap.size := fun k hk => (World.ownsRow.lt hr k hk).2
         have HR := Yh hr; clear hr hR
         go_simp
         exact hK _ _ _ rfl ⟨hP.alloc hP.size _, by simp; omega, fun _ => World.ownsRow.alloc HR.out _, hU, fun h => absurd h Yd, fun h => absurd h Yd⟩ (grown_belowP _ (Yl.alloc (Nat.le_refl _) _)) ⟨wq.heap.size, rfl, fun e => absurd (hXl _ e.symm) Yo, Blk.new _ _ _⟩
        refine Yz (fun u wq n' hn hn2 hC hk K hK => ?_) ?_
        ·obtain ⟨hP, hS, hR, hU, h1, h2⟩ := hC
         simp only [calmKnown, lg0, lg1, and_true, Is] at hk
         obtain ⟨h0, ⟨g5, h14, hgX, hgB⟩⟩ := hk
         simp only [h0, h14] at hK ⊢
         have H0 := Yh h0; clear h0; have H14 := Yh h14; clear h14
         obtain rfl := hn 0 rfl
         have hr := hR rfl
         refine calm_opP (by rfl) ?_
         refine wp_append_exact _ _ 199 rfl w2.heap.size 202 i0 (.agg #[.int .i64 0, .int .i64 0, .int .i64 0]) 3 24 Tryz.underlying199 hif hz0 hz1 hz2 rfl Yd (.slice (some ⟨g, 0, none⟩) (q + 1) c3) (q + 1) (cellsP (a' ++ [(⟨xl, xh, xn⟩ : Pc)])) rfl hr (some ⟨g5, 0, none⟩) 1 1 [.int .i64 a, .int .i64 (b - 1), .int .i64 n] rfl rfl (fun _ => ⟨_, rfl, World.news_of_block (t := 202) (fr := (0, 0)) hgB⟩) (by simp [Value.oneCell']) (by unfold maxLen; omega) Yo hP.size ?_
         intro A' c' w' hown hgr _
         have hb9 : Below w2.heap.size w2 w' := by rcases hgr with h | ⟨g0, cap0, e, -, -, h⟩; (exact hP.grown h hP.size (fun k hk => by cases hk)); (exact hP.grown h hP.size (fun k hk => by injection hk with hk; subst hk; exact (World.ownsRow.lt hr g0 (by rw [e]; rfl)).1))
         have hg9 : wq.grownBy w' ((Value.slice (some ⟨g, 0, none⟩) (q + 1) c3).ownBlock) := by rcases hgr with h | ⟨g0, cap0, e, -, -, h⟩; (exact ⟨h.os, h.tape, h.output, h.size, fun k hk hn => h.block k hk Ys⟩); (rw [e]; exact h)
         exact hK _ _ _ rfl ⟨hb9, Nat.le_trans hS hg9.size, fun h => absurd h Yd, fun _ => hU Yd, fun _ => ⟨A', c', rfl, hown⟩, fun h => absurd h Yd⟩ hg9 trivial
        refine Yz (fun u wq n' hn hn2 hC hk K hK => ?_) ?_
        ·obtain ⟨hP, hS, hR, hU, h1, h2⟩ := hC
         simp only [calmKnown, lg0, lg1, and_true, Is] at hk
         have _p := hk; clear hk
         obtain rfl := hn 1 rfl
         obtain ⟨A1, c1, e1, e3⟩ := h1 rfl
         have e1 : u 15 = .slice A1 ((q + 1) + 1) c1 := Option.some.inj (show some (u 15) = _ from e1)
         simp only [e1] at hK ⊢
         have E9 := Yh e1; clear e1
         go_simp
         exact hK _ _ _ rfl ⟨hP, hS, fun h => absurd h Yd, fun h => absurd h Yd, fun h => absurd h Yd, fun _ => ⟨A1, c1, rfl, e3⟩⟩ (grown_belowP _ Yl) trivial
        exact Yw
       ·intro u w9 hC hF
        obtain ⟨hP, -, -, -, -, h2⟩ := hC
        obtain ⟨A9, c9, e1, e3⟩ := h2 Yd
        have e1 : u 16 = .slice A9 ((q + 1) + 1) c9 := Option.some.inj (show some (u 16) = _ from e1)
        simp only [e1]
        clear e1 hF
        have hr9 : RowP w9 w2.heap.size (.slice A9 ((q + 1) + 1) c9) ((a' ++ [(⟨xl, xh, xn⟩ : Pc)]) ++ [⟨a, b - 1, n⟩]) := by unfold RowP; rw [show ((a' ++ [(⟨xl, xh, xn⟩ : Pc)]) ++ [(⟨a, b - 1, n⟩ : Pc)]).length = (q + 1) + 1 from by rw [HM.out]; simp, cellsP_snoc]; exact e3
        have R9 := Yh hr9; clear e3 hr9
        go_wp2
        go_roundg (cs.length - (k + 1))
        case measure => omega
        case rel => exact ⟨k + 1, Yo, Yo, by go_num, by rw [HAD.out]; exact R9.out, hP⟩
   ·have gk : decide (((k + 1 : Nat) : Int) < (cs.length : Int)) = false := Y3
    have gk2 : decide ((k : Int) + 1 < (cs.length : Int)) = false := Y3
    have hkk : k = cs.length - 1 := by omega
    obtain ⟨l1, l2⟩ := HLAW.out
    rw [← hkk, hout] at l1 l2
    have hpc := pcs_of_row HROW.out Yo
    have HPC := Yh hpc; have HL1 := Yh l1; have HL2 := Yh l2; clear hpc l1 l2 hout
    go_wp2
    go_ret2
    exact ⟨A3, c3, out, by rw [HC0.out]; rfl, HPC.out, .inr ⟨HC0.out, HL1.out, HL2.out, Yo⟩, bl1⟩
 ·obtain ⟨c, hc⟩ : ∃ c, ckE zs = c := ⟨_, rfl⟩
  have hci := ckE_in zs
  have HB := Yh hc0
  rw [hc] at hc0 hci
  simp only [hc] at HC
  have g0 : decide (c = 0) = false := decide_eq_false hc0
  have g0b : (c == 0) = false := by simpa using hc0
  have g0c : (c != 0) = true := by simpa using hc0
  have HCC := Yh hc; clear h hc hc0
  go_enter Tryz.func237, Tryz.ntmps237
  go_wp2_with fail
  refine (HC.out _ bl0).mono ?_
  rintro e w1 ⟨rfl, hb1⟩
  have K1 : Below w.heap.size w w1 := Yc hb1 bl0
  have Z1 := K1.size
  clear hb1
  go_wp2
  go_ret2
  exact ⟨none, 0, [], by rw [HCC.out]; rfl, pcs_nil, .inl ⟨HB.out, rfl⟩, bl1⟩
theorem rpf_all {A : Option Addr} {len cap : Nat} {zs : List (Int × Int)} {w : World} (h : SpansAt w A len zs) : RPf A len cap zs w := fun W hW => rprofile_any A len cap zs W (h.below hW)
theorem rLeast_any (A : Option Addr) (len cap : Nat) (zs : List (Int × Int)) (n : Int) (w : World) (h : SpansAt w A len zs) : Calls Tryz.prog 221 #[.slice A len cap, .int .i64 n] w (LsR w zs n) := rLeast_of A len cap zs n w (rpf_all h)
end Go.Proofs.YtiinmhfolfgobaaGreatDoor
