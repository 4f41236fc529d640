/- Lemmas. -/
import Derived.Test.YtiinmhfolfgobaaGreatDoorJ20
import Derived.Test.YtiinmhfolfgobaaGreatDoorJ22
import Derived.Test.YtiinmhfolfgobaaGreatDoorJ21
import Derived.Test.YtiinmhfolfgobaaGreatDoorJ9
set_option linter.unusedVariables false
set_option linter.unusedSimpArgs false
namespace Go.Proofs.YtiinmhfolfgobaaGreatDoor
open Go.RowKit Go.Shelf Go.Sort
set_option maxHeartbeats 8000000
set_option maxRecDepth 100000
structure K6 where
 (at_ lo hi pp le re : Int)
def K6.cs (k : K6) : List Value := [.int .i64 k.at_, .int .i64 k.lo, .int .i64 k.hi, .int .i64 k.pp, .int .i64 k.le, .int .i64 k.re]
def K6.zero : K6 := ⟨0, 0, 0, 0, 0, 0⟩
def KnAt (w : World) (A : Option Addr) (len : Nat) (ks : List K6) : Prop := ks.length = len ∧ len ≤ 9223372036854775807 ∧ (0 < len → ∃ b off, A = some ⟨b, off, none⟩ ∧ b < w.heap.size ∧ ∀ j, j < len → w.cell? ⟨b, off + j * 6, none⟩ = some (.int .i64 (ks.getD j .zero).at_) ∧ w.cell? ⟨b, off + j * 6 + 1, none⟩ = some (.int .i64 (ks.getD j .zero).lo) ∧ w.cell? ⟨b, off + j * 6 + 2, none⟩ = some (.int .i64 (ks.getD j .zero).hi) ∧ w.cell? ⟨b, off + j * 6 + 3, none⟩ = some (.int .i64 (ks.getD j .zero).pp) ∧ w.cell? ⟨b, off + j * 6 + 4, none⟩ = some (.int .i64 (ks.getD j .zero).le) ∧ w.cell? ⟨b, off + j * 6 + 5, none⟩ = some (.int .i64 (ks.getD j .zero).re))
theorem KnAt.below {w w' : World} {A : Option Addr} {len : Nat} {ks : List K6} (h : KnAt w A len ks) (hb : Below w.heap.size w w') : KnAt w' A len ks := by
 obtain ⟨h1, h2, h3⟩ := h
 refine ⟨h1, h2, fun hl => ?_⟩
 obtain ⟨b, off, e, hlt, hc⟩ := h3 hl
 exact ⟨b, off, e, Nat.lt_of_lt_of_le hlt hb.size, fun j hj => ⟨cell_below hb (hc j hj).1, cell_below hb (hc j hj).2.1, cell_below hb (hc j hj).2.2.1, cell_below hb (hc j hj).2.2.2.1, cell_below hb (hc j hj).2.2.2.2.1, cell_below hb (hc j hj).2.2.2.2.2⟩⟩
def nowK (u : Int) (k : K6) : Int × Int × Int := nowT k.at_ k.lo k.hi k.pp k.le k.re u
def spK (u : Int) (k : K6) : Int × Int := ((nowK u k).1, (nowK u k).2.1)
def MG (ks : List K6) (u f x y er : Int) : Prop := (64 < ks.length ∧ x = 0 ∧ y = 0 ∧ er = 8) ∨ (ks.length ≤ 64 ∧ ∃ i, i < ks.length ∧ (∀ j, j < i → (nowK u (ks.getD j .zero)).2.2 = 0) ∧ (nowK u (ks.getD i .zero)).2.2 ≠ 0 ∧ x = 0 ∧ y = 0 ∧ er = (nowK u (ks.getD i .zero)).2.2) ∨ (ks.length ≤ 64 ∧ (∀ j, j < ks.length → (nowK u (ks.getD j .zero)).2.2 = 0) ∧ AX (ks.map (spK u)) f x y er)
theorem MG_uniq {ks : List K6} {u f x y er x' y' er' : Int} (h : MG ks u f x y er) (k : MG ks u f x' y' er') : x = x' ∧ y = y' ∧ er = er' := by
 rcases h with ⟨h0, h1, h2, h3⟩ | ⟨h0, i, hi, h1, h2, h3, h4, h5⟩ | ⟨h0, h1, h2⟩
 ·rcases k with ⟨k0, k1, k2, k3⟩ | ⟨k0, -⟩ | ⟨k0, -⟩
  ·exact ⟨h1.trans k1.symm, h2.trans k2.symm, h3.trans k3.symm⟩
  ·omega
  ·omega
 ·rcases k with ⟨k0, -⟩ | ⟨k0, j, hj, k1, k2, k3, k4, k5⟩ | ⟨k0, k1, k2⟩
  ·omega
  ·have : i = j := by
    rcases Nat.lt_trichotomy i j with c | c | c
    ·exact absurd (k1 i c) h2
    ·exact c
    ·exact absurd (h1 j c) k2
   subst this
   exact ⟨h3.trans k3.symm, h4.trans k4.symm, h5.trans k5.symm⟩
  ·exact absurd (k1 i hi) h2
 ·rcases k with ⟨k0, -⟩ | ⟨k0, j, hj, k1, k2, k3, k4, k5⟩ | ⟨k0, k1, k2⟩
  ·omega
  ·exact absurd (h1 j hj) k2
  ·exact AX_uniq h2 k2
def MgR (w : World) (ks : List K6) (u f : Int) (e : Ending) (w' : World) : Prop := ∃ x y er : Int, e = .returned (.tuple #[.agg #[.int .i64 x, .int .i64 y], .int .i64 er]) ∧ MG ks u f x y er ∧ Below w.heap.size w w'
def MgRel (w : World) (ks : List K6) (u : Int) (G : Nat) (v i : Value) (wr : World) : Prop := ∃ (q : Nat) (A : Option Addr) (c : Nat) (zs : List (Int × Int)), q ≤ ks.length ∧ G = ks.length - q ∧ i = .int .i64 q ∧ v = .slice A zs.length c ∧ zs.length = q ∧ zs = (ks.take q).map (spK u) ∧ RowS wr (w.heap.size + 1) (.slice A zs.length c) zs ∧ (∀ j, j < q → (nowK u (ks.getD j .zero)).2.2 = 0) ∧ Blk wr w.heap.size 40 #[.int .i64 0, .int .i64 0] ∧ Below w.heap.size w wr
theorem take_nextK (ks : List K6) (p : Nat) (h : p < ks.length) : ks.take (p + 1) = ks.take p ++ [ks.getD p .zero] := by
 rw [List.take_add_one, Y9 h, Y8, Y9 h]; rfl
theorem setAll_below {b g : Nat} {W : World} (hg : b ≤ g) : ∀ (l : List Value) (i : Nat) (w : World), Below b W w → Below b W (setAll w g i l)
 | [], _, _, h => h
 | _ :: l, i, w, h => setAll_below hg l (i + 1) _ (h.setCell hg _)
theorem imerge_any (A : Option Addr) (len cap : Nat) (ks : List K6) (u f : Int) (w : World) (h : KnAt w A len ks) :
  Calls Tryz.prog 23 #[.slice A len cap, .int .i64 u, .int .i64 f] w (MgR w ks u f) := by
 have HK := Yh (show Kp w w from Below.refl _ _)
 have HL := Yh (h)
 have HLw0 := Yh h
 obtain rfl := h.1
 have hlm := h.2.1
 clear h
 by_cases h64 : 64 < ks.length
 ·have g0 : decide (64 < (ks.length : Int)) = true := Y2
  have g0n : decide (64 < ks.length) = true := decide_eq_true h64
  go_enter Tryz.func23, Tryz.ntmps23
  go_wp2
  exact Yb (v := .tuple #[.agg #[.int .i64 0, .int .i64 0], .int .i64 8]) (by simp [results, Tryz.results23, go_sem, *]) rfl ⟨0, 0, 8, rfl, .inl ⟨h64, rfl, rfl, rfl⟩, HK.out.below bl0⟩
 have g0 : decide (64 < (ks.length : Int)) = false := Y3
 have g0n : decide (64 < ks.length) = false := decide_eq_false h64
 go_enter Tryz.func23, Tryz.ntmps23
 go_wp2
 have HR := Yh (show Blk (w.alloc (.cells #[.int .i64 0, .int .i64 0] 40)) w.heap.size 40 #[.int .i64 0, .int .i64 0] from Blk.new _ _ _)
 obtain ⟨W1, eW1⟩ : ∃ W1, W1 = w.alloc (.cells #[.int .i64 0, .int .i64 0] 40) := ⟨_, rfl⟩
 have SW1 : Below w.heap.size w W1 := by rw [eW1]; exact Yl.alloc (Nat.le_refl _) _
 have ZW1 := SW1.size
 replace HK := Yh (HK.out.below SW1)
 replace HL := Yh (HL.out.below SW1)
 clear SW1
 rw [← eW1] at HR
 have l1 : w.heap.size < W1.heap.size := by rw [eW1]; simp
 have l1e : W1.heap.size = w.heap.size + 1 := by rw [eW1]; simp
 have HL1e := Yh l1e; clear l1e
 try rw [← eW1]
 go_loopg [8, 19] ks.length (fun G v i wr => MgRel w ks u G v i wr)
 case atStart => exact ⟨0, none, 0, [], Yo, Yo, rfl, rfl, rfl, rfl, RowS.nil, fun j hj => by omega, by first | exact HR.out | (rw [eW1]; exact Blk.new _ _ _), by first | exact HK.out.b | (rw [eW1]; exact Yl.alloc (Nat.le_refl _) _)⟩
 case round =>
  obtain ⟨q, A1, c1, zs, hq, rfl, rfl, rfl, hzl, hzs, hrow, hok, hR, KR⟩ := hrel
  have ZR := KR.size
  have HLw := Yh (show KnAt wr A ks.length ks from HLw0.out.below KR)
  clear HK HL HR
  have HK := Yh (show Kp w wr from KR); have HR := Yh hR; have HO := Yh hrow; have HZS := Yh hzs; have HOK := Yh hok
  have hlr : w.heap.size < wr.heap.size := hR.lt
  have hrl := RowS.lt hrow
  have hz64 : zs.length ≤ 64 := by omega
  have HZL := Yh hzl; clear hzl
  clear hR hrow hzs hok KR
  by_cases hlt : q < ks.length
  ·have gq : decide ((q : Int) < (ks.length : Int)) = true := Y2
   have gqn : decide (q < ks.length) = true := decide_eq_true hlt
   have wq : IntKind.i64.wrap ((q : Int) + 1) = ((q + 1 : Nat) : Int) := Y4
   obtain ⟨bl, off, rfl, hbl, hcs⟩ := HLw.out.2.2 Yo
   obtain ⟨e0, e1, e2, e3, e4, e5⟩ := hcs q hlt
   clear hcs HLw
   have hst : (ks.take (q + 1)).map (spK u) = zs ++ [spK u (ks.getD q .zero)] := by rw [take_nextK ks q hlt, List.map_append, ← HZS.out]; rfl
   obtain ⟨k, hk⟩ : ∃ k, ks.getD q .zero = k := ⟨_, rfl⟩
   rw [hk] at e0 e1 e2 e3 e4 e5 hst
   have HKK := Yh hk; clear hk
   obtain ⟨ka, klo, khi, kp, kle, kre⟩ := k
   dsimp only at e0 e1 e2 e3 e4 e5
   obtain ⟨x, y, er, hnow⟩ : ∃ x y er, nowK u ⟨ka, klo, khi, kp, kle, kre⟩ = (x, y, er) := ⟨_, _, _, rfl⟩
   have hsp : spK u ⟨ka, klo, khi, kp, kle, kre⟩ = (x, y) := by unfold spK; rw [hnow]
   rw [hsp] at hst
   have RN := Yh (fun W => (show Calls _ _ _ _ (RB W (.tuple #[.agg #[.int .i64 x, .int .i64 y], .int .i64 er])) from (congrArg V3 (show nowT ka klo khi kp kle kre u = (x, y, er) from hnow)) ▸ inow_any ka klo khi kp kle kre u W))
   have hk2 : (nowK u (ks.getD q .zero)).2.2 = er := by rw [HKK.out, hnow]
   have HST := Yh hst; have HK2 := Yh hk2; clear hst hk2 hnow hsp
   go_upto_region 6 with fail
   go_cut [10] (fun v wx => v = .pointer (some ⟨wr.heap.size, 0, none⟩) ∧ Blk wx wr.heap.size 44 #[.int .i64 ka, .int .i64 klo, .int .i64 khi, .int .i64 kp, .int .i64 kle, .int .i64 kre] ∧ Below wr.heap.size wr wx)
   case first =>
    go_wp2_with fail
    go_meet
    exact ⟨rfl, bn0, bl0⟩
   case rest =>
    obtain ⟨rfl, bk, KC⟩ := hcut
    have ZC := KC.size
    replace HK := Yh (HK.out.below KC)
    replace HR := Yh (HR.out.below KC)
    replace HO := Yh (HO.out.below KC)
    have lk := bk.lt
    have ck := bk.cell
    clear e0 e1 e2 e3 e4 e5 KC
    go_wp2_with fail
    refine (RN.out _).mono ?_
    rintro e w2 ⟨rfl, hb2⟩
    have S2 : Below wc.heap.size wc w2 := Yc hb2 bl0
    have Z2 := S2.size
    replace HK := Yh (HK.out.below S2)
    replace HR := Yh (HR.out.below S2)
    replace HO := Yh (HO.out.below S2)
    clear hb2 S2
    clear bk ck lk
    by_cases her : er = 0
    ·subst her
     obtain ⟨i0, hif, hz0, hz1, hz2⟩ := info_parts infoSpan
     have hXl : ∀ kk, (Value.slice A1 zs.length c1).ownBlock = some kk → w.heap.size + 1 ≤ kk ∧ kk < wr.heap.size := hrl
     generalize hX : (Value.slice A1 zs.length c1).ownBlock = X at hXl
     go_wp2_with (at_builtin; refine wpList_append_lies _ rfl _ _ 91 rfl (w.heap.size + 1) 40 i0 (.agg #[.int .i64 0, .int .i64 0]) 2 16 Tryz.underlying91 hif hz0 hz1 hz2 rfl Yd _ zs.length (cellsS zs) rfl (RowS.below HO.out bl0) ⟨_, 0, none⟩ 1 1 [.int .i64 x, .int .i64 y] rfl rfl (World.news_of_block (t := 40) (fr := (0, 0)) (Blk.new1 _ _ _ _)) ?c2 Yd ?c3 ?c4 ?c5 _ rfl ?_)
     case c2 => first | exact ⟨rfl, rfl⟩ | (intro u hu; simp at hu; rcases hu with rfl | rfl <;> rfl)
     case c3 => unfold maxLen; omega
     case c4 => omega
     case c5 => first | omega | (simp; omega)
     intro g9 cp9 w7 hown hgrow hlie hglt
     (try rw [hX] at hgrow)
     skip
     have K7 : Below w.heap.size w w7 := (show Below w.heap.size w _ from HK.out.below bl0).grown hgrow (by first | omega | (simp; omega)) (fun k hk => by have := hXl k hk; omega)
     have hR7 : Blk w7 w.heap.size 40 #[.int .i64 0, .int .i64 0] := (hgrow.block w.heap.size (by first | omega | (simp; omega)) (fun e => by have := hXl _ e.symm; omega)).trans (HR.out.below bl0)
     have hL7 : RowS w7 (w.heap.size + 1) (.slice (some ⟨g9, 0, none⟩) (zs ++ [(x, y)]).length cp9) (zs ++ [(x, y)]) := by
      unfold RowS
      rw [lla, List.length_singleton, cellsS_snoc]; exact hown
     have H7 := Yh (Ya K7 (Ya hR7 hL7))
     clear hown hgrow hlie hglt K7 hR7 hL7
     go_wp2
     go_roundg (ks.length - (q + 1))
     case measure => omega
     case rel => exact ⟨q + 1, _, _, zs ++ [(x, y)], Yo, Yo, by go_num, by simp, by simp [HZL.out], by rw [HST.out], H7.out.2.2, fun j hj => by by_cases e9 : j = q; (subst e9; exact HK2.out); (exact HOK.out j Yo), H7.out.2.1, H7.out.1⟩
    ·have g1 : decide (er = 0) = false := decide_eq_false her
     have g1b : (er == 0) = false := by rw [beq_eq_false_iff_ne]; exact her
     have hr := HR.out
     obtain ⟨cr, fr, lr, le, lk2⟩ := Yf hr
     go_wp2
     skip
     exact Yb (v := .tuple #[.agg #[.int .i64 0, .int .i64 0], .int .i64 er]) (by simp [results, Tryz.results23, go_sem, *]) rfl ⟨0, 0, er, rfl, .inr (.inl ⟨Yo, q, hlt, HOK.out, by rw [HK2.out]; exact her, rfl, rfl, HK2.out.symm⟩), (have z9 := HK.out.b; bl1)⟩
  ·obtain rfl : q = ks.length := by omega
   have gq : decide ((ks.length : Int) < (ks.length : Int)) = false := Y3
   rw [List.take_length] at HZS
   have HSP := Yh (spans_of_row HO.out Yo)
   have HMG := Yh (fun x y er (h : AX (ks.map (spK u)) f x y er) => (show MG ks u f x y er from .inr (.inr ⟨Yo, HOK.out, h⟩)))
   clear HLw HO HOK
   go_wp2_with fail
   refine (qAgree_any A1 zs.length c1 zs f _ (HSP.out.below bl0)).mono ?_
   rintro e w31 ⟨x, y, er, rfl, hax, hb31⟩
   have S31 : Below wr.heap.size wr w31 := Yc hb31 bl0
   have Z31 := S31.size
   replace HK := Yh (HK.out.below S31)
   replace HR := Yh (HR.out.below S31)
   replace HSP := Yh (HSP.out.below S31)
   clear hb31 S31
   rw [HZS.out] at hax
   have HAX := Yh hax
   have hr := HR.out
   obtain ⟨cr, fr, lr, le, lk2⟩ := Yf hr
   clear hax HZS
   go_wp2
   exact Yb (v := .tuple #[.agg #[.int .i64 x, .int .i64 y], .int .i64 er]) (by simp [results, Tryz.results23, go_sem, *]) rfl ⟨x, y, er, rfl, HMG.out _ _ _ HAX.out, (have z9 := HK.out.b; bl1)⟩
theorem rmerge_any (A : Option Addr) (len cap : Nat) (ks : List K6) (u f : Int) (w : World) (h : KnAt w A len ks) :
  Calls Tryz.prog 127 #[.slice A len cap, .int .i64 u, .int .i64 f] w (MgR w ks u f) := by
 have HK := Yh (show Kp w w from Below.refl _ _)
 have HL := Yh (h)
 have HLw0 := Yh h
 obtain rfl := h.1
 have hlm := h.2.1
 clear h
 by_cases h64 : 64 < ks.length
 ·have g0 : decide (64 < (ks.length : Int)) = true := Y2
  have g0n : decide (64 < ks.length) = true := decide_eq_true h64
  go_enter Tryz.func127, Tryz.ntmps127
  go_wp2
  exact Yb (v := .tuple #[.agg #[.int .i64 0, .int .i64 0], .int .i64 8]) (by simp [results, Tryz.results127, go_sem, *]) rfl ⟨0, 0, 8, rfl, .inl ⟨h64, rfl, rfl, rfl⟩, HK.out.below bl0⟩
 have g0 : decide (64 < (ks.length : Int)) = false := Y3
 have g0n : decide (64 < ks.length) = false := decide_eq_false h64
 go_enter Tryz.func127, Tryz.ntmps127
 go_wp2
 have HR := Yh (show Blk (w.alloc (.cells #[.int .i64 0, .int .i64 0] 40)) w.heap.size 40 #[.int .i64 0, .int .i64 0] from Blk.new _ _ _)
 obtain ⟨W1, eW1⟩ : ∃ W1, W1 = w.alloc (.cells #[.int .i64 0, .int .i64 0] 40) := ⟨_, rfl⟩
 have SW1 : Below w.heap.size w W1 := by rw [eW1]; exact Yl.alloc (Nat.le_refl _) _
 have ZW1 := SW1.size
 replace HK := Yh (HK.out.below SW1)
 replace HL := Yh (HL.out.below SW1)
 clear SW1
 rw [← eW1] at HR
 have l1 : w.heap.size < W1.heap.size := by rw [eW1]; simp
 have l1e : W1.heap.size = w.heap.size + 1 := by rw [eW1]; simp
 have HL1e := Yh l1e; clear l1e
 try rw [← eW1]
 go_loopg [8, 9] ks.length (fun G v i wr => MgRel w ks u G v i wr)
 case atStart => exact ⟨0, none, 0, [], Yo, Yo, rfl, rfl, rfl, rfl, RowS.nil, fun j hj => by omega, by first | exact HR.out | (rw [eW1]; exact Blk.new _ _ _), by first | exact HK.out.b | (rw [eW1]; exact Yl.alloc (Nat.le_refl _) _)⟩
 case round =>
  obtain ⟨q, A1, c1, zs, hq, rfl, rfl, rfl, hzl, hzs, hrow, hok, hR, KR⟩ := hrel
  have ZR := KR.size
  have HLw := Yh (show KnAt wr A ks.length ks from HLw0.out.below KR)
  clear HK HL HR
  have HK := Yh (show Kp w wr from KR); have HR := Yh hR; have HO := Yh hrow; have HZS := Yh hzs; have HOK := Yh hok
  have hlr : w.heap.size < wr.heap.size := hR.lt
  have hrl := RowS.lt hrow
  have hz64 : zs.length ≤ 64 := by omega
  have HZL := Yh hzl; clear hzl
  clear hR hrow hzs hok KR
  by_cases hlt : q < ks.length
  ·have gq : decide ((q : Int) < (ks.length : Int)) = true := Y2
   have gqn : decide (q < ks.length) = true := decide_eq_true hlt
   have wq : IntKind.i64.wrap ((q : Int) + 1) = ((q + 1 : Nat) : Int) := Y4
   obtain ⟨bl, off, rfl, hbl, hcs⟩ := HLw.out.2.2 Yo
   obtain ⟨e0, e1, e2, e3, e4, e5⟩ := hcs q hlt
   clear hcs HLw
   have hst : (ks.take (q + 1)).map (spK u) = zs ++ [spK u (ks.getD q .zero)] := by rw [take_nextK ks q hlt, List.map_append, ← HZS.out]; rfl
   obtain ⟨k, hk⟩ : ∃ k, ks.getD q .zero = k := ⟨_, rfl⟩
   rw [hk] at e0 e1 e2 e3 e4 e5 hst
   have HKK := Yh hk; clear hk
   obtain ⟨ka, klo, khi, kp, kle, kre⟩ := k
   dsimp only at e0 e1 e2 e3 e4 e5
   obtain ⟨x, y, er, hnow⟩ : ∃ x y er, nowK u ⟨ka, klo, khi, kp, kle, kre⟩ = (x, y, er) := ⟨_, _, _, rfl⟩
   have hsp : spK u ⟨ka, klo, khi, kp, kle, kre⟩ = (x, y) := by unfold spK; rw [hnow]
   rw [hsp] at hst
   have RN := Yh (fun W => (show Calls _ _ _ _ (RB W (.tuple #[.agg #[.int .i64 x, .int .i64 y], .int .i64 er])) from (congrArg V3 (show nowT ka klo khi kp kle kre u = (x, y, er) from hnow)) ▸ rnow_any ka klo khi kp kle kre u W))
   have hk2 : (nowK u (ks.getD q .zero)).2.2 = er := by rw [HKK.out, hnow]
   have HST := Yh hst; have HK2 := Yh hk2; clear hst hk2 hnow hsp
   go_wp2_with fail
   refine (RN.out _).mono ?_
   rintro e w2 ⟨rfl, hb2⟩
   have S2 : Below wr.heap.size wr w2 := Yc hb2 bl0
   have Z2 := S2.size
   replace HK := Yh (HK.out.below S2)
   replace HR := Yh (HR.out.below S2)
   replace HO := Yh (HO.out.below S2)
   clear hb2 S2
   clear e0 e1 e2 e3 e4 e5
   by_cases her : er = 0
   ·subst her
    obtain ⟨i0, hif, hz0, hz1, hz2⟩ := info_parts infoSpan
    have hXl : ∀ kk, (Value.slice A1 zs.length c1).ownBlock = some kk → w.heap.size + 1 ≤ kk ∧ kk < wr.heap.size := hrl
    generalize hX : (Value.slice A1 zs.length c1).ownBlock = X at hXl
    go_wp2_with (at_builtin; refine wpList_append_lies _ rfl _ _ 91 rfl (w.heap.size + 1) 40 i0 (.agg #[.int .i64 0, .int .i64 0]) 2 16 Tryz.underlying91 hif hz0 hz1 hz2 rfl Yd _ zs.length (cellsS zs) rfl (RowS.below HO.out bl0) ⟨_, 0, none⟩ 1 1 [.int .i64 x, .int .i64 y] rfl rfl (World.news_of_block (t := 40) (fr := (0, 0)) (Blk.new1 _ _ _ _)) (by first | exact ⟨rfl, rfl⟩ | (intro u hu; simp at hu; rcases hu with rfl | rfl <;> rfl)) Yd ?c3 ?c4 ?c5 _ rfl ?_)
    skip
    case c3 => unfold maxLen; omega
    case c4 => omega
    case c5 => first | omega | (simp; omega)
    intro g9 cp9 w7 hown hgrow hlie hglt
    (try rw [hX] at hgrow)
    skip
    have K7 : Below w.heap.size w w7 := (show Below w.heap.size w _ from HK.out.below bl0).grown hgrow (by first | omega | (simp; omega)) (fun k hk => by have := hXl k hk; omega)
    have hR7 : Blk w7 w.heap.size 40 #[.int .i64 0, .int .i64 0] := (hgrow.block w.heap.size (by first | omega | (simp; omega)) (fun e => by have := hXl _ e.symm; omega)).trans (HR.out.below bl0)
    have hL7 : RowS w7 (w.heap.size + 1) (.slice (some ⟨g9, 0, none⟩) (zs ++ [(x, y)]).length cp9) (zs ++ [(x, y)]) := by
     unfold RowS
     rw [lla, List.length_singleton, cellsS_snoc]; exact hown
    have H7 := Yh (Ya K7 (Ya hR7 hL7))
    clear hown hgrow hlie hglt K7 hR7 hL7
    go_wp2
    go_roundg (ks.length - (q + 1))
    case measure => omega
    case rel => exact ⟨q + 1, _, _, zs ++ [(x, y)], Yo, Yo, by go_num, by simp, by simp [HZL.out], by rw [HST.out], H7.out.2.2, fun j hj => by by_cases e9 : j = q; (subst e9; exact HK2.out); (exact HOK.out j Yo), H7.out.2.1, H7.out.1⟩
   ·have g1 : decide (er = 0) = false := decide_eq_false her
    have g1b : (er == 0) = false := by rw [beq_eq_false_iff_ne]; exact her
    have hr := HR.out
    obtain ⟨cr, fr, lr, le, lk2⟩ := Yf hr
    go_wp2
    skip
    exact Yb (v := .tuple #[.agg #[.int .i64 0, .int .i64 0], .int .i64 er]) (by simp [results, Tryz.results127, go_sem, *]) rfl ⟨0, 0, er, rfl, .inr (.inl ⟨Yo, q, hlt, HOK.out, by rw [HK2.out]; exact her, rfl, rfl, HK2.out.symm⟩), (have z9 := HK.out.b; bl1)⟩
  ·obtain rfl : q = ks.length := by omega
   have gq : decide ((ks.length : Int) < (ks.length : Int)) = false := Y3
   rw [List.take_length] at HZS
   have HSP := Yh (spans_of_row HO.out Yo)
   have HMG := Yh (fun x y er (h : AX (ks.map (spK u)) f x y er) => (show MG ks u f x y er from .inr (.inr ⟨Yo, HOK.out, h⟩)))
   clear HLw HO HOK
   go_wp2_with fail
   refine (rAgree_any A1 zs.length c1 zs f _ (HSP.out.below bl0)).mono ?_
   rintro e w31 ⟨x, y, er, rfl, hax, hb31⟩
   have S31 : Below wr.heap.size wr w31 := Yc hb31 bl0
   have Z31 := S31.size
   replace HK := Yh (HK.out.below S31)
   replace HR := Yh (HR.out.below S31)
   replace HSP := Yh (HSP.out.below S31)
   clear hb31 S31
   rw [HZS.out] at hax
   have HAX := Yh hax
   have hr := HR.out
   obtain ⟨cr, fr, lr, le, lk2⟩ := Yf hr
   clear hax HZS
   go_wp2
   exact Yb (v := .tuple #[.agg #[.int .i64 x, .int .i64 y], .int .i64 er]) (by simp [results, Tryz.results127, go_sem, *]) rfl ⟨x, y, er, rfl, HMG.out _ _ _ HAX.out, (have z9 := HK.out.b; bl1)⟩
def insE (z : Int × Int) : List (Int × Int) → List (Int × Int)
 | [] => [z]
 | y :: ys => if z.1 ≤ y.1 then z :: y :: ys else y :: insE z ys
def srtE : List (Int × Int) → List (Int × Int)
 | [] => []
 | z :: zs => insE z (srtE zs)
theorem insE_perm (z : Int × Int) : ∀ l : List (Int × Int), (insE z l).Perm (z :: l)
 | [] => List.Perm.refl _
 | y :: ys => by
  unfold insE
  split
  ·exact List.Perm.refl _
  ·exact ((insE_perm z ys).cons y).trans (List.Perm.swap z y ys)
theorem srtE_perm : ∀ l : List (Int × Int), (srtE l).Perm l
 | [] => List.Perm.refl _
 | z :: zs => (insE_perm z (srtE zs)).trans ((srtE_perm zs).cons z)
theorem insE_sorted (z : Int × Int) : ∀ {l : List (Int × Int)}, l.Pairwise (fun x y => x.1 ≤ y.1) → (insE z l).Pairwise (fun x y => x.1 ≤ y.1)
 | [], _ => by simp [insE]
 | y :: ys, h => by
  unfold insE
  obtain ⟨h1, h2⟩ := List.pairwise_cons.1 h
  split
  ·rename_i hz
   refine List.pairwise_cons.2 ⟨fun a ha => ?_, h⟩
   rcases List.mem_cons.1 ha with rfl | ha
   ·exact hz
   ·exact Int.le_trans hz (h1 a ha)
  ·rename_i hz
   refine List.pairwise_cons.2 ⟨fun a ha => ?_, insE_sorted z h2⟩
   rcases List.mem_cons.1 ((insE_perm z ys).mem_iff.1 ha) with rfl | ha
   ·omega
   ·exact h1 a ha
theorem srtE_sorted : ∀ l : List (Int × Int), (srtE l).Pairwise (fun x y => x.1 ≤ y.1)
 | [] => List.Pairwise.nil
 | z :: zs => insE_sorted z (srtE_sorted zs)
theorem srt_ex (l : List (Int × Int)) : SortedBy loC l (srtE l) := by
 refine ⟨srtE_perm l, (srtE_sorted l).imp fun {x y} h => ?_⟩
 unfold ltOf loC cmpI
 simp only [decide_eq_false_iff_not]
 split
 ·omega
 ·split <;> omega
theorem PX_ex (zs : List (Int × Int)) : ∃ ps, PX zs ps := by
 by_cases h : ckE zs = 0
 ·have hv := (ckE_ok h).2
  have hs := srt_ex (evs zs)
  obtain ⟨h1, h2⟩ := pieces_law hv hs
  refine ⟨_, .inr ⟨h, h1, h2, ?_⟩⟩
  have := pcsAt_length (srtE (evs zs)) (srtE (evs zs)).length
  have h3 := (srtE_perm (evs zs)).length_eq
  have h4 := (ckE_ok h).1
  have h5 : (evs zs).length = 2 * zs.length := evs_length zs
  omega
 ·exact ⟨[], .inl ⟨h, rfl⟩⟩
theorem LX_ex (zs : List (Int × Int)) (n : Int) : ∃ us, LX zs n us := by
 by_cases h : lE zs n = 0
 ·by_cases hc : ckE zs = 0
  ·by_cases hn : n < 1
   ·rw [lE_low hc hn] at h; omega
   ·obtain ⟨ps, hp⟩ := PX_ex zs
    exact ⟨_, .inr ⟨h, hc, Yo, ps, hp, rfl⟩⟩
  ·rw [lE_bad hc] at h; exact absurd h hc
 ·exact ⟨[], .inl ⟨h, rfl⟩⟩
theorem AX_ex (zs : List (Int × Int)) (f : Int) : ∃ x y er, AX zs f x y er := by
 by_cases h : qE zs f = 0
 ·obtain ⟨us, hu⟩ := LX_ex zs (zs.length - f)
  by_cases e : us = []
  ·exact ⟨_, _, _, .inr ⟨h, us, hu, .inl ⟨e, rfl, rfl, rfl⟩⟩⟩
  ·exact ⟨_, _, _, .inr ⟨h, us, hu, .inr ⟨List.length_pos_iff.2 e, rfl, rfl, rfl⟩⟩⟩
 ·exact ⟨_, _, _, .inl ⟨h, rfl, rfl, rfl⟩⟩
theorem first_bad (ks : List K6) (u : Int) : ∀ n, n ≤ ks.length → (∀ j, j < n → (nowK u (ks.getD j .zero)).2.2 = 0) ∨ ∃ i, i < n ∧ (∀ j, j < i → (nowK u (ks.getD j .zero)).2.2 = 0) ∧ (nowK u (ks.getD i .zero)).2.2 ≠ 0
 | 0, _ => .inl (fun j hj => by omega)
 | n + 1, hn => by
  rcases first_bad ks u n Yo with h | ⟨i, hi, h1, h2⟩
  ·by_cases c : (nowK u (ks.getD n .zero)).2.2 = 0
   ·refine .inl fun j hj => ?_
    by_cases e : j = n
    ·subst e; exact c
    ·exact h j Yo
   ·exact .inr ⟨n, Yo, h, c⟩
  ·exact .inr ⟨i, Yo, h1, h2⟩
theorem MG_ex (ks : List K6) (u f : Int) : ∃ x y er, MG ks u f x y er := by
 by_cases h : 64 < ks.length
 ·exact ⟨_, _, _, .inl ⟨h, rfl, rfl, rfl⟩⟩
 ·rcases first_bad ks u ks.length (Nat.le_refl _) with h1 | ⟨i, hi, h1, h2⟩
  ·obtain ⟨x, y, er, hax⟩ := AX_ex (ks.map (spK u)) f
   exact ⟨x, y, er, .inr (.inr ⟨Yo, h1, hax⟩)⟩
  ·exact ⟨_, _, _, .inr (.inl ⟨Yo, i, hi, h1, h2, rfl, rfl, rfl⟩)⟩
theorem imerge_fix {ks : List K6} {u f x y er : Int} (hm : MG ks u f x y er) (A : Option Addr) (len cap : Nat) (w : World) (h : KnAt w A len ks) :
  Calls Tryz.prog 23 #[.slice A len cap, .int .i64 u, .int .i64 f] w (RB w (.tuple #[.agg #[.int .i64 x, .int .i64 y], .int .i64 er])) := by
 refine (imerge_any A len cap ks u f w h).mono ?_
 rintro e w' ⟨x', y', er', rfl, h2, hb⟩
 obtain ⟨rfl, rfl, rfl⟩ := MG_uniq hm h2
 exact ⟨rfl, hb⟩
theorem rmerge_fix {ks : List K6} {u f x y er : Int} (hm : MG ks u f x y er) (A : Option Addr) (len cap : Nat) (w : World) (h : KnAt w A len ks) :
  Calls Tryz.prog 127 #[.slice A len cap, .int .i64 u, .int .i64 f] w (RB w (.tuple #[.agg #[.int .i64 x, .int .i64 y], .int .i64 er])) := by
 refine (rmerge_any A len cap ks u f w h).mono ?_
 rintro e w' ⟨x', y', er', rfl, h2, hb⟩
 obtain ⟨rfl, rfl, rfl⟩ := MG_uniq hm h2
 exact ⟨rfl, hb⟩
end Go.Proofs.YtiinmhfolfgobaaGreatDoor
namespace Go.Proofs.YtiinmhfolfgobaaGreatDoor
open Go.RowKit
end Go.Proofs.YtiinmhfolfgobaaGreatDoor
