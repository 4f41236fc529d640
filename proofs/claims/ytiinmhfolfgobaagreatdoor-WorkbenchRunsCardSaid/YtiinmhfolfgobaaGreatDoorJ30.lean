/- Lemmas. -/
import Derived.Test.YtiinmhfolfgobaaGreatDoorJ27
import Derived.Test.YtiinmhfolfgobaaGreatDoorJ29
import Derived.Test.YtiinmhfolfgobaaGreatDoorJ4
set_option linter.unusedVariables false
set_option linter.unusedSimpArgs false
namespace Go.Proofs.YtiinmhfolfgobaaGreatDoor
open Go.RowKit Go.Lib Go.Shelf Go.Sort
set_option maxHeartbeats 32000000
set_option maxRecDepth 100000
def bnC (b : Bn) (VL p v : Value) : Array Value := #[.bool b.begun, VL, .int .i64 b.li, .int .i64 b.p, .int .i64 b.ck.aim, .int .i64 b.ck.rate, .bool b.ck.set, .bool b.ck.held, .int .i64 b.ck.at_, .int .i64 b.ck.shown, p, v]
def SrcW (B : Nat) (w : World) (VL : Value) (l : List Kw) : Prop := ∃ AV, VL = .slice AV l.length l.length ∧ (0 < l.length → ∃ gs cur, AV = some ⟨gs, 0, none⟩ ∧ B ≤ gs ∧ Blk w gs 170 cur ∧ SrcAt cur l)
theorem SrcW.pastT {B : Nat} {Ts : List TypeId} {w w' : World} {VL : Value} {l : List Kw} (h : SrcW B w VL l) (hp : PastT B Ts w w') (hT : 170 ∉ Ts) : SrcW B w' VL l := by
 obtain ⟨AV, e, h⟩ := h
 exact ⟨AV, e, fun h0 => by obtain ⟨gs, cur, e1, e2, e3, e4⟩ := h h0; exact ⟨gs, cur, e1, e2, hp.blk e3 hT, e4⟩⟩
def BnAt (B : Nat) (w : World) (g : Nat) (b : Bn) : Prop := B ≤ g ∧ ∃ VL p v, Blk w g 76 (bnC b VL p v) ∧ SrcW B w VL b.srcs ∧ (p = .pointer none ∨ p = .pointer (some ⟨g, 10, none⟩)) ∧ BufAt B w v b.out
theorem BnAt.pastT {B g : Nat} {Ts : List TypeId} {w w' : World} {b : Bn} (h : BnAt B w g b) (hp : PastT B Ts w w') (h1 : 170 ∉ Ts) (h2 : 76 ∉ Ts) (h3 : 5 ∉ Ts) : BnAt B w' g b := by
 obtain ⟨hB, VL, p, v, e1, e2, e3, e4⟩ := h
 exact ⟨hB, VL, p, v, hp.blk e1 h2, e2.pastT hp h1, e3, e4.pastT hp h3⟩
theorem BnAt.below {B g : Nat} {w w' : World} {b : Bn} (h : BnAt B w g b) (hb : Below w.heap.size w w') : BnAt B w' g b := h.pastT (Ts := []) (PastT.below hb) Ys Ys Ys
theorem BnAt.lt {B g : Nat} {w : World} {b : Bn} (h : BnAt B w g b) : g < w.heap.size := by
 obtain ⟨hB, VL, p, v, e1, e2, e3, e4⟩ := h
 exact e1.lt
theorem NumsR.new (w : World) (zs : List Int) : NumsR (w.alloc (.cells (zs.map (Value.int .i64)).toArray 3)) (some ⟨w.heap.size, 0, none⟩) zs.length zs :=
 ⟨rfl, fun _ => ⟨_, _, rfl, Blk.new _ _ _, fun j hj => by rw [List.getElem?_toArray, List.getElem?_map, Y9 hj, Y8, Y9 hj]; rfl⟩⟩
theorem below_new (w : World) (o : Obj) : Below w.heap.size w (w.alloc o) := Yl.alloc (Nat.le_refl _) _
theorem say_any (B g : Nat) (b : Bn) (word : ByteArray) (A : Option Addr) (len cap : Nat) (ns : List Int) (w : World) (h : BnAt B w g b) (hn : NumsR w A len ns) (hsm : ∀ n ∈ ns, smallI n) (hpow : PowB B w) (hl : b.out.length + word.size + 22 * ns.length + 1 ≤ 1000000) :
  Calls Tryz.prog 132 #[.pointer (some ⟨g, 0, none⟩), .string word, .slice A len cap] w (fun e w' => e = .returned (.tuple #[]) ∧ BnAt B w' g (b.say word.data.toList ns) ∧ PastT B [5, 76] w w') := by
 obtain ⟨hB, VL, p, v, e1, e2, e3, e4⟩ := h
 refine (say_core B g _ _ _ _ _ _ _ _ _ _ p v b.out word A len cap ns w e1 e3 e4 hB hn hsm hpow hl).mono ?_
 rintro e w' ⟨rfl, v', h', hv', hT⟩
 exact ⟨rfl, ⟨hB, VL, _, v', h', e2.pastT hT Yd, .inr rfl, hv'⟩, hT⟩
theorem told_0 (g : Nat) (w : World) :
  Calls Tryz.prog 134 #[.pointer (some ⟨g, 0, none⟩), .int .i64 0] w (fun x w' => x = .returned (.bool false) ∧ w' = w) := by
 go_enter Tryz.func134, Tryz.ntmps134
 go_wp2
 go_ret
 exact ⟨rfl, rfl⟩
theorem told_e (B g : Nat) (b : Bn) (e : Int) (w : World) (h : BnAt B w g b) (he : e ≠ 0) (hs : smallI e) (hpow : PowB B w) (hl : b.out.length ≤ 900000) :
  Calls Tryz.prog 134 #[.pointer (some ⟨g, 0, none⟩), .int .i64 e] w (fun x w' => x = .returned (.bool true) ∧ BnAt B w' g (b.tell e).1 ∧ PastT B [5, 76] w w') := by
 have HH := Yh h; have HPW := Yh hpow; clear h hpow
 have g1 : (e == 0) = false := by simpa using he
 have g2 : decide (e = 0) = false := by simpa using he
 have g3 : (e != 0) = true := by simpa using he
 clear he
 go_enter Tryz.func134, Tryz.ntmps134
 go_wp2_with fail
 refine (say_any B g b ⟨#[101, 114, 114, 111, 114]⟩ (some ⟨w.heap.size, 0, none⟩) 1 1 [e] _ (HH.out.below (below_new w _)) (NumsR.new w [e]) (fun n hn => by simp at hn; rw [hn]; exact hs) (HPW.out.below (below_new w _)) (by show _ + 5 + 22 * 1 + 1 ≤ _; omega)).mono ?_
 rintro x w' ⟨rfl, h', hT⟩
 go_wp2
 go_ret
 exact ⟨rfl, h', (PastT.below (below_new w _)).trans hT⟩
theorem utc_any (B g : Nat) (b : Bn) (A : Option Addr) (cap : Nat) (t : Int) (w : World) (h : BnAt B w g b) (hn : NumsR w A 1 [t]) (ht : vT t = true) (hpow : PowB B w) (hl : b.out.length ≤ 900000) :
  Calls Tryz.prog 98 #[.pointer (some ⟨g, 0, none⟩), .slice A 1 cap] w (fun x w' => x = .returned (.int .i64 0) ∧ BnAt B w' g (b.utc t).1 ∧ PastT B [5, 76] w w') := by
 have hb := vT_true.1 ht
 obtain ⟨gA, rfl, hgA, hcA⟩ := hn.cell 0 Yo
 have cA := hcA 0 Yo
 rw [show [t].getD 0 0 = t from rfl] at cA
 have hf := fun W hW => formatF t Yo Yo W hW
 have hfl : (fmtS t).length ≤ 60 := by
  have h1 := fmt_len t Yo Yo
  simp only [fmtS, lla, Lib.repeatL_length]; simp; omega
 obtain ⟨fl, hfe⟩ : ∃ fl, fmtS t = fl := ⟨_, rfl⟩
 have hut : b.utc t = (b.say (wUtc ++ 32 :: fl) [], 0) := by rw [← hfe]; rfl
 rw [hut]
 rw [hfe] at hfl hf
 have HF := Yh hf; have HH := Yh h; have HPW := Yh hpow; clear h hpow hf hut hfe ht hb hcA hn
 go_enter Tryz.func98, Tryz.ntmps98
 go_wp2_with fail
 refine (HF.out _ HPW.out.1).mono ?_
 rintro x w1 ⟨rfl, hb1⟩
 have H1 := Yh (HH.out.below hb1); have P1 := Yh (HPW.out.below hb1)
 go_wp2_with fail
 refine (say_any B g b ⟨(wUtc ++ 32 :: fl).toArray⟩ none 0 0 [] _ H1.out (NumsR.nil _ _) (fun n hn => by simp at hn) P1.out (by show _ + (wUtc ++ 32 :: fl).toArray.size + 22 * 0 + 1 ≤ _; simp [wUtc]; omega)).mono ?_
 rintro x w' ⟨rfl, h', hT⟩
 go_wp2
 go_ret
 exact ⟨rfl, h', (PastT.below hb1).trans hT⟩
theorem merged_any (B g : Nat) (b : Bn) (at_ : Int) (w : World) (h : BnAt B w g b) (hn : b.srcs.length ≤ 64) :
  Calls Tryz.prog 135 #[.pointer (some ⟨g, 0, none⟩), .int .i64 at_] w (RB w (V3 (mgO (knowns b.srcs) at_ b.li))) := by
 have HMG := Yh (mgO_spec (knowns b.srcs) at_ b.li)
 obtain ⟨hB, VL, pp, v, e1, ⟨AV, rfl, e2⟩, e3, e4⟩ := h
 unfold V3
 obtain ⟨x, hx⟩ : ∃ x, (mgO (knowns b.srcs) at_ b.li).1 = x := ⟨_, rfl⟩
 obtain ⟨y, hy⟩ : ∃ y, (mgO (knowns b.srcs) at_ b.li).2.1 = y := ⟨_, rfl⟩
 obtain ⟨er, her⟩ : ∃ er, (mgO (knowns b.srcs) at_ b.li).2.2 = er := ⟨_, rfl⟩
 rw [hx, hy, her]
 have hMG := HMG.out
 rw [hx, hy, her] at hMG
 have HMX := Yh hMG
 clear hMG HMG hx hy her
 obtain ⟨be, l, li, pq, ck, ou⟩ := b
 dsimp only at e1 e2 hn HMX
 have HP := Yh e1; have HS := Yh e2
 have hgl := e1.lt
 clear e1 e2 e3 e4
 go_enter Tryz.func135, Tryz.ntmps135
 obtain ⟨w1, hw1⟩ : ∃ x : World, x = w.alloc (.cells #[.int .i64 0, .int .i64 0] 40) := ⟨_, rfl⟩
 have K1 : Below w.heap.size w w1 := by rw [hw1]; exact below_new w _
 have bR : Blk w1 w.heap.size 40 #[.int .i64 0, .int .i64 0] := by rw [hw1]; exact Blk.new _ _ _
 have bP := Yk K1 HP.out
 have cP : ∀ i, w1.cell? ⟨g, i, none⟩ = _ := bP.cell
 have Z1 : w.heap.size + 1 ≤ w1.heap.size := by rw [hw1]; simp
 unfold bnC at cP
 dsimp only at cP
 go_upto_region 2 with fail
 rw [← hw1]
 clear hw1
 have HBR := Yh bR; have HK1 := Yh K1; have HP1 := Yh bP
 clear HP bR K1
 go_wp2
 clear cP bP
 go_loopg [6, 14] l.length (fun G v i wr => MeRel w1 l l.length G v i wr)
 case atStart => exact ⟨0, 0, none, 0, Yo, Yo, rfl, rfl, rfl, RowK.nil, Below.refl _ _⟩
 case round =>
  obtain ⟨q, m, A, c, hq, rfl, rfl, rfl, hm, hrow, KR⟩ := hrel
  have ZR := KR.size
  have hrl := RowK.lt hrow
  have HROW := Yh hrow; have HKR := Yh KR; have HM := Yh hm; clear hm hrow
  by_cases hlt : q < l.length
  ·have gp : decide ((q : Int) < (l.length : Int)) = true := Y2
   have gpn : decide (q < l.length) = true := decide_eq_true hlt
   have wp : IntKind.i64.wrap ((q : Int) + 1) = ((q + 1 : Nat) : Int) := Y4
   obtain ⟨gs, cur, rfl, hgs, hSb, hSc⟩ := HS.out Yo
   have bS := Yk KR (Yk HK1.out hSb)
   have lS := bS.lt
   have hst := knowns_next hlt
   have hcs := hSc.2 q hlt
   have d0 := (bS.cell (q * 7)).trans (hcs 0 Yo)
   have d1 := (bS.cell (q * 7 + 1)).trans (hcs 1 Yo)
   have d2 := (bS.cell (q * 7 + 2)).trans (hcs 2 Yo)
   have d3 := (bS.cell (q * 7 + 3)).trans (hcs 3 Yo)
   have d4 := (bS.cell (q * 7 + 4)).trans (hcs 4 Yo)
   have d5 := (bS.cell (q * 7 + 5)).trans (hcs 5 Yo)
   have d6 := (bS.cell (q * 7 + 6)).trans (hcs 6 Yo)
   obtain ⟨kv, hkv⟩ : ∃ kv, l.getD q (false, .zero) = kv := ⟨_, rfl⟩
   rw [hkv] at d0 d1 d2 d3 d4 d5 d6 hst
   clear hkv hcs hSc hSb
   obtain ⟨bb, na, nlo, nhi, np, nle, nre⟩ := kv
   simp only [kwC, K6.cs, lg0, lg1] at d0 d1 d2 d3 d4 d5 d6
   dsimp only at hst
   have HST := Yh hst; clear hst bS KR
   cases bb with
   | false =>
    have HST2 := Yh (HST.out.trans Ys : knowns (l.take (q + 1)) = knowns (l.take q))
    clear HST
    go_wp2
    go_roundg (l.length - (q + 1))
    case measure => omega
    case rel => exact ⟨q + 1, m, A, c, Yo, Yo, by go_num, rfl, by rw [HST2.out]; exact HM.out, by rw [HST2.out]; exact RowK.below HROW.out bl0, (Yc (show Below wr.heap.size wr _ from bl0) HKR.out)⟩
   | true =>
    have HST2 := Yh (HST.out.trans Ys : knowns (l.take (q + 1)) = knowns (l.take q) ++ [(⟨na, nlo, nhi, np, nle, nre⟩ : K6)])
    clear HST
    have hm64 : m ≤ 64 := by have h9 := knowns_len (l.take q); rw [← HM.out, List.length_take] at h9; omega
    obtain ⟨i0, hif, hz0, hz1, hz2⟩ := info_parts infoKn
    generalize hv : (Value.slice A m c) = v9 at *
    have hrl := RowK.lt HROW.out
    have HRW := Yh HROW.out
    clear hv HROW
    go_wp2_with (at_builtin; go_loud (refine wpList_append_lies _ rfl _ _ 53 rfl w1.heap.size 44 i0 (.agg #[.int .i64 0, .int .i64 0, .int .i64 0, .int .i64 0, .int .i64 0, .int .i64 0]) 6 48 Tryz.underlying53 hif hz0 hz1 hz2 rfl Yd v9 m (kCells (knowns (l.take q))) rfl (own_belowK HRW.out HM.out bl0) ⟨wr.heap.size + 1, 0, none⟩ 1 1 [.int .i64 na, .int .i64 nlo, .int .i64 nhi, .int .i64 np, .int .i64 nle, .int .i64 nre] rfl rfl (World.news_of_block (t := 44) (fr := (0, 0)) (Blk.new1 _ _ _ _)) ?c2 Yd ?c3 ?c4 ?c5 _ rfl ?_))
    case c2 => first | exact ⟨rfl, rfl, rfl, rfl, rfl, rfl⟩ | (intro u hu; simp at hu; rcases hu with rfl | rfl | rfl | rfl | rfl | rfl <;> rfl)
    case c3 => unfold maxLen; omega
    case c4 => omega
    case c5 => first | omega | (simp <;> omega)
    intro g7 cp7 w7 hown hgrow hlie hglt
    have K7 : Below w1.heap.size w1 w7 := (Yc (show Below wr.heap.size wr _ from bl0) HKR.out).grown hgrow (by simp; omega) (fun k hk => (hrl k hk).1)
    have R7 : RowK w7 w1.heap.size (.slice (some ⟨g7, 0, none⟩) (m + 1) cp7) (knowns (l.take q) ++ [(⟨na, nlo, nhi, np, nle, nre⟩ : K6)]) := by
     unfold RowK
     rw [lla, List.length_singleton, ← HM.out, kCells_snoc]; exact hown
    have H7 := Yh (Ya K7 R7)
    clear hown hgrow hlie hglt K7 R7
    go_wp2
    go_roundg (l.length - (q + 1))
    case measure => omega
    case rel => exact ⟨q + 1, m + 1, _, _, Yo, Yo, by go_num, rfl, by rw [HST2.out, lla, List.length_singleton, ← HM.out], by rw [HST2.out]; exact H7.out.2, H7.out.1⟩
  ·obtain rfl : q = l.length := by omega
   have gp : decide ((l.length : Int) < (l.length : Int)) = false := Y3
   have gpn : decide (l.length < l.length) = false := Y3
   have htk : l.take l.length = l := List.take_length
   have hrow := HROW.out; have hm := HM.out
   rw [htk] at hrow hm
   have hkl := knowns_len l
   have HKN : Hid (KnAt wr A m (knowns l)) := Yh (by have h := hrow; subst hm; exact RowK.known h Yo)
   have RM := Yh (fun W h => imerge_fix HMX.out A m c W h)
   have bP := Yk KR HP1.out
   have cP : ∀ i, wr.cell? ⟨g, i, none⟩ = _ := bP.cell
   unfold bnC at cP
   dsimp only at cP
   clear hrow htk HM HROW hrl hm hkl HMX bP
   go_wp2_with fail
   refine (RM.out _ HKN.out).mono ?_
   rintro e w3 ⟨rfl, hb3⟩
   have bR3 := Yk hb3 (Yk HKR.out HBR.out)
   obtain ⟨cR, fR, lR, eR, kR⟩ := bR3.facts
   have HB3 := Yh hb3
   clear hb3 cP RM HKN
   go_wp2
   refine Yb (v := .tuple #[.agg #[.int .i64 x, .int .i64 y], .int .i64 er]) (by simp [results, Tryz.results135, go_sem, *]) rfl ?_
   exact ⟨rfl, ((HK1.out.trans (HKR.out.mono Yo)).trans (HB3.out.mono Yo)).trans (by (repeat' (first | (with_reducible exact Below.refl _ _) | (with_reducible refine Below.setCell ?_ ?_ _))) <;> (first | omega | (simp <;> omega)))⟩
end Go.Proofs.YtiinmhfolfgobaaGreatDoor
namespace Go.Proofs.YtiinmhfolfgobaaGreatDoor
open Go.RowKit Go.Lib
def errI (e : Int) : Prop := 0 ≤ e ∧ e ≤ 100
theorem errC (n : Nat) (h : n ≤ 100) : errI (n : Int) := ⟨Yo, Yo⟩
theorem smallZ : smallI 0 := ⟨by decide, by decide⟩
theorem errI.small {e : Int} (h : errI e) : smallI e := ⟨by have := h.1; omega, by have := h.2; omega⟩
theorem smallI_vT {e : Int} (h : vT e = true) : smallI e := by have := vT_true.1 h; exact ⟨Yo, Yo⟩
theorem kE_b (a lo hi p le re : Int) : errI (kE a lo hi p le re) := by
 unfold kE errI
 split
 ·omega
 ·split <;> omega
theorem nowT_b (a lo hi p le re u : Int) : errI (nowT a lo hi p le re u).2.2 := by
 unfold nowT
 split
 ·exact kE_b _ _ _ _ _ _
 ·split
  ·exact ⟨by decide, by decide⟩
  ·split
   ·exact ⟨by decide, by decide⟩
   ·unfold opT
    split
    ·split
     ·split
      ·exact errC 0 Yo
      ·exact errC 4 Yo
     ·exact ⟨by decide, by decide⟩
    ·exact ⟨by decide, by decide⟩
theorem lrn_b (a lo hi p le re u c d : Int) : errI (lrn a lo hi p le re u c d).e := by
 unfold lrn
 split
 ·exact nowT_b _ _ _ _ _ _ _
 ·split
  ·exact errC 3 Yo
  ·split <;> exact errC 0 Yo
theorem learnK_b (k : Kw) (u lo hi p : Int) : errI (learnK k u lo hi p).1 := by
 unfold learnK
 split
 ·exact lrn_b _ _ _ _ _ _ _ _ _
 ·exact kE_b _ _ _ _ _ _
theorem qE_b (zs : List (Int × Int)) (f : Int) : errI (qE zs f) := by
 unfold qE ckE errI
 repeat' split
 all_goals omega
theorem MG_b {ks : List K6} {u f x y er : Int} (h : MG ks u f x y er) : errI er ∧ (er = 0 → vS x y = true) := by
 rcases h with ⟨-, -, -, rfl⟩ | ⟨-, i, hi, -, hne, -, -, rfl⟩ | ⟨-, -, h⟩
 ·exact ⟨⟨by decide, by decide⟩, fun h => by omega⟩
 ·exact ⟨nowT_b _ _ _ _ _ _ _, fun h => absurd h hne⟩
 ·refine ⟨?_, fun h0 => (AX_ends h h0).2.2.2⟩
  rcases h with ⟨-, -, -, rfl⟩ | ⟨-, us, -, ⟨-, -, -, rfl⟩ | ⟨-, -, -, rfl⟩⟩
  ·exact qE_b _ _
  ·exact ⟨by decide, by decide⟩
  ·exact ⟨by decide, by decide⟩
theorem vS_small {x y : Int} (h : vS x y = true) : smallI x ∧ smallI y := by
 have := vS_true.1 h
 exact ⟨⟨Yo, Yo⟩, ⟨Yo, Yo⟩⟩
theorem mgO_b (ks : List K6) (u f : Int) : errI (mgO ks u f).2.2 ∧ ((mgO ks u f).2.2 = 0 → vS (mgO ks u f).1 (mgO ks u f).2.1 = true) := MG_b (mgO_spec ks u f)
theorem rdE_b (c : Clk) (u lo hi : Int) : errI (rdK c u lo hi) := by
 unfold rdK rdE errI
 repeat' split
 all_goals omega
theorem part_b {lo hi aim : Int} (h : lo ≤ hi) (a0 : 0 ≤ aim) (a1 : aim ≤ 1000) : lo ≤ lo + (hi - lo) * aim / 1000 ∧ lo + (hi - lo) * aim / 1000 ≤ hi := by
 have h0 : 0 ≤ (hi - lo) * aim := Int.mul_nonneg Yo a0
 have h1 : (hi - lo) * aim ≤ (hi - lo) * 1000 := Int.mul_le_mul_of_nonneg_left a1 Yo
 exact ⟨Yo, Yo⟩
theorem shown_b {c : Clk} {u lo hi : Int} (h : rdK c u lo hi = 0) : smallI (readK c u lo hi).shown := by
 have h' : rdE c.aim c.rate c.set c.at_ c.shown u lo hi = 0 := h
 unfold readK
 rw [if_pos h']
 show smallI (rdShown c.aim c.rate c.set c.at_ c.shown u lo hi)
 unfold rdE at h'
 split at h'
 ·omega
 ·rename_i hc
  have hc' : chk c.aim c.rate c.at_ c.shown = 0 := by simpa using hc
  obtain ⟨a0, a1, -, -, -, hsh⟩ := chk_zero hc'
  split at h'
  ·omega
  ·rename_i hv
   have hv' := vS_true.1 (by simpa using hv : vS lo hi = true)
   have hs := vT_true.1 hsh
   have hp := part_b (aim := c.aim) hv'.2.1 a0 a1
   unfold rdShown
   split
   ·exact ⟨Yo, Yo⟩
   ·split
    ·exact ⟨Yo, Yo⟩
    ·exact ⟨Yo, Yo⟩
theorem exE_b (t1 t2 t3 t4 er : Int) : errI (exE t1 t2 t3 t4 er) := by
 unfold exE errI
 repeat' split
 all_goals omega
theorem atT_b (t1 t2 t3 t4 er p : Int) : errI (atT t1 t2 t3 t4 er p).2.2 ∧ smallI (atT t1 t2 t3 t4 er p).1 ∧ smallI (atT t1 t2 t3 t4 er p).2.1 := by
 unfold atT
 split
 ·split
  ·rename_i h2
   simp only [Bool.and_eq_true] at h2
   split
   ·exact ⟨errC 20 Yo, smallZ, smallZ⟩
   ·exact ⟨errC 0 Yo, smallI_vT h2.1.2, smallI_vT h2.2⟩
  ·exact ⟨errC 4 Yo, smallZ, smallZ⟩
 ·exact ⟨exE_b _ _ _ _ _, smallZ, smallZ⟩
end Go.Proofs.YtiinmhfolfgobaaGreatDoor
namespace Go.Proofs.YtiinmhfolfgobaaGreatDoor
open Go
def calmRow (acc : List Nat) (o : Oper) : Nat := o.after.toList.foldl (fun m e => if Region.binds .any e then (m ||| 2 ^ e.on) ||| acc.getD e.on 0 else m) 0
def dstBit (s : Nat) (o : Oper) : Nat := match o.dst with | none => s | some d => s ||| 2 ^ d
def dstNew (s : Nat) (o : Oper) : Bool := match o.dst with | none => true | some d => !s.testBit d
def calmGo : List Oper → List (List Nat) → Nat → List Nat → Nat → Option (List Nat)
 | [], _, _, acc, _ => some acc
 | o :: l, Ds, k, acc, s => if (o.after.toList.all fun e => !Region.binds .any e || decide (e.on < k)) && (dstNew s o && (Ds.headD []).all fun j => (calmRow acc o).testBit j) then calmGo l Ds.tail (k + 1) (acc ++ [calmRow acc o]) (dstBit s o) else none
def calmBits : List Oper → List Nat → List Nat
 | [], acc => acc
 | o :: l, acc => calmBits l (acc ++ [calmRow acc o])
def calmBF (l : List Oper) (Ds : List (List Nat)) (chain : List Nat) : Bool := match calmGo l Ds 0 [] 0 with
 | none => false
 | some M => (List.range chain.length).all (fun m => (List.range m).all fun m' => (M.getD (chain.getD m 0) 0).testBit (chain.getD m' 0)) && chain.all (fun i => decide (i < l.length))
theorem foldl_bit {acc : List Nat} {j : Nat} : ∀ (l : List Edge) (m : Nat), (l.foldl (fun m e => if Region.binds .any e then (m ||| 2 ^ e.on) ||| acc.getD e.on 0 else m) m).testBit j = true → m.testBit j = true ∨ ∃ e ∈ l, Region.binds .any e = true ∧ (e.on = j ∨ (acc.getD e.on 0).testBit j = true)
 | [], m, h => .inl h
 | e :: l, m, h => by
  rcases foldl_bit l _ h with h1 | ⟨e', h1, h2⟩
  ·dsimp only at h1
   by_cases hb : Region.binds .any e = true
   ·rw [if_pos hb, Nat.testBit_or, Nat.testBit_or, Bool.or_eq_true, Bool.or_eq_true, Nat.testBit_two_pow, decide_eq_true_eq] at h1
    rcases h1 with (h1 | h1) | h1
    ·exact .inl h1
    ·exact .inr ⟨e, by simp, hb, .inl h1⟩
    ·exact .inr ⟨e, by simp, hb, .inr h1⟩
   ·rw [if_neg hb] at h1; exact .inl h1
  ·exact .inr ⟨e', by simp [h1], h2⟩
def BitsOk (ops : Array Oper) (acc : List Nat) : Prop := ∀ i j, (acc.getD i 0).testBit j = true → ∀ fuel, i < fuel → calmReach ops fuel i j = true
theorem bits_next {ops : Array Oper} {acc : List Nat} (h : BitsOk ops acc) {o : Oper} (ho : ops[acc.length]? = some o) : BitsOk ops (acc ++ [calmRow acc o]) := by
 intro i j hb fuel hf
 rw [Y8, List.getElem?_append] at hb
 split at hb
 ·rename_i hi
  exact h i j (by rw [Y8]; exact hb) fuel hf
 ·rename_i hi
  by_cases e : i = acc.length
  ·subst e
   rw [Nat.sub_self, lg0, Option.getD_some] at hb
   unfold calmRow at hb
   rcases foldl_bit _ _ hb with h1 | ⟨e, h1, h2, h3⟩
   ·simp at h1
   ·cases fuel with
    | zero => omega
    | succ f =>
     have hm : e ∈ o.after := by rw [← Array.mem_toList_iff]; exact h1
     obtain ⟨n, hn, he⟩ := Array.getElem_of_mem hm
     simp only [calmReach, ho, Array.any_eq_true, Bool.and_eq_true, Bool.or_eq_true, beq_iff_eq]
     refine ⟨n, hn, by rw [he]; exact h2, ?_⟩
     rw [he]
     rcases h3 with h3 | h3
     ·exact .inl h3
     ·refine .inr (h e.on j h3 f ?_)
      have : e.on < acc.length := by
       rcases Nat.lt_or_ge e.on acc.length with q | q
       ·exact q
       ·rw [Y8, List.getElem?_eq_none q] at h3; simp at h3
      omega
  ·have : ([calmRow acc o] : List Nat)[i - acc.length]? = none := List.getElem?_eq_none (by simp; omega)
   rw [this] at hb; simp at hb
theorem bits_ok {ops : Array Oper} : ∀ (l l0 : List Oper) (acc : List Nat), ops.toList = l0 ++ l → acc.length = l0.length → BitsOk ops acc → BitsOk ops (calmBits l acc)
 | [], _, _, _, _, h => h
 | o :: l, l0, acc, he, hl, h => by
  refine bits_ok l (l0 ++ [o]) _ (by rw [he]; simp) (by simp [hl]) (bits_next h ?_)
  rw [← Array.getElem?_toList, he, hl]; simp
theorem go_parts : ∀ (l : List Oper) (Ds : List (List Nat)) (k : Nat) (acc : List Nat) (s : Nat) (M : List Nat), calmGo l Ds k acc s = some M → M = calmBits l acc ∧
  (∀ i o, l[i]? = some o → (∀ e ∈ o.after.toList, Region.binds .any e = true → e.on < k + i) ∧ (∀ d, o.dst = some d → s.testBit d = false) ∧ (∀ i' o', i' < i → l[i']? = some o' → ∀ d, o.dst = some d → o'.dst ≠ some d) ∧ (∀ j ∈ Ds.getD i [], (M.getD (acc.length + i) 0).testBit j = true)) ∧ ∀ p, p < acc.length → M.getD p 0 = acc.getD p 0
 | [], Ds, k, acc, s, M, h => by
  injection h with h; subst h
  exact ⟨rfl, fun i o h => by simp at h, fun _ _ => rfl⟩
 | o :: l, Ds, k, acc, s, M, h => by
  unfold calmGo at h
  split at h
  ·rename_i hc
   simp only [Bool.and_eq_true, List.all_eq_true, Bool.or_eq_true, Bool.not_eq_true', decide_eq_true_eq] at hc
   obtain ⟨h1, h2, h3⟩ := hc
   obtain ⟨e1, e2, e3⟩ := go_parts l Ds.tail (k + 1) _ _ M h
   refine ⟨e1, fun i o' ho => ?_, fun p hp => ?_⟩
   ·cases i with
    | zero =>
     simp only [lg0, osj] at ho
     subst ho
     refine ⟨fun e he hb => ?_, fun d hd => ?_, fun i' _ hi => by omega, fun j hj => ?_⟩
     ·rcases h1 e he with q | q
      ·rw [q] at hb; cases hb
      ·exact q
     ·unfold dstNew at h2; rw [hd] at h2; simpa using h2
     ·have := e3 acc.length Ys
      rw [Nat.add_zero, this, Y8, List.getElem?_append_right (Nat.le_refl _), Nat.sub_self]
      refine h3 j ?_
      cases Ds with
      | nil => simp at hj
      | cons d Ds => simpa using hj
    | succ i =>
     rw [lg1] at ho
     obtain ⟨q1, q2, q3, q4⟩ := e2 i o' ho
     refine ⟨fun e he hb => by have := q1 e he hb; omega, fun d hd => ?_, fun i' o2 hi h2' d hd => ?_, fun j hj => ?_⟩
     ·have := q2 d hd
      unfold dstBit at this
      split at this
      ·exact this
      ·rw [Nat.testBit_or, Bool.or_eq_false_iff] at this; exact this.1
     ·cases i' with
      | zero =>
       simp only [lg0, osj] at h2'
       subst h2'
       intro hx
       have := q2 d hd
       unfold dstBit at this
       rw [hx] at this
       simp only [Nat.testBit_or, Nat.testBit_two_pow, decide_true, Bool.or_true] at this
       cases this
      | succ i' =>
       rw [lg1] at h2'
       exact q3 i' o2 Yo h2' d hd
     ·have := q4 j (by cases Ds with | nil => simp at hj | cons d Ds => simpa using hj)
      rw [lla, List.length_singleton] at this
      rw [show acc.length + (i + 1) = acc.length + 1 + i by omega]; exact this
   ·rw [e3 p (by simp; omega), Y8, List.getElem?_append_left hp, ← Y8]
  ·cases h
theorem calmB_of {l : List Oper} {Ds : List (List Nat)} {chain : List Nat} (h : calmBF l Ds chain = true) : calmB l.toArray Ds chain = true := by
 unfold calmBF at h
 split at h
 ·cases h
 ·rename_i M hM
  obtain ⟨e1, e2, -⟩ := go_parts _ _ _ _ _ _ hM
  have hok : BitsOk l.toArray M := e1 ▸ bits_ok l [] [] rfl rfl (fun i j h => by simp at h)
  simp only [Bool.and_eq_true, List.all_eq_true, List.mem_range, decide_eq_true_eq] at h
  obtain ⟨h4, h5⟩ := h
  have hget : ∀ i, i < l.length → l[i]? = some (l.getD i default) := fun i hi => by rw [Y9 hi, Y8, Y9 hi]; rfl
  unfold calmB
  simp only [Bool.and_eq_true, List.all_eq_true, List.mem_range, List.size_toArray, decide_eq_true_eq]
  refine ⟨⟨⟨⟨fun i hi => ?_, fun i hi j hj => ?_⟩, fun i hi j hj => ?_⟩, fun m hm m' hm' => ?_⟩, h5⟩
  ·obtain ⟨q1, -⟩ := e2 i _ (hget i hi)
   rw [List.getElem?_toArray, hget i hi, Option.map_some, Option.getD_some, Array.all_eq_true]
   intro n hn
   rcases hb : Region.binds .any (l.getD i default).after[n] with _ | _
   ·rfl
   ·have := q1 _ (by rw [Array.mem_toList_iff]; exact Array.getElem_mem hn) hb
    simp only [Bool.not_true, Bool.false_or, decide_eq_true_eq]; omega
  ·obtain ⟨-, -, q3, -⟩ := e2 i _ (hget i hi)
   rw [List.getElem?_toArray, List.getElem?_toArray, hget i hi, hget j Yo, Option.bind_some, Option.bind_some]
   split
   ·rename_i d d' hd hd'
    have := q3 j _ hj (hget j Yo) d hd
    rw [hd'] at this
    rw [bne_iff_ne]; intro e; subst e; exact this rfl
   ·rfl
  ·obtain ⟨-, -, -, q4⟩ := e2 i _ (hget i hi)
   have := q4 j hj
   rw [List.length_nil, Nat.zero_add] at this
   exact hok i j this _ hi
  ·exact hok _ _ (h4 m hm m' hm') _ (h5 _ (by rw [Y8, Y9 hm]; exact List.getElem_mem _))
theorem calmReach_of {l : List Oper} {i j : Nat} (hi : i < l.length) (h : ((calmBits l []).getD i 0).testBit j = true) : calmReach l.toArray l.length i j = true :=
 (bits_ok (ops := l.toArray) l [] [] rfl rfl (fun i j h => by simp at h)) i j h _ hi
end Go.Proofs.YtiinmhfolfgobaaGreatDoor
