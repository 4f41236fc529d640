/- The reference's simulate: in, step. -/
import Derived.Test.YtlnboheahbfgfaaGreatCalmD
import Derived.Test.YtlnboheahbfgfaaGreatJ12
import Derived.Test.YtlnboheahbfgfaaGreatJ17
import Derived.Test.YtlnboheahbfgfaaGreatJ32
namespace Go.Proofs.YtlnboheahbfgfaaGreat
open Go.RowKit
set_option linter.unusedSimpArgs false
set_option linter.unusedVariables false

def inB (v lo : Int) : Bool := decide (lo ≤ v) && decide (v ≤ 1125899906842624)
theorem inB_len (v : Int) : inB v 0 = lenB v := by unfold inB lenB; rw [← Bool.decide_and]
theorem inB_near (v : Int) : inB v (-1125899906842624) = nearB v := by unfold inB nearB; rw [← Bool.decide_and]
set_option maxHeartbeats 1000000 in
theorem rin41_any (v lo : Int) (w : World) :
  Calls Tryz.prog 72 #[.int .i64 v, .int .i64 lo] w (RB w (.bool (inB v lo))) := by
 by_cases h : lo ≤ v
 ·have g : decide (lo ≤ v) = true := decide_eq_true h
  by_cases h2 : v ≤ 1125899906842624
  ·have g2 : decide (v ≤ 1125899906842624) = true := decide_eq_true h2
   rw [show inB v lo = true from by unfold inB; rw [g, g2]; rfl]
   go_enter Tryz.func72, Tryz.ntmps72
   go_wp2
   go_ret
   exact ⟨rfl, bl0⟩
  ·have g2 : decide (v ≤ 1125899906842624) = false := decide_eq_false h2
   rw [show inB v lo = false from by unfold inB; rw [g, g2]; rfl]
   go_enter Tryz.func72, Tryz.ntmps72
   go_wp2
   go_ret
   exact ⟨rfl, bl0⟩
 ·have g : decide (lo ≤ v) = false := decide_eq_false h
  rw [show inB v lo = false from by unfold inB; rw [g]; rfl]
  go_enter Tryz.func72, Tryz.ntmps72
  go_wp2
  go_ret
  exact ⟨rfl, bl0⟩
theorem rlen_any (v : Int) (w : World) : Calls Tryz.prog 72 #[.int .i64 v, .int .i64 0] w (RB w (.bool (lenB v))) := inB_len v ▸ rin41_any v 0 w
theorem rnear_any (v : Int) (w : World) : Calls Tryz.prog 72 #[.int .i64 v, .int .i64 (-1125899906842624)] w (RB w (.bool (nearB v))) := inB_near v ▸ rin41_any v _ w
theorem all_getD {p : Int → Bool} {zs : List Int} : zs.all p = true ↔ ∀ j, j < zs.length → p (zs.getD j 0) = true := by
 rw [List.all_eq_true]
 constructor
 ·intro h j hj
  exact h (zs.getD j 0) (by rw [List.getD_eq_getElem?_getD, List.getElem?_eq_getElem hj]; simp)
 ·intro h z hz
  obtain ⟨j, hj, rfl⟩ := List.getElem_of_mem hz
  have := h j hj
  rwa [List.getD_eq_getElem?_getD, List.getElem?_eq_getElem hj] at this
def RgRel (w : World) (ls : List Int) (sc xc : Array Value) (g : Nat) (lc : Array Value) (G : Nat) (i : Value) (wr : World) : Prop := ∃ q : Nat, q ≤ 8 ∧ G = 8 - q ∧ i = .int .i64 q ∧ (∀ j, j < q → lenB (ls.getD j 0) = true) ∧ Blk wr w.heap.size 54 sc ∧ Blk wr (w.heap.size + 1) 57 xc ∧ Blk wr g 3 lc ∧ Below w.heap.size w wr
def FtRel (w : World) (ls : List Int) (p : Int) (sc xc : Array Value) (g : Nat) (lc : Array Value) (G : Nat) (i : Value) (wr : World) : Prop := ∃ k : Nat, k ≤ 4 ∧ G = 4 - k ∧ i = .int .i64 (2 * (k : Int)) ∧ (∀ j, j < k → fitsB (ls.getD (2 * j) 0) (ls.getD (2 * j + 1) 0) p = true) ∧ Blk wr w.heap.size 54 sc ∧ Blk wr (w.heap.size + 1) 57 xc ∧ Blk wr g 3 lc ∧ Below w.heap.size w wr
set_option maxRecDepth 100000 in
set_option maxHeartbeats 3000000 in
theorem rstep_any (s : Sch) (A SA : Option Addr) (c sc : Nat) (x : Stp) (w : World) :
  Calls Tryz.prog 73 #[.agg #[.int .i64 s.sta, .int .i64 s.loc, .int .i64 s.p, .int .i64 s.li, .int .i64 s.ai, .slice A s.es.length c, .slice SA s.xs.length sc], .agg #[.int .i64 x.src, .int .i64 x.tr, .int .i64 x.lo, .int .i64 x.ou, .int .i64 x.ol, .int .i64 x.ho, .int .i64 x.hl, .int .i64 x.ba, .int .i64 x.bl, .int .i64 x.w2, .int .i64 x.w3]] w (RB w (.int .i64 (stpE s.p s.es.length x))) := by
 obtain ⟨sta, loc, p, li, ai, es, xs⟩ := s
 obtain ⟨src, tr, lo, ou, ol, ho, hl, ba, bl, w2', w3'⟩ := x
 dsimp only
 obtain ⟨n, hn⟩ : ∃ n, n = es.length := ⟨_, rfl⟩
 obtain ⟨m, hm⟩ : ∃ m, m = xs.length := ⟨_, rfl⟩
 simp only [← hn, ← hm]
 clear hn hm
 obtain ⟨ls, hls⟩ : ∃ ls, [tr, lo, ou, ol, ho, hl, ba, bl] = ls := ⟨_, rfl⟩
 have hall : ls.all lenB = false → stpE p n (⟨src, tr, lo, ou, ol, ho, hl, ba, bl, w2', w3'⟩ : Stp) = 4 := fun h => by unfold stpE Stp.rg Stp.ls; rw [hls, h]; simp
 have hsrc : ¬ (0 ≤ src ∧ src < (n : Int)) → stpE p n (⟨src, tr, lo, ou, ol, ho, hl, ba, bl, w2', w3'⟩ : Stp) = 4 := fun h => by unfold stpE Stp.rg; rw [show (decide (0 ≤ src) && (decide (src < (n : Int)) && _)) = false from by by_cases a : 0 ≤ src <;> by_cases b : src < (n : Int) <;> simp [a, b] <;> omega]; simp
 have hw2 : nearB w2' = false → stpE p n (⟨src, tr, lo, ou, ol, ho, hl, ba, bl, w2', w3'⟩ : Stp) = 4 := fun h => by unfold stpE Stp.rg; simp only [h]; simp
 have hw3 : nearB w3' = false → stpE p n (⟨src, tr, lo, ou, ol, ho, hl, ba, bl, w2', w3'⟩ : Stp) = 4 := fun h => by unfold stpE Stp.rg; simp only [h]; simp
 have hft : ls.all lenB = true → 0 ≤ src ∧ src < (n : Int) → nearB w2' = true → nearB w3' = true → stpE p n (⟨src, tr, lo, ou, ol, ho, hl, ba, bl, w2', w3'⟩ : Stp) = if (fitsB (ls.getD 0 0) (ls.getD 1 0) p && (fitsB (ls.getD 2 0) (ls.getD 3 0) p && (fitsB (ls.getD 4 0) (ls.getD 5 0) p && fitsB (ls.getD 6 0) (ls.getD 7 0) p))) then 0 else 28 := fun h1 h2 h3 h4 => by
  unfold stpE Stp.rg
  simp only [Stp.ls, hls, h1, h3, h4, decide_eq_true h2.1, decide_eq_true h2.2]
  subst hls; rfl
 obtain ⟨r, hr⟩ : ∃ r, stpE p n (⟨src, tr, lo, ou, ol, ho, hl, ba, bl, w2', w3'⟩ : Stp) = r := ⟨_, rfl⟩
 rw [hr] at hall hsrc hw2 hw3 hft ⊢
 have HA := hYd hall; have HS := hYd hsrc; have HW2 := hYd hw2; have HW3 := hYd hw3; have HF := hYd hft; have HLS := hYd hls; clear hall hsrc hw2 hw3 hft hls hr
 go_enter Tryz.func73, Tryz.ntmps73
 go_wp2
 go_loopg [6] 8 (fun G i wr => RgRel w ls #[.int .i64 sta, .int .i64 loc, .int .i64 p, .int .i64 li, .int .i64 ai, .slice A n c, .slice SA m sc] #[.int .i64 src, .int .i64 tr, .int .i64 lo, .int .i64 ou, .int .i64 ol, .int .i64 ho, .int .i64 hl, .int .i64 ba, .int .i64 bl, .int .i64 w2', .int .i64 w3'] (w.heap.size + 2) #[.int .i64 tr, .int .i64 lo, .int .i64 ou, .int .i64 ol, .int .i64 ho, .int .i64 hl, .int .i64 ba, .int .i64 bl] G i wr)
 case atStart => exact ⟨0, by omega, by omega, rfl, fun j hj => by omega, bn0, bn0, bn0, bl0⟩
 case round =>
  obtain ⟨q, hq, rfl, rfl, hal, bS, bX, bL, KR⟩ := hrel
  have ZR := KR.size
  have HAL := hYd hal; clear hal
  have nL : NsAt wr (some ⟨w.heap.size + 2, 0, none⟩) 8 ls := by rw [← HLS.out]; exact ns8 bL
  have hl8 : ls.length = 8 := nL.1
  obtain ⟨cS, fS, lS, eS, kS⟩ := Blk.facts bS
  obtain ⟨cX, fX, lX, eX, kX⟩ := Blk.facts bX
  obtain ⟨cL, fL, lL, eL, kL⟩ := Blk.facts bL
  by_cases hlt : q < 8
  ·have gq : decide ((q : Int) < 8) = true := decide_eq_true (by omega)
   have wq : IntKind.i64.wrap ((q : Int) + 1) = ((q + 1 : Nat) : Int) := by rw [IntWalk.i64_in _ (by omega)]; omega
   have gqn : decide (q < 8) = true := decide_eq_true hlt
   obtain ⟨b9, o9, e9, hb9, hc9⟩ := nL.2.2 (by omega)
   have d0 := hc9 q hlt
   obtain ⟨rfl, rfl⟩ : b9 = w.heap.size + 2 ∧ o9 = 0 := by injection e9 with e9; injection e9 with a b; exact ⟨a.symm, b.symm⟩
   rw [Nat.zero_add] at d0
   clear hc9 hb9 e9 nL cL
   have cL := True.intro
   obtain ⟨v, hv⟩ : ∃ v, ls.getD q 0 = v := ⟨_, rfl⟩
   rw [hv] at d0
   have HV := hYd hv; clear hv
   rcases hlv : lenB v
   ·have hr := HA.out (by
     rcases h : ls.all lenB
     ·rfl
     ·have := all_getD.1 h q (by omega); rw [HV.out, hlv] at this; cases this)
    subst hr
    have RL := hYd (fun W => hlv ▸ rlen_any v W)
    clear hlv
    go_wp2_with fail
    refine (RL.out _).mono ?_
    rintro e w11 ⟨rfl, hb11⟩
    have K11 : Below w.heap.size w w11 := kept_call hb11 bl1
    have Z11 := K11.size
    have bS' := Blk.keep (g := w.heap.size) hb11 bn1
    (try simp only [lst, ls0, ls1] at bS')
    have bX' := Blk.keep (g := w.heap.size + 1) hb11 bn1
    (try simp only [lst, ls0, ls1] at bX')
    have bL' := Blk.keep (g := w.heap.size + 2) hb11 bn1
    (try simp only [lst, ls0, ls1] at bL')
    clear hb11 KR
    clear bS cS fS lS eS kS; have bS := bS'; clear bS'
    clear bX cX fX lX eX kX; have bX := bX'; clear bX'
    clear bL cL fL lL eL kL; have bL := bL'; clear bL'
    obtain ⟨cS, fS, lS, eS, kS⟩ := Blk.facts bS
    obtain ⟨cX, fX, lX, eX, kX⟩ := Blk.facts bX
    obtain ⟨cL, fL, lL, eL, kL⟩ := Blk.facts bL
    go_wp2
    exact bodyPost_ret (v := .int .i64 4) (by simp [results, Tryz.results73, go_sem, *]) rfl ⟨rfl, bl1⟩
   ·have HLV := hYd hlv
    have RL := hYd (fun W => hlv ▸ rlen_any v W)
    clear hlv
    go_wp2_with fail
    refine (RL.out _).mono ?_
    rintro e w11 ⟨rfl, hb11⟩
    have K11 : Below w.heap.size w w11 := kept_call hb11 bl1
    have Z11 := K11.size
    have bS' := Blk.keep (g := w.heap.size) hb11 bn1
    (try simp only [lst, ls0, ls1] at bS')
    have bX' := Blk.keep (g := w.heap.size + 1) hb11 bn1
    (try simp only [lst, ls0, ls1] at bX')
    have bL' := Blk.keep (g := w.heap.size + 2) hb11 bn1
    (try simp only [lst, ls0, ls1] at bL')
    clear hb11 KR
    clear bS cS fS lS eS kS; have bS := bS'; clear bS'
    clear bX cX fX lX eX kX; have bX := bX'; clear bX'
    clear bL cL fL lL eL kL; have bL := bL'; clear bL'
    obtain ⟨cS, fS, lS, eS, kS⟩ := Blk.facts bS
    obtain ⟨cX, fX, lX, eX, kX⟩ := Blk.facts bX
    obtain ⟨cL, fL, lL, eL, kL⟩ := Blk.facts bL
    go_wp2
    go_roundg (8 - (q + 1))
    case measure => omega
    case rel =>
     refine ⟨q + 1, by omega, by omega, by go_num, fun j hj => ?_, bn1, bn1, bn1, bl1⟩
     by_cases e : j = q
     ·subst e; rw [HV.out]; exact HLV.out
     ·exact HAL.out j (by omega)
  ·obtain rfl : q = 8 := by omega
   have gq : decide (((8 : Nat) : Int) < 8) = false := by decide
   have hall : ls.all lenB = true := all_getD.2 (fun j hj => HAL.out j (by omega))
   replace HF := hYd (HF.out hall)
   have HNL := hYd nL
   clear HA HAL nL hall
   by_cases h1 : src < 0
   ·have g1 : decide (src < 0) = true := decide_eq_true h1
    have hr := HS.out (by omega)
    subst hr
    clear HF HS HW2 HW3
    go_wp2
    exact bodyPost_ret (v := .int .i64 4) (by simp [results, Tryz.results73, go_sem, *]) rfl ⟨rfl, bl1⟩
   have g1 : decide (src < 0) = false := decide_eq_false h1
   by_cases h2 : (n : Int) ≤ src
   ·have g2 : decide ((n : Int) ≤ src) = true := decide_eq_true h2
    have hr := HS.out (by omega)
    subst hr
    clear HF HS HW2 HW3
    go_wp2
    exact bodyPost_ret (v := .int .i64 4) (by simp [results, Tryz.results73, go_sem, *]) rfl ⟨rfl, bl1⟩
   have g2 : decide ((n : Int) ≤ src) = false := decide_eq_false h2
   clear HS
   rcases n2 : nearB w2'
   ·have hr := HW2.out n2
    subst hr
    have RN2 := hYd (fun W => n2 ▸ rnear_any w2' W)
    clear HF HW2 HW3 n2
    go_wp2_with fail
    refine (RN2.out _).mono ?_
    rintro e w11 ⟨rfl, hb11⟩
    have K11 : Below w.heap.size w w11 := kept_call hb11 bl1
    have Z11 := K11.size
    have bS' := Blk.keep (g := w.heap.size) hb11 bn1
    (try simp only [lst, ls0, ls1] at bS')
    have bX' := Blk.keep (g := w.heap.size + 1) hb11 bn1
    (try simp only [lst, ls0, ls1] at bX')
    have bL' := Blk.keep (g := w.heap.size + 2) hb11 bn1
    (try simp only [lst, ls0, ls1] at bL')
    clear hb11 KR
    clear bS cS fS lS eS kS; have bS := bS'; clear bS'
    clear bX cX fX lX eX kX; have bX := bX'; clear bX'
    clear bL cL fL lL eL kL; have bL := bL'; clear bL'
    obtain ⟨cS, fS, lS, eS, kS⟩ := Blk.facts bS
    obtain ⟨cX, fX, lX, eX, kX⟩ := Blk.facts bX
    obtain ⟨cL, fL, lL, eL, kL⟩ := Blk.facts bL
    go_wp2
    exact bodyPost_ret (v := .int .i64 4) (by simp [results, Tryz.results73, go_sem, *]) rfl ⟨rfl, bl1⟩
   have RN2 := hYd (fun W => n2 ▸ rnear_any w2' W)
   clear HW2
   rcases n3 : nearB w3'
   ·have hr := HW3.out n3
    subst hr
    have RN3 := hYd (fun W => n3 ▸ rnear_any w3' W)
    clear HF HW3 n3 n2
    go_wp2_with fail
    refine (RN2.out _).mono ?_
    rintro e w11 ⟨rfl, hb11⟩
    have K11 : Below w.heap.size w w11 := kept_call hb11 bl1
    have Z11 := K11.size
    have bS' := Blk.keep (g := w.heap.size) hb11 bn1
    (try simp only [lst, ls0, ls1] at bS')
    have bX' := Blk.keep (g := w.heap.size + 1) hb11 bn1
    (try simp only [lst, ls0, ls1] at bX')
    have bL' := Blk.keep (g := w.heap.size + 2) hb11 bn1
    (try simp only [lst, ls0, ls1] at bL')
    clear hb11 KR
    clear bS cS fS lS eS kS; have bS := bS'; clear bS'
    clear bX cX fX lX eX kX; have bX := bX'; clear bX'
    clear bL cL fL lL eL kL; have bL := bL'; clear bL'
    obtain ⟨cS, fS, lS, eS, kS⟩ := Blk.facts bS
    obtain ⟨cX, fX, lX, eX, kX⟩ := Blk.facts bX
    obtain ⟨cL, fL, lL, eL, kL⟩ := Blk.facts bL
    go_wp2_with fail
    refine (RN3.out _).mono ?_
    rintro e w12 ⟨rfl, hb12⟩
    have K12 : Below w.heap.size w w12 := kept_call hb12 bl1
    have Z12 := K12.size
    have bS' := Blk.keep (g := w.heap.size) hb12 bn1
    (try simp only [lst, ls0, ls1] at bS')
    have bX' := Blk.keep (g := w.heap.size + 1) hb12 bn1
    (try simp only [lst, ls0, ls1] at bX')
    have bL' := Blk.keep (g := w.heap.size + 2) hb12 bn1
    (try simp only [lst, ls0, ls1] at bL')
    clear hb12 K11
    clear bS cS fS lS eS kS; have bS := bS'; clear bS'
    clear bX cX fX lX eX kX; have bX := bX'; clear bX'
    clear bL cL fL lL eL kL; have bL := bL'; clear bL'
    obtain ⟨cS, fS, lS, eS, kS⟩ := Blk.facts bS
    obtain ⟨cX, fX, lX, eX, kX⟩ := Blk.facts bX
    obtain ⟨cL, fL, lL, eL, kL⟩ := Blk.facts bL
    go_wp2
    exact bodyPost_ret (v := .int .i64 4) (by simp [results, Tryz.results73, go_sem, *]) rfl ⟨rfl, bl1⟩
   have RN3 := hYd (fun W => n3 ▸ rnear_any w3' W)
   have hf := HF.out ⟨by omega, by omega⟩ n2 n3
   clear HF HW3 n2 n3
   have HF := hYd hf; clear hf
   go_wp2_with fail
   refine (RN2.out _).mono ?_
   rintro e w11 ⟨rfl, hb11⟩
   have K11 : Below w.heap.size w w11 := kept_call hb11 bl1
   have Z11 := K11.size
   have bS' := Blk.keep (g := w.heap.size) hb11 bn1
   (try simp only [lst, ls0, ls1] at bS')
   have bX' := Blk.keep (g := w.heap.size + 1) hb11 bn1
   (try simp only [lst, ls0, ls1] at bX')
   have bL' := Blk.keep (g := w.heap.size + 2) hb11 bn1
   (try simp only [lst, ls0, ls1] at bL')
   clear hb11 KR
   clear bS cS fS lS eS kS; have bS := bS'; clear bS'
   clear bX cX fX lX eX kX; have bX := bX'; clear bX'
   clear bL cL fL lL eL kL; have bL := bL'; clear bL'
   obtain ⟨cS, fS, lS, eS, kS⟩ := Blk.facts bS
   obtain ⟨cX, fX, lX, eX, kX⟩ := Blk.facts bX
   obtain ⟨cL, fL, lL, eL, kL⟩ := Blk.facts bL
   go_wp2_with fail
   refine (RN3.out _).mono ?_
   rintro e w12 ⟨rfl, hb12⟩
   have K12 : Below w.heap.size w w12 := kept_call hb12 bl1
   have Z12 := K12.size
   have bS' := Blk.keep (g := w.heap.size) hb12 bn1
   (try simp only [lst, ls0, ls1] at bS')
   have bX' := Blk.keep (g := w.heap.size + 1) hb12 bn1
   (try simp only [lst, ls0, ls1] at bX')
   have bL' := Blk.keep (g := w.heap.size + 2) hb12 bn1
   (try simp only [lst, ls0, ls1] at bL')
   clear hb12 K11
   clear bS cS fS lS eS kS; have bS := bS'; clear bS'
   clear bX cX fX lX eX kX; have bX := bX'; clear bX'
   clear bL cL fL lL eL kL; have bL := bL'; clear bL'
   obtain ⟨cS, fS, lS, eS, kS⟩ := Blk.facts bS
   obtain ⟨cX, fX, lX, eX, kX⟩ := Blk.facts bX
   obtain ⟨cL, fL, lL, eL, kL⟩ := Blk.facts bL
   go_wp2
   go_loopg [7] 4 (fun G i wr => FtRel w ls p #[.int .i64 sta, .int .i64 loc, .int .i64 p, .int .i64 li, .int .i64 ai, .slice A n c, .slice SA m sc] #[.int .i64 src, .int .i64 tr, .int .i64 lo, .int .i64 ou, .int .i64 ol, .int .i64 ho, .int .i64 hl, .int .i64 ba, .int .i64 bl, .int .i64 w2', .int .i64 w3'] (w.heap.size + 2) #[.int .i64 tr, .int .i64 lo, .int .i64 ou, .int .i64 ol, .int .i64 ho, .int .i64 hl, .int .i64 ba, .int .i64 bl] G i wr)
   case atStart => exact ⟨0, by omega, by omega, rfl, fun j hj => by omega, bn1, bn1, bn1, bl1⟩
   case round =>
    clear K12 bS cS fS lS eS kS bX cX fX lX eX kX bL cL fL lL eL kL
    skip
    obtain ⟨k, hk, rfl, rfl, hal, bS, bX, bL, KR2⟩ := hrel
    have ZR2 := KR2.size
    have HAL := hYd hal; clear hal
    have nL : NsAt wr (some ⟨w.heap.size + 2, 0, none⟩) 8 ls := by rw [← HLS.out]; exact ns8 bL
    obtain ⟨cS, fS, lS, eS, kS⟩ := Blk.facts bS
    obtain ⟨cX, fX, lX, eX, kX⟩ := Blk.facts bX
    obtain ⟨cL, fL, lL, eL, kL⟩ := Blk.facts bL
    by_cases hlt : k < 4
    ·have gq : decide (2 * (k : Int) < 8) = true := decide_eq_true (by omega)
     have wq : IntKind.i64.wrap (2 * (k : Int) + 2) = 2 * ((k + 1 : Nat) : Int) := by rw [IntWalk.i64_in _ (by omega)]; omega
     obtain ⟨k2, hk2⟩ : ∃ k2 : Nat, k2 = 2 * k := ⟨_, rfl⟩
     have ek : 2 * (k : Int) = (k2 : Int) := by omega
     have wq1 : IntKind.i64.wrap ((k2 : Int) + 1) = ((k2 + 1 : Nat) : Int) := by rw [IntWalk.i64_in _ (by omega)]; omega
     obtain ⟨b9, o9, e9, hb9, hc9⟩ := nL.2.2 (by omega)
     have d0 := hc9 k2 (by omega); have d1 := hc9 (k2 + 1) (by omega)
     obtain ⟨rfl, rfl⟩ : b9 = w.heap.size + 2 ∧ o9 = 0 := by injection e9 with e9; injection e9 with a b; exact ⟨a.symm, b.symm⟩
     rw [Nat.zero_add] at d0 d1
     clear hc9 hb9 e9 nL
     rw [ek] at gq wq ⊢
     have gk : decide ((k2 : Int) < 8) = true := gq
     have gk1 : decide (((k2 + 1 : Nat) : Int) < 8) = true := decide_eq_true (by omega)
     have gkn : decide (k2 < 8) = true := decide_eq_true (by omega)
     have gkn1 : decide (k2 + 1 < 8) = true := decide_eq_true (by omega)
     have gkb : k2 < 8 := by omega
     have gkb1 : k2 + 1 < 8 := by omega
     have gkp : (k2 : Int) < 8 := by omega
     have gkp1 : (k2 : Int) + 1 < 8 := by omega
     have HK2 := hYd hk2; clear hk2 ek
     obtain ⟨va, hva⟩ : ∃ v, ls.getD k2 0 = v := ⟨_, rfl⟩
     obtain ⟨vb, hvb⟩ : ∃ v, ls.getD (k2 + 1) 0 = v := ⟨_, rfl⟩
     rw [hva] at d0; rw [hvb] at d1
     have HVA := hYd hva; have HVB := hYd hvb; clear hva hvb
     obtain ⟨fv, hfv⟩ : ∃ f : Bool, fitsB va vb p = f := ⟨_, rfl⟩
     have RFT := hYd (fun W => (show Calls _ _ _ _ (RB W (.bool fv)) from (rfits_any va vb p W).mono (fun _ _ h => ⟨by rw [h.1, hfv], h.2 ▸ Below.refl _ _⟩)))
     have HFV := hYd hfv; clear hfv
     go_upto_region 12 with fail
     have lL9 := lL; clear cL; have cL := True.intro
     refine' wp_region_calmD (by kernel_rfl) (fun D u9 w' => Below wr.heap.size wr w' ∧ Blk w' w.heap.size 54 #[.int .i64 sta, .int .i64 loc, .int .i64 p, .int .i64 li, .int .i64 ai, .slice A n c, .slice SA m sc] ∧ Blk w' (w.heap.size + 1) 57 #[.int .i64 src, .int .i64 tr, .int .i64 lo, .int .i64 ou, .int .i64 ol, .int .i64 ho, .int .i64 hl, .int .i64 ba, .int .i64 bl, .int .i64 w2', .int .i64 w3'] ∧ Blk w' (w.heap.size + 2) 3 #[.int .i64 tr, .int .i64 lo, .int .i64 ou, .int .i64 ol, .int .i64 ho, .int .i64 hl, .int .i64 ba, .int .i64 bl]) (fun _ _ => True) [(Is _), (Is _), (Is _), (Is _), (Is _), (Is _), (Is _), (Is _), (Is _), (Is _), (Is _), (Is _), (Is _)] [[], [], [0, 1], [2], [], [], [5], [4, 6], [7], [], [9], [3, 8, 10], [11]] rfl (by kernel_rfl) (fun u => by (simp only [calmPut, Act.put, lst, ls0, ls1, Nat.zero_add, Nat.reduceAdd]; rfl)) ?_ (kcc keep_is' (kcc keep_is' (kcc keep_is' (kcc keep_is' (kcc keep_is' (kcc keep_is' (kcc keep_is' (kcc keep_is' (kcc keep_is' (kcc keep_is' (kcc keep_is' (kcc keep_is' (kcc keep_is' (calmKeep_nil)))))))))))))) ?_ ?_
     ·exact ⟨(Below.refl _ _).drew, bS.drew, bX.drew, bL.drew⟩
     rotate_left 13
     ·skip
      refine dc0 (fun uu wq D hC K hK => ?_) ?_
      ·obtain ⟨hP, mS, mX, mL⟩ := hC
       go_simp
       exact hK _ _ _ rfl ⟨hP, mS, mX, mL⟩ trivial rfl
      refine dc0 (fun uu wq D hC K hK => ?_) ?_
      ·obtain ⟨hP, mS, mX, mL⟩ := hC
       go_simp
       exact hK _ _ _ rfl ⟨hP, mS, mX, mL⟩ trivial rfl
      refine dc1 (fun uu wq D hC hk K hK => ?_) ?_
      ·obtain ⟨hP, mS, mX, mL⟩ := hC
       simp only [calmKnown, lg0, lg1, and_true, Is] at hk
       obtain ⟨h0, h1⟩ := hk
       simp only [h0, h1] at hK ⊢
       have H0 := hYd h0; clear h0; have H1 := hYd h1; clear h1
       go_simp
       exact hK _ _ _ rfl ⟨hP, mS, mX, mL⟩ trivial rfl
      refine dc1 (fun uu wq D hC hk K hK => ?_) ?_
      ·obtain ⟨hP, mS, mX, mL⟩ := hC
       simp only [calmKnown, lg0, lg1, and_true, Is] at hk
       have h2 := hk; clear hk
       simp only [h2] at hK ⊢
       have H2 := hYd h2; clear h2
       have lL9 : w.heap.size + 2 < wr.heap.size := lL
       have d0' := (hP.cell (p := ⟨w.heap.size + 2, k2, none⟩) lL9).trans d0; have d1' := (hP.cell (p := ⟨w.heap.size + 2, k2 + 1, none⟩) lL9).trans d1
       have cS := mS.cell; have lS := mS.lt
       go_simp
       exact hK _ _ _ rfl ⟨hP, mS, mX, mL⟩ trivial rfl
      refine dc0 (fun uu wq D hC K hK => ?_) ?_
      ·obtain ⟨hP, mS, mX, mL⟩ := hC
       go_simp
       exact hK _ _ _ rfl ⟨hP, mS, mX, mL⟩ trivial rfl
      refine dc0 (fun uu wq D hC K hK => ?_) ?_
      ·obtain ⟨hP, mS, mX, mL⟩ := hC
       go_simp
       exact hK _ _ _ rfl ⟨hP, mS, mX, mL⟩ trivial rfl
      refine dc1 (fun uu wq D hC hk K hK => ?_) ?_
      ·obtain ⟨hP, mS, mX, mL⟩ := hC
       simp only [calmKnown, lg0, lg1, and_true, Is] at hk
       have h5 := hk; clear hk
       simp only [h5] at hK ⊢
       have H5 := hYd h5; clear h5
       go_simp
       exact hK _ _ _ rfl ⟨hP, mS, mX, mL⟩ trivial rfl
      refine dc1 (fun uu wq D hC hk K hK => ?_) ?_
      ·obtain ⟨hP, mS, mX, mL⟩ := hC
       simp only [calmKnown, lg0, lg1, and_true, Is] at hk
       obtain ⟨h4, h6⟩ := hk
       simp only [h4, h6] at hK ⊢
       have H4 := hYd h4; clear h4; have H6 := hYd h6; clear h6
       go_simp
       exact hK _ _ _ rfl ⟨hP, mS, mX, mL⟩ trivial rfl
      refine dc1 (fun uu wq D hC hk K hK => ?_) ?_
      ·obtain ⟨hP, mS, mX, mL⟩ := hC
       simp only [calmKnown, lg0, lg1, and_true, Is] at hk
       have h7 := hk; clear hk
       simp only [h7] at hK ⊢
       have H7 := hYd h7; clear h7
       have lL9 : w.heap.size + 2 < wr.heap.size := lL
       have d0' := (hP.cell (p := ⟨w.heap.size + 2, k2, none⟩) lL9).trans d0; have d1' := (hP.cell (p := ⟨w.heap.size + 2, k2 + 1, none⟩) lL9).trans d1
       have cS := mS.cell; have lS := mS.lt
       go_simp
       exact hK _ _ _ rfl ⟨hP, mS, mX, mL⟩ trivial rfl
      refine dc0 (fun uu wq D hC K hK => ?_) ?_
      ·obtain ⟨hP, mS, mX, mL⟩ := hC
       go_simp
       exact hK _ _ _ rfl ⟨hP, mS, mX, mL⟩ trivial rfl
      refine dc1 (fun uu wq D hC hk K hK => ?_) ?_
      ·obtain ⟨hP, mS, mX, mL⟩ := hC
       simp only [calmKnown, lg0, lg1, and_true, Is] at hk
       have h9 := hk; clear hk
       simp only [h9] at hK ⊢
       have H9 := hYd h9; clear h9
       have lL9 : w.heap.size + 2 < wr.heap.size := lL
       have d0' := (hP.cell (p := ⟨w.heap.size + 2, k2, none⟩) lL9).trans d0; have d1' := (hP.cell (p := ⟨w.heap.size + 2, k2 + 1, none⟩) lL9).trans d1
       have cS := mS.cell; have lS := mS.lt
       go_simp
       exact hK _ _ _ rfl ⟨hP, mS, mX, mL⟩ trivial rfl
      refine dc1 (fun uu wq D hC hk K hK => ?_) ?_
      ·obtain ⟨hP, mS, mX, mL⟩ := hC
       simp only [calmKnown, lg0, lg1, and_true, Is] at hk
       obtain ⟨h3, h8, h10⟩ := hk
       simp only [h3, h8, h10] at hK ⊢
       have H3 := hYd h3; clear h3; have H8 := hYd h8; clear h8; have H10 := hYd h10; clear h10
       first
        | (refine' calm_op ?_ ?_; rfl; go_simp; (first | (with_reducible refine (RFT.out _).mono ?_)); rintro e w2 ⟨rfl, hbl⟩; exact hK _ _ _ rfl ⟨kept_call hbl hP, Blk.keep hbl mS, Blk.keep hbl mX, Blk.keep hbl mL⟩ trivial rfl)
        | (go_simp; exact hK _ _ _ rfl ⟨hP, mS, mX, mL⟩ trivial rfl)
      refine dc1 (fun uu wq D hC hk K hK => ?_) ?_
      ·obtain ⟨hP, mS, mX, mL⟩ := hC
       simp only [calmKnown, lg0, lg1, and_true, Is] at hk
       have h11 := hk; clear hk
       simp only [h11] at hK ⊢
       have H11 := hYd h11; clear h11
       go_simp
       exact hK _ _ _ rfl ⟨hP, mS, mX, mL⟩ trivial rfl
      exact dSteps_nil
     ·intro uu wz D hD hC hF
      obtain ⟨hP, mS, mX, mL⟩ := hC
      simp only [calmFacts, Is, and_true, true_and] at hF
      obtain ⟨f0, f1, f2, f3, f4, f5, f6, f7, f8, f9, f10, f11, f12⟩ := hF
      simp only [f0, f1, f2, f3, f4, f5, f6, f7, f8, f9, f10, f11, f12]
      have KZ := kept_call hP KR2
      have HKZ := hYd KZ
      clear hD
      cases fv with
      | false =>
       have hr : r = 28 := by
        have h9 := HF.out
        have hk : k = 0 ∨ k = 1 ∨ k = 2 ∨ k = 3 := by omega
        have hfb := HFV.out; rw [← HVA.out, ← HVB.out, HK2.out] at hfb
        rcases hk with rfl | rfl | rfl | rfl <;> (simp only [Nat.mul_zero, Nat.mul_one, Nat.zero_add, Nat.reduceMul, Nat.reduceAdd] at hfb; rw [hfb] at h9; simpa using h9)
       subst hr
       clear HF
       go_wp2
       refine bodyPost_ret (v := .int .i64 28) (by simp [results, Tryz.results73, go_sem, *]) rfl ⟨rfl, HKZ.out⟩
      | true =>
       go_wp2
       go_roundg (4 - (k + 1))
       case measure => omega
       case rel =>
        refine ⟨k + 1, by omega, by omega, by first | rfl | go_num, fun j hj => ?_, mS, mX, mL, HKZ.out⟩
        by_cases e : j = k
        ·subst e; have hfb := HFV.out; rw [← HVA.out, ← HVB.out, HK2.out] at hfb; exact hfb
        ·exact HAL.out j (by omega)
    ·obtain rfl : k = 4 := by omega
     have gq : decide (2 * ((4 : Nat) : Int) < 8) = false := by decide
     have hr : r = 0 := by
      have h9 := HF.out
      have a0 := HAL.out 0 (by omega); have a1 := HAL.out 1 (by omega); have a2 := HAL.out 2 (by omega); have a3 := HAL.out 3 (by omega)
      simp only [Nat.mul_zero, Nat.mul_one, Nat.zero_add, Nat.reduceMul, Nat.reduceAdd] at a0 a1 a2 a3
      rw [a0, a1, a2, a3] at h9; simpa using h9
     subst hr
     clear HF
     go_wp2
     exact bodyPost_ret (v := .int .i64 0) (by simp [results, Tryz.results73, go_sem, *]) rfl ⟨rfl, bl1⟩
end Go.Proofs.YtlnboheahbfgfaaGreat
