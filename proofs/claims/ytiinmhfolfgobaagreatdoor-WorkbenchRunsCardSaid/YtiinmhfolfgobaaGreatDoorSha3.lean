/- The program's block. -/
import Derived.BigQuiet
import Derived.Deep.QuietTactic
import Derived.Laws.CopyOwn
import Derived.Test.YtiinmhfolfgobaaGreatDoorJ9
import Derived.Test.YtiinmhfolfgobaaGreatDoorJ4
import Derived.Test.YtiinmhfolfgobaaGreatDoorJ10
import Derived.Test.YtiinmhfolfgobaaGreatDoorJ35
set_option linter.unusedVariables false
set_option linter.unusedSimpArgs false
namespace Go.Proofs.YtiinmhfolfgobaaGreatDoor
open Go.RowKit
set_option maxHeartbeats 160000000
set_option maxRecDepth 100000
def Cell1 (w : World) (g p : Nat) (v : Value) : Prop := g < w.heap.size ∧ w.cell? ⟨g, p, none⟩ = some v
theorem Cell1.below {w w' : World} {g p : Nat} {v : Value} (h : Cell1 w g p v) (hb : Below w.heap.size w w') : Cell1 w' g p v := ⟨Nat.lt_of_lt_of_le h.1 hb.size, cell_below hb h.2⟩
theorem src_pre {w : World} {g : Nat} {T : TypeId} {cur : Array Value} (hB : Blk w g T cur) (cs : List Value) (hp : cs <+: cur.toList) : ∀ j v, cs[j]? = some v → w.cell? ((⟨g, 0, none⟩ : Addr).add j) = some v := by
 intro j v hj
 obtain ⟨t, ht⟩ := hp
 have h0 : (⟨g, 0, none⟩ : Addr).add j = ⟨g, j, none⟩ := by (simp [Addr.add] <;> omega)
 rw [h0, hB.cell, ← Array.getElem?_toList, ← ht, List.getElem?_append_left (List.getElem?_eq_some_iff.1 hj).1]
 exact hj
theorem wp_copy_splice {P : Program} {w : World} {o : Oper} {a : Act} {K : Act → World → Prop} {Q : Exit → Act → World → Prop} (hgd : o.guard = none) (d s : Operand) (dT sT : TypeId)
  (ho : o.op = .call { callee := .builtin .copy, args := #[d, s], argTypes := #[dT, sT] }) (elem : TypeId) (hu : P.underlying dT = some (.slice elem)) (hsz : (P.info? elem).map (·.size) = some 1)
  (dp sp : Option Addr) (dLen dCap sLen sCap : Nat) (hd : a.eval d = .slice dp dLen dCap) (hs : a.eval s = .slice sp sLen sCap)
  (g off : Nat) (cur : List Value) (t : TypeId) (hg : w.heap[g]? = some (.cells cur.toArray t (0, 0))) (cs : List Value) (hn : cs.length = Nat.min sLen dLen)
  (hpos : 0 < cs.length → dp = some ⟨g, off, none⟩ ∧ ∃ ad, sp = some ad ∧ ∀ j v, cs[j]? = some v → w.cell? (ad.add j) = some v)
  (hfit : off + cs.length ≤ cur.length) (h1 : ∀ v ∈ cs, v.oneCell' = true) (B : Nat) (w0 : World) (hb : Below B w0 w) (hBg : B ≤ g)
  (h : ∀ w', Hid (w'.heap[g]? = some (.cells (splice cur off cs).toArray t (0, 0))) → Below B w0 w' → K (a.put o.dst (goInt cs.length)) w') : Oper.wp P o a w K Q := by
 have h9 := step_copy_splice (ops := #[]) (Q := Q) (E := True) hgd d s dT sT ho elem hu hsz dp sp dLen dCap sLen sCap hd hs g off cur t hg cs hn hpos hfit h1 B w0 hb hBg h
 rwa [if_pos (by simp [Region.wanted, hgd])] at h9
def St8.at8 (s : St8) (q : Nat) : Int := [s.a, s.b, s.c, s.d, s.e, s.f, s.g, s.h].getD q 0
def mixA (s t : St8) (q : Nat) : Array Value := #[.int .u32 (if 0 < q then IntKind.u32.wrap (s.a + t.a) else s.a), .int .u32 (if 1 < q then IntKind.u32.wrap (s.b + t.b) else s.b), .int .u32 (if 2 < q then IntKind.u32.wrap (s.c + t.c) else s.c), .int .u32 (if 3 < q then IntKind.u32.wrap (s.d + t.d) else s.d), .int .u32 (if 4 < q then IntKind.u32.wrap (s.e + t.e) else s.e), .int .u32 (if 5 < q then IntKind.u32.wrap (s.f + t.f) else s.f), .int .u32 (if 6 < q then IntKind.u32.wrap (s.g + t.g) else s.g), .int .u32 (if 7 < q then IntKind.u32.wrap (s.h + t.h) else s.h)]
theorem lt8 {q : Nat} (h : q < 8) : q = 0 ∨ q = 1 ∨ q = 2 ∨ q = 3 ∨ q = 4 ∨ q = 5 ∨ q = 6 ∨ q = 7 := by omega
theorem mix_get (s t : St8) (q : Nat) (h : q < 8) : (mixA s t q)[q]? = some (.int .u32 (s.at8 q)) := by
 rcases lt8 h with rfl | rfl | rfl | rfl | rfl | rfl | rfl | rfl <;> rfl
theorem cells_get (s : St8) (q : Nat) (h : q < 8) : s.cells[q]? = some (.int .u32 (s.at8 q)) := by
 rcases lt8 h with rfl | rfl | rfl | rfl | rfl | rfl | rfl | rfl <;> rfl
theorem mix_set (s t : St8) (q : Nat) (h : q < 8) : (mixA s t q).setIfInBounds q (.int .u32 (IntKind.u32.wrap (s.at8 q + t.at8 q))) = mixA s t (q + 1) := by
 rcases lt8 h with rfl | rfl | rfl | rfl | rfl | rfl | rfl | rfl <;> rfl
def R3Rel (w : World) (g2 : Nat) (ks W : List Int) (s0 : St8) (G : Nat) (i : Value) (wr : World) : Prop := ∃ (q : Nat) (s : St8), q ≤ 64 ∧ G = 64 - q ∧ i = .int .i64 q ∧ s = rndS ks W s0 q ∧ Blk wr g2 256 s.cells ∧ Below w.heap.size w wr
def R4Rel (w : World) (gh g2 : Nat) (s0 s : St8) (G : Nat) (i : Value) (wr : World) : Prop := ∃ q : Nat, q ≤ 8 ∧ G = 8 - q ∧ i = .int .i64 q ∧ Blk wr gh 256 (mixA s0 s q) ∧ Blk wr g2 256 s.cells ∧ GB gh w wr
theorem hblock_any (gh gk gb ob cb : Nat) (hs : St8) (ks bs : List Int) (kl : ks.length = 64) (bl : bs.length = 64) (hi : hs.ok) (ki : InW ks) (bi : ∀ x ∈ bs, 0 ≤ x ∧ x < 256) (w : World) (h : Blk w gh 256 hs.cells) (k : WdAt 249 w gk ks) (b : BySl w gb ob bs) :
  Calls Tryz.prog 251 #[.pointer (some ⟨gh, 0, none⟩), .slice (some ⟨gb, ob, none⟩) 64 cb, .pointer (some ⟨gk, 0, none⟩)] w (fun e w' => e = .returned (.tuple #[]) ∧ Blk w' gh 256 (blkS ks bs hs).cells ∧ GB gh w w') := by
 have HK := Yh (show Kp w w from Below.refl _ _)
 have HH := Yh (h)
 have HKS := Yh (k)
 have HB := Yh (b)
 have HH0 := HH; have HK0 := HKS; have HB0 := HB
 have hgh := h.lt; have hgk := (k.cells 0 Yo).1; have hgb := b.1
 clear h k b
 go_enter Tryz.func251, Tryz.ntmps251
 go_upto_region 0 with fail
 go_cut [6] (fun v wx => v = .pointer (some ⟨w.heap.size, 0, none⟩) ∧ WdAt 249 wx w.heap.size (List.replicate 64 0) ∧ Below w.heap.size w wx)
 case first =>
  go_wp2_with fail
  go_meet
  exact ⟨rfl, WdAt.new w 64, bl0⟩
 case rest =>
  obtain ⟨rfl, hw, KC⟩ := hcut
  have ZC := KC.size
  have HW := Yh hw; clear hw
  go_wp2
  go_loopg [20] 16 (fun G i wr => RbRel w w.heap.size bs G i wr)
  case atStart => exact ⟨0, Yo, Yo, rfl, HW.out, KC⟩
  case round =>
   obtain ⟨q, hq, rfl, rfl, hw, KR⟩ := hrel
   have ZR := KR.size
   clear HW HK HH HKS HB KC ZC
   have HK := Yh (show Kp w wr from KR); have HH := Yh (HH0.out.below KR); have HKS := Yh (HK0.out.below KR); have HB := Yh (HB0.out.below KR); have HW := Yh hw
   have hl7 := (hw.cells 0 (by rw [(mS_ok bs q).1]; omega)).1
   have hml := (mS_ok bs q).1
   clear hw KR
   by_cases hlt : q < 16
   ·as_aux_lemma =>
    have gq : decide ((q : Int) < 16) = true := Y2
    have gqn : decide (q < 16) = true := decide_eq_true hlt
    have wq : IntKind.i64.wrap ((q : Int) + 1) = ((q + 1 : Nat) : Int) := Y4
    obtain ⟨r0, hr0⟩ : ∃ r, 4 * q = r := ⟨_, rfl⟩
    obtain ⟨r1, hr1⟩ : ∃ r, 4 * q + 1 = r := ⟨_, rfl⟩
    obtain ⟨r2, hr2⟩ : ∃ r, 4 * q + 2 = r := ⟨_, rfl⟩
    obtain ⟨r3, hr3⟩ : ∃ r, 4 * q + 3 = r := ⟨_, rfl⟩
    have w4 : IntKind.i64.wrap (4 * (q : Int)) = (r0 : Int) := Y4
    have w41 : IntKind.i64.wrap ((r0 : Int) + 1) = (r1 : Int) := Y4
    have w42 : IntKind.i64.wrap ((r0 : Int) + 2) = (r2 : Int) := Y4
    have w43 : IntKind.i64.wrap ((r0 : Int) + 3) = (r3 : Int) := Y4
    have pi0 : (r0 : Int) < 64 := by omega
    have pi1 : (r1 : Int) < 64 := by omega
    have pi2 : (r2 : Int) < 64 := by omega
    have pi3 : (r3 : Int) < 64 := by omega
    have pq : (q : Int) < 64 := by omega
    have pqn : q < 64 := by omega
    have p0 : r0 < 64 := by omega
    have p1 : r1 < 64 := by omega
    have p2 : r2 < 64 := by omega
    have p3 : r3 < 64 := by omega
    have e0 := HB.out.2 r0 Yo
    have e1 := HB.out.2 r1 Yo
    have e2 := HB.out.2 r2 Yo
    have e3 := HB.out.2 r3 Yo
    have hst : mS bs (q + 1) = (mS bs q).set q (bits .or .u32 (bits .or .u32 (bits .or .u32 (IntKind.u32.wrap (IntKind.u32.wrap (bs.getD r0 0) * 16777216)) (IntKind.u32.wrap (IntKind.u32.wrap (bs.getD r1 0) * 65536))) (IntKind.u32.wrap (IntKind.u32.wrap (bs.getD r2 0) * 256))) (IntKind.u32.wrap (bs.getD r3 0))) := by rw [← hr0, ← hr1, ← hr2, ← hr3]; rfl
    have hx (j : Nat) (hj : j < 64) : 0 ≤ bs.getD j 0 ∧ bs.getD j 0 < 256 := bi _ (by rw [Y8, Y9 Yo]; exact List.getElem_mem _)
    have hx0 := hx r0 p0
    have hx1 := hx r1 p1
    have hx2 := hx r2 p2
    have hx3 := hx r3 p3
    generalize bs.getD r0 0 = x0 at *
    generalize bs.getD r1 0 = x1 at *
    generalize bs.getD r2 0 = x2 at *
    generalize bs.getD r3 0 = x3 at *
    have HST := Yh hst; clear hst hx hr0 hr1 hr2 hr3
    have E := Yh (fun (W : World) (hW : Below wr.heap.size wr W) => Ya (show gb < wr.heap.size by omega) (Ya ((hW.cell (p := ⟨gb, ob + r0, none⟩) (by simp only; omega)).trans e0) (Ya ((hW.cell (p := ⟨gb, ob + r1, none⟩) (by simp only; omega)).trans e1) (Ya ((hW.cell (p := ⟨gb, ob + r2, none⟩) (by simp only; omega)).trans e2) ((hW.cell (p := ⟨gb, ob + r3, none⟩) (by simp only; omega)).trans e3)))))
    clear e0 e1 e2 e3
    generalize mS bs q = ws at *
    go_wp2_with fail
    (try dsimp only [List.append])
    refine' wp_region_calm Yr (fun n _ w' => Below w.heap.size w w' ∧ (n = 0 → Below wr.heap.size wr w' ∧ WdAt 249 w' (w.heap.size) (ws)) ∧ (n = 1 → WdAt 249 w' (w.heap.size) ((ws).set q (bits .or .u32 (bits .or .u32 (bits .or .u32 (IntKind.u32.wrap (IntKind.u32.wrap x0 * 16777216)) (IntKind.u32.wrap (IntKind.u32.wrap x1 * 65536))) (IntKind.u32.wrap (IntKind.u32.wrap x2 * 256))) (IntKind.u32.wrap x3))))) (fun _ _ => True) ((Is _) :: (Is _) :: (Is _) :: (Is _) :: (Is _) :: (Is _) :: (Is _) :: (Is _) :: (Is _) :: (Is _) :: (Is _) :: (Is _) :: (Is _) :: (Is _) :: (Is _) :: (Is _) :: (Is _) :: (Is _) :: (Is _) :: (Is _) :: (Is _) :: (Is _) :: (Is _) :: (Is _) :: (Is _) :: (Is _) :: (Is _) :: (Is _) :: (Is _) :: (Is _) :: (Is _) :: (Is _) :: (Is _) :: (Is _) :: (Is _) :: (fun _ _ _ => True) :: []) ([] :: [] :: [] :: [2] :: [1, 3] :: [4] :: [5] :: [6] :: [] :: [] :: [9] :: [10] :: [8, 11] :: [12] :: [13] :: [14] :: [7, 15] :: [] :: [] :: [18] :: [19] :: [17, 20] :: [21] :: [22] :: [23] :: [16, 24] :: [] :: [] :: [27] :: [28] :: [26, 29] :: [30] :: [31] :: [25, 32] :: [0] :: [34, 33] :: []) [35] [] rfl Yr Yp ?_ (Y1 (Y1 (Y1 (Y1 (Y1 (Y1 (Y1 (Y1 (Y1 (Y1 (Y1 (Y1 (Y1 (Y1 (Y1 (Y1 (Y1 (Y1 (Y1 (Y1 (Y1 (Y1 (Y1 (Y1 (Y1 (Y1 (Y1 (Y1 (Y1 (Y1 (Y1 (Y1 (Y1 (Y1 (Y1 (Y0 Yn)))))))))))))))))))))))))))))))))))) ?_ ?_
    ·intro _
     exact ⟨(have z9 := HK.out.b; bl1), (fun _ => ⟨bl0, HW.out.below bl0⟩), Ye⟩
    rotate_left 35
    ·skip
     iterate 5 refine zq0 ?_
     refine zq1 (fun _ _ n _ hn2 ⟨_, hR0, _⟩ => have hn0 : n = 0 := Nat.le_zero.1 (hn2 0 35 rfl Yr); have hQ := (hR0 hn0).1; Ya hn0 (Ya hQ (Ya ((hR0 hn0).2) (E.out _ hQ)))) ?_
     iterate 7 refine zq0 ?_
     refine zq1 (fun _ _ n _ hn2 ⟨_, hR0, _⟩ => have hn0 : n = 0 := Nat.le_zero.1 (hn2 0 35 rfl Yr); have hQ := (hR0 hn0).1; Ya hn0 (Ya hQ (Ya ((hR0 hn0).2) (E.out _ hQ)))) ?_
     iterate 8 refine zq0 ?_
     refine zq1 (fun _ _ n _ hn2 ⟨_, hR0, _⟩ => have hn0 : n = 0 := Nat.le_zero.1 (hn2 0 35 rfl Yr); have hQ := (hR0 hn0).1; Ya hn0 (Ya hQ (Ya ((hR0 hn0).2) (E.out _ hQ)))) ?_
     iterate 8 refine zq0 ?_
     refine zq1 (fun _ _ n _ hn2 ⟨_, hR0, _⟩ => have hn0 : n = 0 := Nat.le_zero.1 (hn2 0 35 rfl Yr); have hQ := (hR0 hn0).1; Ya hn0 (Ya hQ (Ya ((hR0 hn0).2) (E.out _ hQ)))) ?_
     iterate 3 refine zq0 ?_
     refine Yz (fun u wq n hn hn2 hC hk K hK => ?_) ?_
     ·obtain ⟨hP, hR0, hR1⟩ := hC
      simp only [calmKnown, lg0, lg1, and_true, Is] at hk
      obtain ⟨h34, h33⟩ := hk
      simp only [h34, h33] at hK ⊢
      have H34 := Yh h34; clear h34; have H33 := Yh h33; clear h33
      obtain rfl := hn 0 rfl
      have hq := (hR0 rfl).2
      clear hR0 hR1
      obtain ⟨y9, y0, yf⟩ := hq.cells q (by (try simp only [List.length_set]); omega)
      have hq2 := hq.set q (bits .or .u32 (bits .or .u32 (bits .or .u32 (IntKind.u32.wrap (IntKind.u32.wrap x0 * 16777216)) (IntKind.u32.wrap (IntKind.u32.wrap x1 * 65536))) (IntKind.u32.wrap (IntKind.u32.wrap x2 * 256))) (IntKind.u32.wrap x3)) (by (try simp only [List.length_set]); omega)
      go_simp
      exact hK _ undef _ rfl ⟨bl1, Ye, (fun _ => hq2)⟩ trivial trivial
     exact Yw
    ·intro u w1 hC hF
     obtain ⟨hP, hR0, hR1⟩ := hC
     have hR := hR1 rfl
     clear hF hR0 hR1
     have Z1 := hP.size
     have HWN := Yh (Ya hR hP); clear hR hP
     go_wp2
     go_roundg (16 - (q + 1))
     case measure => omega
     case rel => exact ⟨q + 1, Yo, Yo, by go_num, by rw [HST.out]; exact HWN.out.1, HWN.out.2⟩
   ·obtain rfl : q = 16 := by omega
    have gq : decide (((16 : Nat) : Int) < 16) = false := by decide
    have gq2 : decide ((16 : Int) < 16) = false := by decide
    rw [show mS bs 16 = schS bs 0 from rfl] at HW
    clear hml hl7
    go_wp2
    obtain ⟨w5, rfl⟩ : ∃ x : World, x = wr := ⟨_, rfl⟩
    go_loopg [8] 48 (fun G i wr => RcRel w w.heap.size bs G i wr)
    case atStart => exact ⟨0, Yo, Yo, rfl, HW.out, HK.out.b⟩
    case round =>
     obtain ⟨q, hq, rfl, rfl, hw, KR⟩ := hrel
     have ZR := KR.size
     clear HW HK HH HKS HB
     have HK := Yh (show Kp w wr from KR); have HH := Yh (HH0.out.below KR); have HKS := Yh (HK0.out.below KR); have HB := Yh (HB0.out.below KR); have HW := Yh hw
     have hml := (schS_ok bs q).1
     have hmi := (schS_ok bs q).2
     have hl7 := (hw.cells 0 (by rw [hml]; omega)).1
     have HMI := Yh hmi
     clear hw KR hmi
     by_cases hlt : q < 48
     ·as_aux_lemma =>
      obtain ⟨tt, htt⟩ : ∃ r, 16 + q = r := ⟨_, rfl⟩
      rw [htt]
      obtain ⟨a15, ha15⟩ : ∃ r, 1 + q = r := ⟨_, rfl⟩
      obtain ⟨a2, ha2⟩ : ∃ r, 14 + q = r := ⟨_, rfl⟩
      obtain ⟨a7, ha7⟩ : ∃ r, 9 + q = r := ⟨_, rfl⟩
      obtain ⟨a16, ha16⟩ : ∃ r, q = r := ⟨_, rfl⟩
      have gq : decide ((tt : Int) < 64) = true := Y2
      have gqn : decide (tt < 64) = true := Y2
      have wq : IntKind.i64.wrap ((tt : Int) + 1) = ((16 + (q + 1) : Nat) : Int) := Y4
      obtain ⟨tn, htn⟩ : ∃ r, 16 + (q + 1) = r := ⟨_, rfl⟩
      rw [htn] at wq
      have wa15 : IntKind.i64.wrap ((tt : Int) - 15) = (a15 : Int) := Y4
      have wa2 : IntKind.i64.wrap ((tt : Int) - 2) = (a2 : Int) := Y4
      have wa7 : IntKind.i64.wrap ((tt : Int) - 7) = (a7 : Int) := Y4
      have wa16 : IntKind.i64.wrap ((tt : Int) - 16) = (a16 : Int) := Y4
      have ptt : tt < 64 := by omega
      have pa15 : a15 < 64 := by omega
      have pa2 : a2 < 64 := by omega
      have pa7 : a7 < 64 := by omega
      have pa16 : a16 < 64 := by omega
      have pitt : (tt : Int) < 64 := by omega
      have pia15 : (a15 : Int) < 64 := by omega
      have pia2 : (a2 : Int) < 64 := by omega
      have pia7 : (a7 : Int) < 64 := by omega
      have pia16 : (a16 : Int) < 64 := by omega
      have ea15 := (HW.out.cells a15 Yo).2.1
      have ea2 := (HW.out.cells a2 Yo).2.1
      have ea7 := (HW.out.cells a7 Yo).2.1
      have ea16 := (HW.out.cells a16 Yo).2.1
      have hst : schS bs (q + 1) = (schS bs q).set tt (wV4 ((schS bs q).getD a2 0) ((schS bs q).getD a7 0) ((schS bs q).getD a15 0) ((schS bs q).getD a16 0)) := by rw [← htt, ← ha2, ← ha7, ← ha15, ← ha16]; show (schS bs q).set (16 + q) (wV (schS bs q) (16 + q)) = _; unfold wV; rw [show 16 + q - 2 = 14 + q by omega, show 16 + q - 7 = 9 + q by omega, show 16 + q - 15 = 1 + q by omega, show 16 + q - 16 = q by omega]
      have hx := HMI.out.get a15
      have hy := HMI.out.get a2
      generalize (schS bs q).getD a15 0 = x at *
      generalize (schS bs q).getD a2 0 = y at *
      generalize (schS bs q).getD a7 0 = z at *
      generalize (schS bs q).getD a16 0 = z2 at *
      have HST := Yh hst; have HTN := Yh htn; clear hst htt ha15 ha2 ha7 ha16 htn
      generalize schS bs q = ws at *
      have E := Yh (fun (W : World) (hW : Below wr.heap.size wr W) => Ya (Nat.lt_of_lt_of_le hl7 hW.size) (Ya ((hW.cell (p := ⟨w.heap.size, a15, none⟩) hl7).trans ea15) (Ya ((hW.cell (p := ⟨w.heap.size, a2, none⟩) hl7).trans ea2) (Ya ((hW.cell (p := ⟨w.heap.size, a7, none⟩) hl7).trans ea7) ((hW.cell (p := ⟨w.heap.size, a16, none⟩) hl7).trans ea16)))))
      clear ea15 ea2 ea7 ea16
      go_wp2_with fail
      refine' wp_region_calm Yr (fun _ _ w' => Below wr.heap.size wr w' ∧ True) (fun _ _ => True) [Is _, Is _, Is _, Is _, Is _, Is _, Is _, Is _, Is _, Is _] [[], [0], [1], [2], [], [4], [5], [6], [3], [7]] [] [] rfl Yr Yp ?_ (Y1 (Y1 (Y1 (Y1 (Y1 (Y1 (Y1 (Y1 (Y1 (Y1 Yn)))))))))) ?_ ?_
      ·intro _
       exact ⟨bl0, trivial⟩
      rotate_left 10
      ·skip
       iterate 3 refine zq0 ?_
       iterate 5 refine zq1 (fun _ _ _ _ _ ⟨hP, _⟩ => (E.out _ hP)) ?_
       iterate 2 refine zq0 ?_
       exact Yw
      ·intro u w1 hC hF
       obtain ⟨hP, hTr⟩ := hC
       simp only [calmFacts, Is, and_true] at hF
       obtain ⟨f0, f1, f2, f3, f4, f5, f6, f7, f8, f9⟩ := hF
       simp only [f0, f1, f2, f3, f4, f5, f6, f7, f8, f9]
       clear f0 f1 f2 f3 f4 f5 f6 f7 f8 f9
       have K1 := hP
       have WX := Yh (E.out _ K1).2
       have Z1 := K1.size
       clear hP
       replace HK := Yh (HK.out.below K1)
       replace HH := Yh (HH.out.below K1)
       replace HKS := Yh (HKS.out.below K1)
       replace HB := Yh (HB.out.below K1)
       replace HW := Yh (HW.out.below K1)
       clear K1
       have hl7 : w.heap.size < w1.heap.size := by omega
       have E2 := Yh (fun (W : World) (hW : Below w1.heap.size w1 W) => Ya (Nat.lt_of_lt_of_le hl7 hW.size) (Ya ((hW.cell (p := ⟨w.heap.size, a15, none⟩) hl7).trans (WX.out).1) (Ya ((hW.cell (p := ⟨w.heap.size, a2, none⟩) hl7).trans (WX.out).2.1) (Ya ((hW.cell (p := ⟨w.heap.size, a7, none⟩) hl7).trans (WX.out).2.2.1) ((hW.cell (p := ⟨w.heap.size, a16, none⟩) hl7).trans (WX.out).2.2.2)))))
       clear E
       go_wp2_with fail
       refine (rot_any x 7 hx.1 hx.2 Yd Yd _).mono ?_
       rintro e9 w9 ⟨rfl, rfl⟩
       go_wp2_with fail
       refine (rot_any x 18 hx.1 hx.2 Yd Yd _).mono ?_
       rintro e9 w9 ⟨rfl, rfl⟩
       go_wp2_with fail
       refine (rot_any y 17 hy.1 hy.2 Yd Yd _).mono ?_
       rintro e9 w9 ⟨rfl, rfl⟩
       go_wp2_with fail
       refine (rot_any y 19 hy.1 hy.2 Yd Yd _).mono ?_
       rintro e9 w9 ⟨rfl, rfl⟩
       go_wp2_with fail
       refine' wp_region_calm Yr (fun n _ w' => Below w.heap.size w w' ∧ (n = 0 → Below w1.heap.size w1 w' ∧ WdAt 249 w' (w.heap.size) (ws)) ∧ (n = 1 → WdAt 249 w' (w.heap.size) ((ws).set tt (wV4 y z x z2)))) (fun _ _ => True) [Is _, Is _, Is _, Is _, Is _, Is _, Is _, Is _, Is _, Is _, Is _, Is _, Is _, Is _, Is _, (fun _ _ _ => True)] [[], [], [], [2], [3], [4], [1, 5], [], [6, 7], [], [9], [10], [11], [8, 12], [0], [14, 13]] [15] [] rfl Yr Yp ?_ (Y1 (Y1 (Y1 (Y1 (Y1 (Y1 (Y1 (Y1 (Y1 (Y1 (Y1 (Y1 (Y1 (Y1 (Y1 (Y0 Yn)))))))))))))))) ?_ ?_
       ·intro _
        exact ⟨(have z9 := HK.out.b; bl1), (fun _ => ⟨bl0, HW.out.below bl0⟩), Ye⟩
       rotate_left 15
       ·skip
        iterate 5 refine zq0 ?_
        refine zq1 (fun _ _ n _ hn2 ⟨_, hR0, _⟩ => have hn0 : n = 0 := Nat.le_zero.1 (hn2 0 15 rfl Yr); have hQ := (hR0 hn0).1; Ya hn0 (Ya hQ (Ya ((hR0 hn0).2) (E2.out _ hQ)))) ?_
        iterate 6 refine zq0 ?_
        refine zq1 (fun _ _ n _ hn2 ⟨_, hR0, _⟩ => have hn0 : n = 0 := Nat.le_zero.1 (hn2 0 15 rfl Yr); have hQ := (hR0 hn0).1; Ya hn0 (Ya hQ (Ya ((hR0 hn0).2) (E2.out _ hQ)))) ?_
        iterate 2 refine zq0 ?_
        refine Yz (fun u wq n hn hn2 hC hk K hK => ?_) ?_
        ·obtain ⟨hP, hR0, hR1⟩ := hC
         simp only [calmKnown, lg0, lg1, and_true, Is] at hk
         obtain ⟨h14, h13⟩ := hk
         simp only [h14, h13] at hK ⊢
         have H14 := Yh h14; clear h14; have H13 := Yh h13; clear h13
         obtain rfl := hn 0 rfl
         have hq := (hR0 rfl).2
         clear hR0 hR1
         obtain ⟨y9, y0, yf⟩ := hq.cells tt (by (try simp only [List.length_set]); omega)
         have hq2 := hq.set tt (wV4 y z x z2) (by (try simp only [List.length_set]); omega)
         go_simp
         exact hK _ undef _ rfl ⟨bl1, Ye, (fun _ => (by first | exact hq2 | (unfold wV4 sg0 sg1 at hq2; exact hq2)))⟩ trivial trivial
        exact Yw
       ·intro u w2 hC hF
        obtain ⟨hP, hR0, hR1⟩ := hC
        have hR := hR1 rfl
        clear hF hR0 hR1
        have Z2 := hP.size
        have HWN := Yh (Ya hR hP); clear hR hP
        go_wp2
        go_roundg (48 - (q + 1))
        case measure => omega
        case rel => exact ⟨q + 1, Yo, Yo, by rw [HTN.out], by rw [HST.out]; exact HWN.out.1, HWN.out.2⟩
     ·obtain rfl : q = 48 := by omega
      have gq : decide (((16 + 48 : Nat) : Int) < 64) = false := by decide
      have gq2 : decide ((64 : Int) < 64) = false := by decide
      have gq3 : decide ((16 : Int) + 48 < 64) = false := by decide
      obtain ⟨W, hW⟩ : ∃ W, schS bs 48 = W := ⟨_, rfl⟩
      rw [hW] at HW HMI
      have hWl : W.length = 64 := by rw [← hW]; exact (schS_ok bs 48).1
      have HWE := Yh (show ∃ n, n = 48 ∧ schS bs n = W from ⟨48, rfl, hW⟩); clear hW hml
      have hsk := hi
      have HSK := Yh hsk; clear hsk hi
      obtain ⟨c0, c1, c2, c3, c4, c5, c6, c7⟩ := hs
      dsimp only [St8.cells] at HH HH0
      obtain ⟨w5, rfl⟩ : ∃ x : World, x = wr := ⟨_, rfl⟩
      have hB9 := HH.out; have z9 := hB9.cell; have l9 := hB9.lt; have y9 := hB9.frozen
      clear hB9
      go_upto_region 13 with fail
      go_cut [13] (fun v wx => ∃ g2, v = .pointer (some ⟨g2, 0, none⟩) ∧ w5.heap.size ≤ g2 ∧ Blk wx g2 256 #[.int .u32 c0, .int .u32 c1, .int .u32 c2, .int .u32 c3, .int .u32 c4, .int .u32 c5, .int .u32 c6, .int .u32 c7] ∧ Below w5.heap.size w5 wx)
      case first =>
       go_wp2_with fail
       go_meet
       exact ⟨w5.heap.size, rfl, Nat.le_refl _, (by first | exact Blk.new _ _ _ | exact setAll_blk _ 0 _ _ (Blk.new _ _ _)), bl0⟩
      case rest =>
       obtain ⟨g2, rfl, hg2, hv, KC⟩ := hcut
       have ZC := KC.size
       have HV := Yh hv
       clear hv z9 l9 y9
       go_wp2
       go_loopg [105] 64 (fun G i wr => R3Rel w5 g2 ks W ⟨c0, c1, c2, c3, c4, c5, c6, c7⟩ G i wr)
       case atStart => exact ⟨0, ⟨c0, c1, c2, c3, c4, c5, c6, c7⟩, Yo, Yo, rfl, rfl, HV.out, KC⟩
       case round =>
        obtain ⟨q, s, hq, rfl, rfl, hs9, hv, KR⟩ := hrel
        have ZR := KR.size
        clear HV KC ZC
        have hsok : s.ok := by rw [hs9]; exact rndS_ok HSK.out q
        have HS9 := Yh hs9
        have HV := Yh hv; have HR := Yh (show Kp w5 wr from KR)
        clear hv hs9
        by_cases hlt : q < 64
        ·as_aux_lemma =>
         have gq : decide ((q : Int) < 64) = true := Y2
         have gqn : decide (q < 64) = true := decide_eq_true hlt
         have pq : (q : Int) < 64 := by omega
         have wq : IntKind.i64.wrap ((q : Int) + 1) = ((q + 1 : Nat) : Int) := Y4
         have ek : Cell1 wr gk q (.int .u32 (ks.getD q 0)) := ⟨((HKS.out.below KR).cells q Yo).1, ((HKS.out.below KR).cells q Yo).2.1⟩
         have ew : Cell1 wr w.heap.size q (.int .u32 (W.getD q 0)) := ⟨((HW.out.below KR).cells q Yo).1, ((HW.out.below KR).cells q Yo).2.1⟩
         have hst : rndS ks W ⟨c0, c1, c2, c3, c4, c5, c6, c7⟩ (q + 1) = stepW (ks.getD q 0) (W.getD q 0) s := by rw [HS9.out]; rfl
         generalize ks.getD q 0 = kq at *
         generalize W.getD q 0 = wv at *
         have HEK := Yh ek; have HEW := Yh ew; clear ek ew KR
         obtain ⟨va, vb, vc, vd, ve, vf, vg, vh⟩ := s
         unfold St8.ok at hsok
         simp only [InW.cons] at hsok
         obtain ⟨ha, -, -, -, he, -⟩ := hsok
         dsimp only [St8.cells] at hst HV ⊢
         have HST := Yh hst; clear hst
         go_wp2_with fail
         refine' wp_region_calm Yr (fun _ _ w' => Below wr.heap.size wr w' ∧ True) (fun _ _ => True) [Is _, Is _, Is _, Is _, Is _, Is _] [[], [0], [], [2], [1], [3]] [] [] rfl Yr Yp ?_ (Y1 (Y1 (Y1 (Y1 (Y1 (Y1 Yn)))))) ?_ ?_
         ·intro _
          exact ⟨bl0, trivial⟩
         rotate_left 6
         ·skip
          refine zq0 ?_
          iterate 3 refine zq1 (fun _ _ _ _ _ ⟨hP, _⟩ => have hV9 := HV.out.below hP; Ya hV9 (Yq hV9)) ?_
          iterate 2 refine zq0 ?_
          exact Yw
         ·intro u w1 hC hF
          obtain ⟨hP, hTr⟩ := hC
          simp only [calmFacts, Is, and_true] at hF
          obtain ⟨f0, f1, f2, f3, f4, f5⟩ := hF
          simp only [f0, f1, f2, f3, f4, f5]
          clear f0 f1 f2 f3 f4 f5
          have K1 := hP
          have Z1 := K1.size
          clear hP
          replace HR := Yh (HR.out.below K1)
          replace HV := Yh (HV.out.below K1)
          replace HEK := Yh (HEK.out.below K1)
          replace HEW := Yh (HEW.out.below K1)
          clear K1
          go_wp2_with fail
          refine' wp_region_calm Yr (fun _ _ w' => Below w1.heap.size w1 w' ∧ True) (fun _ _ => True) ((Is _) :: (Is _) :: (Is _) :: (Is _) :: (Is _) :: (Is _) :: (Is _) :: (Is _) :: (Is _) :: (Is _) :: (Is _) :: (Is _) :: (Is _) :: (Is _) :: (Is _) :: (Is _) :: (Is _) :: (Is _) :: (Is _) :: (Is _) :: (Is _) :: (Is _) :: (Is _) :: (Is _) :: (Is _) :: (Is _) :: (Is _) :: (Is _) :: (Is _) :: (Is _) :: (Is _) :: (Is _) :: (Is _) :: []) ([] :: [0] :: [] :: [2] :: [] :: [4] :: [3, 5] :: [] :: [7] :: [6, 8] :: [1, 9] :: [] :: [] :: [12] :: [11, 13] :: [] :: [15] :: [] :: [17] :: [16, 18] :: [14, 19] :: [10, 20] :: [] :: [] :: [22] :: [24, 23] :: [25] :: [21, 26] :: [] :: [28] :: [29] :: [27, 30] :: [31] :: []) [] [] rfl Yr Yp ?_ (Y1 (Y1 (Y1 (Y1 (Y1 (Y1 (Y1 (Y1 (Y1 (Y1 (Y1 (Y1 (Y1 (Y1 (Y1 (Y1 (Y1 (Y1 (Y1 (Y1 (Y1 (Y1 (Y1 (Y1 (Y1 (Y1 (Y1 (Y1 (Y1 (Y1 (Y1 (Y1 (Y1 Yn))))))))))))))))))))))))))))))))) ?_ ?_
          ·intro _
           exact ⟨bl0, trivial⟩
          rotate_left 33
          ·skip
           refine zq0 ?_
           refine Yz (fun u wq n hn hn2 hC hk K hK => ?_) ?_
           ·obtain ⟨hP, hTr⟩ := hC
            simp only [calmKnown, lg0, lg1, and_true, Is] at hk
            have h0 := hk; clear hk
            simp only [h0] at hK ⊢
            have H0 := Yh h0; clear h0
            have hV9 := HV.out.below hP; have zV := hV9.cell; have lV := hV9.lt
            obtain ⟨l1, e1⟩ := HEK.out.below hP; obtain ⟨l2, e2⟩ := HEW.out.below hP
            go_simp
            exact hK _ _ _ rfl ⟨hP, trivial⟩ trivial rfl
           refine zq0 ?_
           refine Yz (fun u wq n hn hn2 hC hk K hK => ?_) ?_
           ·obtain ⟨hP, hTr⟩ := hC
            simp only [calmKnown, lg0, lg1, and_true, Is] at hk
            have h2 := hk; clear hk
            simp only [h2] at hK ⊢
            have H2 := Yh h2; clear h2
            go_wp2_with fail
            first | (with_reducible refine (rot_rb ve 6 he Yd _).mono ?_) | (with_reducible refine (rot_rb ve 11 he Yd _).mono ?_) | (with_reducible refine (rot_rb ve 25 he Yd _).mono ?_)
            rintro e w2 ⟨rfl, hbl⟩
            exact hK _ _ _ rfl ⟨Yc hbl hP, trivial⟩ trivial rfl
           refine zq0 ?_
           refine Yz (fun u wq n hn hn2 hC hk K hK => ?_) ?_
           ·obtain ⟨hP, hTr⟩ := hC
            simp only [calmKnown, lg0, lg1, and_true, Is] at hk
            have h4 := hk; clear hk
            simp only [h4] at hK ⊢
            have H4 := Yh h4; clear h4
            go_wp2_with fail
            first | (with_reducible refine (rot_rb ve 6 he Yd _).mono ?_) | (with_reducible refine (rot_rb ve 11 he Yd _).mono ?_) | (with_reducible refine (rot_rb ve 25 he Yd _).mono ?_)
            rintro e w2 ⟨rfl, hbl⟩
            exact hK _ _ _ rfl ⟨Yc hbl hP, trivial⟩ trivial rfl
           iterate 2 refine zq0 ?_
           refine Yz (fun u wq n hn hn2 hC hk K hK => ?_) ?_
           ·obtain ⟨hP, hTr⟩ := hC
            simp only [calmKnown, lg0, lg1, and_true, Is] at hk
            have h7 := hk; clear hk
            simp only [h7] at hK ⊢
            have H7 := Yh h7; clear h7
            go_wp2_with fail
            first | (with_reducible refine (rot_rb ve 6 he Yd _).mono ?_) | (with_reducible refine (rot_rb ve 11 he Yd _).mono ?_) | (with_reducible refine (rot_rb ve 25 he Yd _).mono ?_)
            rintro e w2 ⟨rfl, hbl⟩
            exact hK _ _ _ rfl ⟨Yc hbl hP, trivial⟩ trivial rfl
           iterate 4 refine zq0 ?_
           refine Yz (fun u wq n hn hn2 hC hk K hK => ?_) ?_
           ·obtain ⟨hP, hTr⟩ := hC
            simp only [calmKnown, lg0, lg1, and_true, Is] at hk
            have h12 := hk; clear hk
            simp only [h12] at hK ⊢
            have H12 := Yh h12; clear h12
            have hV9 := HV.out.below hP; have zV := hV9.cell; have lV := hV9.lt
            obtain ⟨l1, e1⟩ := HEK.out.below hP; obtain ⟨l2, e2⟩ := HEW.out.below hP
            go_simp
            exact hK _ _ _ rfl ⟨hP, trivial⟩ trivial rfl
           iterate 4 refine zq0 ?_
           refine Yz (fun u wq n hn hn2 hC hk K hK => ?_) ?_
           ·obtain ⟨hP, hTr⟩ := hC
            simp only [calmKnown, lg0, lg1, and_true, Is] at hk
            have h17 := hk; clear hk
            simp only [h17] at hK ⊢
            have H17 := Yh h17; clear h17
            have hV9 := HV.out.below hP; have zV := hV9.cell; have lV := hV9.lt
            obtain ⟨l1, e1⟩ := HEK.out.below hP; obtain ⟨l2, e2⟩ := HEW.out.below hP
            go_simp
            exact hK _ _ _ rfl ⟨hP, trivial⟩ trivial rfl
           iterate 7 refine zq0 ?_
           refine Yz (fun u wq n hn hn2 hC hk K hK => ?_) ?_
           ·obtain ⟨hP, hTr⟩ := hC
            simp only [calmKnown, lg0, lg1, and_true, Is] at hk
            have h25 := hk; clear hk
            simp only [h25] at hK ⊢
            have H25 := Yh h25; clear h25
            have hV9 := HV.out.below hP; have zV := hV9.cell; have lV := hV9.lt
            obtain ⟨l1, e1⟩ := HEK.out.below hP; obtain ⟨l2, e2⟩ := HEW.out.below hP
            go_simp
            exact hK _ _ _ rfl ⟨hP, trivial⟩ trivial rfl
           iterate 3 refine zq0 ?_
           refine Yz (fun u wq n hn hn2 hC hk K hK => ?_) ?_
           ·obtain ⟨hP, hTr⟩ := hC
            simp only [calmKnown, lg0, lg1, and_true, Is] at hk
            have h29 := hk; clear hk
            simp only [h29] at hK ⊢
            have H29 := Yh h29; clear h29
            have hV9 := HV.out.below hP; have zV := hV9.cell; have lV := hV9.lt
            obtain ⟨l1, e1⟩ := HEK.out.below hP; obtain ⟨l2, e2⟩ := HEW.out.below hP
            go_simp
            exact hK _ _ _ rfl ⟨hP, trivial⟩ trivial rfl
           iterate 2 refine zq0 ?_
           exact Yw
          ·intro u w2 hC hF
           obtain ⟨hP, hTr⟩ := hC
           simp only [calmFacts, Is, and_true] at hF
           obtain ⟨f0, f1, f2, f3, f4, f5, f6, f7, f8, f9, f10, f11, f12, f13, f14, f15, f16, f17, f18, f19, f20, f21, f22, f23, f24, f25, f26, f27, f28, f29, f30, f31, f32⟩ := hF
           simp only [f0, f1, f2, f3, f4, f5, f6, f7, f8, f9, f10, f11, f12, f13, f14, f15, f16, f17, f18, f19, f20, f21, f22, f23, f24, f25, f26, f27, f28, f29, f30, f31, f32]
           clear f0 f1 f2 f3 f4 f5 f6 f7 f8 f9 f10 f11 f12 f13 f14 f15 f16 f17 f18 f19 f20 f21 f22 f23 f24 f25 f26 f27 f28 f29 f30 f31 f32
           have K2 := hP
           have Z2 := K2.size
           clear hP
           replace HR := Yh (HR.out.below K2)
           replace HV := Yh (HV.out.below K2)
           replace HEK := Yh (HEK.out.below K2)
           replace HEW := Yh (HEW.out.below K2)
           clear K2
           obtain ⟨T1, hT1⟩ : ∃ T, t1S kq wv ⟨va, vb, vc, vd, ve, vf, vg, vh⟩ = T := ⟨_, rfl⟩
           have hT1' := hT1
           dsimp only [t1S, t2S] at hT1'
           (try rw [show (if IntKind.u32.signed = true then (-1 : Int) else IntKind.u32.max) = IntKind.u32.max from rfl])
           rw [hT1']
           have HT1 := Yh hT1; clear hT1 hT1'
           go_wp2_with fail
           refine' wp_region_calm Yr (fun _ _ w' => Below w2.heap.size w2 w' ∧ True) (fun _ _ => True) [Is _, Is _, Is _, Is _, Is _, Is _, Is _, Is _, Is _, Is _, Is _, Is _, Is _, Is _, Is _, Is _, Is _, Is _, Is _, Is _, Is _, Is _, Is _, Is _, Is _] [[], [0], [], [2], [1, 3], [], [5], [4, 6], [], [], [9], [8, 10], [], [], [13], [12, 14], [11, 15], [], [17], [], [19], [18, 20], [16, 21], [7, 22], [23]] [] [] rfl Yr Yp ?_ (Y1 (Y1 (Y1 (Y1 (Y1 (Y1 (Y1 (Y1 (Y1 (Y1 (Y1 (Y1 (Y1 (Y1 (Y1 (Y1 (Y1 (Y1 (Y1 (Y1 (Y1 (Y1 (Y1 (Y1 (Y1 Yn))))))))))))))))))))))))) ?_ ?_
           ·intro _
            exact ⟨bl0, trivial⟩
           rotate_left 25
           ·skip
            refine zq0 ?_
            refine Yz (fun u wq n hn hn2 hC hk K hK => ?_) ?_
            ·obtain ⟨hP, hTr⟩ := hC
             simp only [calmKnown, lg0, lg1, and_true, Is] at hk
             have h0 := hk; clear hk
             simp only [h0] at hK ⊢
             have H0 := Yh h0; clear h0
             go_wp2_with fail
             first | (with_reducible refine (rot_rb va 2 ha Yd _).mono ?_) | (with_reducible refine (rot_rb va 13 ha Yd _).mono ?_) | (with_reducible refine (rot_rb va 22 ha Yd _).mono ?_)
             rintro e w2 ⟨rfl, hbl⟩
             exact hK _ _ _ rfl ⟨Yc hbl hP, trivial⟩ trivial rfl
            refine zq0 ?_
            refine Yz (fun u wq n hn hn2 hC hk K hK => ?_) ?_
            ·obtain ⟨hP, hTr⟩ := hC
             simp only [calmKnown, lg0, lg1, and_true, Is] at hk
             have h2 := hk; clear hk
             simp only [h2] at hK ⊢
             have H2 := Yh h2; clear h2
             go_wp2_with fail
             first | (with_reducible refine (rot_rb va 2 ha Yd _).mono ?_) | (with_reducible refine (rot_rb va 13 ha Yd _).mono ?_) | (with_reducible refine (rot_rb va 22 ha Yd _).mono ?_)
             rintro e w2 ⟨rfl, hbl⟩
             exact hK _ _ _ rfl ⟨Yc hbl hP, trivial⟩ trivial rfl
            iterate 2 refine zq0 ?_
            refine Yz (fun u wq n hn hn2 hC hk K hK => ?_) ?_
            ·obtain ⟨hP, hTr⟩ := hC
             simp only [calmKnown, lg0, lg1, and_true, Is] at hk
             have h5 := hk; clear hk
             simp only [h5] at hK ⊢
             have H5 := Yh h5; clear h5
             go_wp2_with fail
             first | (with_reducible refine (rot_rb va 2 ha Yd _).mono ?_) | (with_reducible refine (rot_rb va 13 ha Yd _).mono ?_) | (with_reducible refine (rot_rb va 22 ha Yd _).mono ?_)
             rintro e w2 ⟨rfl, hbl⟩
             exact hK _ _ _ rfl ⟨Yc hbl hP, trivial⟩ trivial rfl
            iterate 3 refine zq0 ?_
            iterate 11 refine zq1 (fun _ _ _ _ _ ⟨hP, _⟩ => have hV9 := HV.out.below hP; Ya hV9 (Yq hV9)) ?_
            iterate 4 refine zq0 ?_
            exact Yw
           ·intro u w3 hC hF
            obtain ⟨hP, hTr⟩ := hC
            simp only [calmFacts, Is, and_true] at hF
            obtain ⟨f0, f1, f2, f3, f4, f5, f6, f7, f8, f9, f10, f11, f12, f13, f14, f15, f16, f17, f18, f19, f20, f21, f22, f23, f24⟩ := hF
            simp only [f0, f1, f2, f3, f4, f5, f6, f7, f8, f9, f10, f11, f12, f13, f14, f15, f16, f17, f18, f19, f20, f21, f22, f23, f24]
            clear f0 f1 f2 f3 f4 f5 f6 f7 f8 f9 f10 f11 f12 f13 f14 f15 f16 f17 f18 f19 f20 f21 f22 f23 f24
            have K3 := hP
            have Z3 := K3.size
            clear hP
            replace HR := Yh (HR.out.below K3)
            replace HV := Yh (HV.out.below K3)
            replace HEK := Yh (HEK.out.below K3)
            replace HEW := Yh (HEW.out.below K3)
            clear K3
            obtain ⟨T2, hT2⟩ : ∃ T, t2S ⟨va, vb, vc, vd, ve, vf, vg, vh⟩ = T := ⟨_, rfl⟩
            have hT2' := hT2
            dsimp only [t1S, t2S] at hT2'
            rw [← IntKind.wrap_u32] at hT2'
            (try rw [show (if IntKind.u32.signed = true then (-1 : Int) else IntKind.u32.max) = IntKind.u32.max from rfl])
            rw [hT2']
            have HT2 := Yh hT2; clear hT2 hT2'
            have hsp : (⟨(T1 + T2) % 4294967296, va, vb, vc, (vd + T1) % 4294967296, ve, vf, vg⟩ : St8) = stepW kq wv ⟨va, vb, vc, vd, ve, vf, vg, vh⟩ := by unfold stepW; rw [HT1.out, HT2.out]
            have HSP := Yh hsp; clear hsp HT1 HT2
            go_wp2_with fail
            refine' wp_region_calm Yr (fun n _ w' => Below w5.heap.size w5 w' ∧ (n = 0 → Blk w' g2 256 #[.int .u32 va, .int .u32 vb, .int .u32 vc, .int .u32 vd, .int .u32 ve, .int .u32 vf, .int .u32 vg, .int .u32 vh]) ∧ (n = 1 → Blk w' g2 256 #[.int .u32 va, .int .u32 va, .int .u32 vb, .int .u32 vc, .int .u32 vd, .int .u32 ve, .int .u32 vf, .int .u32 vg])) (fun _ _ => True) [Is _, Is _, (fun _ _ _ => True)] [[], [], [0, 1]] [2] [] rfl Yr Yp ?_ (Y1 (Y1 (Y0 Yn))) ?_ ?_
            ·intro _
             exact ⟨(have z9 := HR.out.b; bl1), (fun _ => by first | exact HV.out | exact HV.out.drew), Ye⟩
            rotate_left 2
            ·skip
             iterate 2 refine zq0 ?_
             refine Yz (fun u wq n hn hn2 hC hk K hK => ?_) ?_
             ·obtain ⟨hP, hR0, hR1⟩ := hC
              simp only [calmKnown, lg0, lg1, and_true, Is] at hk
              obtain ⟨h0, h1⟩ := hk
              simp only [h0, h1] at hK ⊢
              have H0 := Yh h0; clear h0; have H1 := Yh h1; clear h1
              obtain rfl := hn 0 rfl
              have hB := hR0 rfl
              clear hR0 hR1
              refine calm_op (by rfl) ?_
              refine wp_copy_splice rfl _ _ _ _ rfl 211 Tryz.underlying232 (by rfl) (some ⟨g2, 1, none⟩) (some ⟨g2, 0, none⟩) 7 7 7 8 (by rfl) (by rfl) g2 1 [.int .u32 va, .int .u32 vb, .int .u32 vc, .int .u32 vd, .int .u32 ve, .int .u32 vf, .int .u32 vg, .int .u32 vh] 256 hB [.int .u32 va, .int .u32 vb, .int .u32 vc, .int .u32 vd, .int .u32 ve, .int .u32 vf, .int .u32 vg] (by rfl) (fun _ => ⟨rfl, _, rfl, src_pre hB _ ⟨[.int .u32 vh], rfl⟩⟩) Ys (by simp [Value.oneCell']) w5.heap.size w5 hP hg2 ?_
              intro w9 hH hb9
              exact hK _ _ _ rfl ⟨hb9, Ye, fun _ => hH.out⟩ trivial trivial
             exact Yw
            ·intro u w4 hC hF
             obtain ⟨hP, -, hR1⟩ := hC
             have hv := hR1 rfl
             clear hF hR1 HV HR HEK HEW
             have zV := hv.cell; have lV := hv.lt; have yV := hv.frozen
             have ZP := hP.size
             have HV := Yh hv; have HP := Yh hP; clear hv hP
             go_wp2
             go_roundg (64 - (q + 1))
             case measure => omega
             case rel => exact ⟨q + 1, ⟨(T1 + T2) % 4294967296, va, vb, vc, (vd + T1) % 4294967296, ve, vf, vg⟩, Yo, Yo, by go_num, HSP.out.trans HST.out.symm, Blk.put (Blk.put HV.out rfl) rfl, (have z9 := HP.out; bl1)⟩
        ·obtain rfl : q = 64 := by omega
         have gq : decide (((64 : Nat) : Int) < 64) = false := by decide
         have gq2 : decide ((64 : Int) < 64) = false := by decide
         have hfin : blkS ks bs ⟨c0, c1, c2, c3, c4, c5, c6, c7⟩ = addS ⟨c0, c1, c2, c3, c4, c5, c6, c7⟩ s := by obtain ⟨n9, e9, h9⟩ := HWE.out; subst e9; rw [HS9.out, ← h9]; rfl
         have HFIN := Yh hfin; clear hfin hsok
         have HH2 := Yh (HH.out.below KR); have HG := Yh (GB.call (HK.out.below KR).b (GB.refl gh w))
         have hne : g2 ≠ gh := fun e => by have := HH.out.lt; omega
         obtain ⟨S0, hS0⟩ : ∃ S : St8, (⟨c0, c1, c2, c3, c4, c5, c6, c7⟩ : St8) = S := ⟨_, rfl⟩
         have h2 : Blk wr gh 256 (mixA S0 s 0) := hS0 ▸ HH2.out
         have hfin2 : blkS ks bs ⟨c0, c1, c2, c3, c4, c5, c6, c7⟩ = addS S0 s := by rw [← hS0]; exact HFIN.out
         clear HFIN; have HFIN := Yh hfin2; clear hfin2
         have HH3 := Yh h2; clear h2 HH HH2 HK HKS HW HB HWE HMI HS9 HSK HR KR hS0 HH0 HK0 HB0
         go_wp2
         obtain ⟨w6, rfl⟩ : ∃ x : World, x = wr := ⟨_, rfl⟩
         go_loopg [181] 8 (fun G i wr => R4Rel w gh g2 S0 s G i wr)
         case atStart => exact ⟨0, Yo, Yo, rfl, HH3.out, HV.out, HG.out⟩
         case round =>
          obtain ⟨q, hq, rfl, rfl, hh, hv, KG⟩ := hrel
          have ZG := KG.size
          have lh := hh.lt; have lv := hv.lt
          clear HH3 HV HG
          have HH := Yh hh; have HV := Yh hv; have HG := Yh KG
          clear hh hv KG
          by_cases hlt : q < 8
          ·as_aux_lemma =>
           have gq : decide ((q : Int) < 8) = true := Y2
           have gqn : decide (q < 8) = true := decide_eq_true hlt
           have pq : (q : Int) < 8 := by omega
           have wq : IntKind.i64.wrap ((q : Int) + 1) = ((q + 1 : Nat) : Int) := Y4
           have m1 := mix_get S0 s q hlt
           have m2 := cells_get s q hlt
           have m3 := mix_set S0 s q hlt
           generalize S0.at8 q = x at *
           generalize s.at8 q = y at *
           have M1 := Yh m1; have M2 := Yh m2; have M3 := Yh m3; clear m1 m2 m3
           go_wp2_with fail
           refine' wp_region_calm Yr (fun n _ w' => GB gh w w' ∧ (n = 0 → Below wr.heap.size wr w') ∧ (n = 1 → Blk w' gh 256 (mixA S0 s (q + 1)) ∧ Blk w' g2 256 s.cells)) (fun _ _ => True) [Is _, Is _, Is _, Is _, Is _, Is _, Is _, Is _, Is _, Is _, Is _, (fun _ _ _ => True)] [[], [], [0], [2, 1], [3], [], [5], [6], [4, 7], [0], [9, 1], [10, 8]] [11] [] rfl Yr Yp ?_ (Y1 (Y1 (Y1 (Y1 (Y1 (Y1 (Y1 (Y1 (Y1 (Y1 (Y1 (Y0 Yn)))))))))))) ?_ ?_
           ·intro _
            exact ⟨(by first | exact HG.out | exact HG.out.drew), (fun _ => Yl.drew), Ye⟩
           rotate_left 11
           ·skip
            iterate 2 refine zq0 ?_
            refine zq1 (fun _ _ n _ hn2 ⟨_, hR0, _⟩ => have hn0 : n = 0 := Nat.le_zero.1 (hn2 0 11 rfl Yr); have hQ := hR0 hn0; have hH9 := HH.out.below hQ; have hV9 := HV.out.below hQ; Ya hn0 (Ya hQ (Ya hH9 (Ya hV9 (Ya ((hH9.cell q).trans M1.out) (Ya ((hV9.cell q).trans M2.out) (Ya hH9.lt hV9.lt))))))) ?_
            refine zq1 (fun _ _ n _ hn2 ⟨_, hR0, _⟩ => have hn0 : n = 0 := Nat.le_zero.1 (hn2 0 11 rfl Yr); have hQ := hR0 hn0; have hH9 := HH.out.below hQ; have hV9 := HV.out.below hQ; Ya hn0 (Ya hQ (Ya hH9 (Ya hV9 (Ya ((hH9.cell q).trans M1.out) (Ya ((hV9.cell q).trans M2.out) (Ya hH9.lt hV9.lt))))))) ?_
            refine zq1 (fun _ _ n _ hn2 ⟨_, hR0, _⟩ => have hn0 : n = 0 := Nat.le_zero.1 (hn2 0 11 rfl Yr); have hQ := hR0 hn0; have hH9 := HH.out.below hQ; have hV9 := HV.out.below hQ; Ya hn0 (Ya hQ (Ya hH9 (Ya hV9 (Ya ((hH9.cell q).trans M1.out) (Ya ((hV9.cell q).trans M2.out) (Ya hH9.lt hV9.lt))))))) ?_
            refine zq0 ?_
            refine zq1 (fun _ _ n _ hn2 ⟨_, hR0, _⟩ => have hn0 : n = 0 := Nat.le_zero.1 (hn2 0 11 rfl Yr); have hQ := hR0 hn0; have hH9 := HH.out.below hQ; have hV9 := HV.out.below hQ; Ya hn0 (Ya hQ (Ya hH9 (Ya hV9 (Ya ((hH9.cell q).trans M1.out) (Ya ((hV9.cell q).trans M2.out) (Ya hH9.lt hV9.lt))))))) ?_
            refine zq1 (fun _ _ n _ hn2 ⟨_, hR0, _⟩ => have hn0 : n = 0 := Nat.le_zero.1 (hn2 0 11 rfl Yr); have hQ := hR0 hn0; have hH9 := HH.out.below hQ; have hV9 := HV.out.below hQ; Ya hn0 (Ya hQ (Ya hH9 (Ya hV9 (Ya ((hH9.cell q).trans M1.out) (Ya ((hV9.cell q).trans M2.out) (Ya hH9.lt hV9.lt))))))) ?_
            refine zq0 ?_
            refine zq1 (fun _ _ n _ hn2 ⟨_, hR0, _⟩ => have hn0 : n = 0 := Nat.le_zero.1 (hn2 0 11 rfl Yr); have hQ := hR0 hn0; have hH9 := HH.out.below hQ; have hV9 := HV.out.below hQ; Ya hn0 (Ya hQ (Ya hH9 (Ya hV9 (Ya ((hH9.cell q).trans M1.out) (Ya ((hV9.cell q).trans M2.out) (Ya hH9.lt hV9.lt))))))) ?_
            refine zq1 (fun _ _ n _ hn2 ⟨_, hR0, _⟩ => have hn0 : n = 0 := Nat.le_zero.1 (hn2 0 11 rfl Yr); have hQ := hR0 hn0; have hH9 := HH.out.below hQ; have hV9 := HV.out.below hQ; Ya hn0 (Ya hQ (Ya hH9 (Ya hV9 (Ya ((hH9.cell q).trans M1.out) (Ya ((hV9.cell q).trans M2.out) (Ya hH9.lt hV9.lt))))))) ?_
            refine Yz (fun u wq n hn hn2 hC hk K hK => ?_) ?_
            ·obtain ⟨hG, hR0, hR1⟩ := hC
             simp only [calmKnown, lg0, lg1, and_true, Is] at hk
             obtain ⟨h10, h8⟩ := hk
             simp only [h10, h8] at hK ⊢
             have H10 := Yh h10; clear h10; have H8 := Yh h8; clear h8
             obtain rfl := hn 0 rfl
             have hQ := hR0 rfl
             clear hR0 hR1
             have hH9 := HH.out.below hQ; have hV9 := HV.out.below hQ
             have z0 := (hH9.cell q).trans M1.out; have z1 := (hV9.cell q).trans M2.out; have l0 := hH9.lt; have l1 := hV9.lt
             have yf := hH9.frozen
             have hB2 := hH9.set_ q (.int .u32 (IntKind.u32.wrap (x + y)))
             rw [M3.out] at hB2
             have hV2 := Blk.far hV9 (p := ⟨gh, q, none⟩) hne (.int .u32 (IntKind.u32.wrap (x + y)))
             go_simp
             exact hK _ undef _ rfl ⟨Past.gb hG (Past.set (X := [gh]) Ys _) (fun k hk => .inl (by simpa using hk)), Ye, (fun _ => ⟨hB2, hV2⟩)⟩ trivial trivial
            exact Yw
           ·intro u w1 hC hF
            obtain ⟨hG, -, hR1⟩ := hC
            have HHV := Yh (Ya (hR1 rfl) hG)
            clear hF hR1 hG
            go_wp2
            go_roundg (8 - (q + 1))
            case measure => omega
            case rel => exact ⟨q + 1, Yo, Yo, by go_num, HHV.out.1.1, HHV.out.1.2, HHV.out.2⟩
          ·obtain rfl : q = 8 := by omega
           have gq : decide (((8 : Nat) : Int) < 8) = false := by decide
           have gq2 : decide ((8 : Int) < 8) = false := by decide
           go_wp2
           go_end0
           exact ⟨rfl, by rw [HFIN.out]; exact HH.out, HG.out⟩
end Go.Proofs.YtiinmhfolfgobaaGreatDoor
