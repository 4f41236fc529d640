/- Lemmas. -/
import Derived.Laws.CopyOwn
import Derived.Test.YtiinmhfolfgobaaGreatDoorJ10
import Derived.Test.YtiinmhfolfgobaaGreatDoorJ38
import Derived.Test.YtiinmhfolfgobaaGreatDoorSha2
import Derived.Test.YtiinmhfolfgobaaGreatDoorSha3
import Derived.Test.YtiinmhfolfgobaaGreatDoorJ35
set_option linter.unusedVariables false
set_option linter.unusedSimpArgs false
namespace Go.Proofs.YtiinmhfolfgobaaGreatDoor
open Go.RowKit
def InB (bs : List Int) : Prop := ∀ x ∈ bs, 0 ≤ x ∧ x < 256
def outQ (s : St8) : Nat → List Int
 | 0 => []
 | q + 1 => outQ s q ++ putB (s.at8 q) 4
def padQ (bs : List Int) (q : Nat) : List Int := bs ++ [128] ++ List.replicate q 0
theorem outQ_len (s : St8) : ∀ q, (outQ s q).length = 4 * q
 | 0 => rfl
 | q + 1 => by rw [outQ, lla, outQ_len s q, putB_length]; omega
theorem putB_in (v : Int) (n : Nat) : InB (putB v n) := fun x hx => by
 simp only [putB, List.mem_map] at hx
 obtain ⟨i, -, rfl⟩ := hx
 omega
theorem InB.app {a b : List Int} (ha : InB a) (hb : InB b) : InB (a ++ b) := fun x hx => by
 rcases List.mem_append.1 hx with h | h
 ·exact ha x h
 ·exact hb x h
theorem outQ_in (s : St8) : ∀ q, InB (outQ s q)
 | 0 => fun x hx => by simp [outQ] at hx
 | q + 1 => by rw [outQ]; exact (outQ_in s q).app (putB_in _ _)
theorem padQ_len (bs : List Int) (q : Nat) : (padQ bs q).length = bs.length + 1 + q := by simp [padQ]; omega
theorem padQ_succ (bs : List Int) (q : Nat) : padQ bs (q + 1) = padQ bs q ++ [0] := by
 unfold padQ; rw [List.replicate_succ', List.append_assoc _ _ [0]]
theorem blkS_ok (ks bs : List Int) (s : St8) : (blkS ks bs s).ok := addS_ok _ _
theorem at8_in {s : St8} (h : s.ok) (q : Nat) : 0 ≤ s.at8 q ∧ s.at8 q < 4294967296 := h.get q
theorem Wd8.get {w : World} {g off : Nat} {s : St8} (h : Wd8 w g off s) (q : Nat) (hq : q < 8) : w.cell? ⟨g, off + q, none⟩ = some (.int .u32 (s.at8 q)) := by
 obtain ⟨h0, a1, a2, a3, a4, a5, a6, a7, a8⟩ := h
 rcases lt8 hq with rfl | rfl | rfl | rfl | rfl | rfl | rfl | rfl
 ·exact a1
 ·exact a2
 ·exact a3
 ·exact a4
 ·exact a5
 ·exact a6
 ·exact a7
 ·exact a8
theorem ByRow.cap {w : World} {base n c : Nat} {a : Addr} {bs : List Int} (h : ByRow w base (.slice (some a) n c) bs) : bs.length ≤ c := by
 rcases h.2 with ⟨h, _⟩ | ⟨g, cap, cur, h, _, _, h3, _⟩
 ·cases h
 ·injection h with _ _ h; omega
def FinR (w : World) (bs : List Int) (e : Ending) (w' : World) : Prop := ∃ g cap, e = .returned (.slice (some ⟨g, 0, none⟩) 32 cap) ∧ 32 ≤ cap ∧ w.heap.size ≤ g ∧ g < w'.heap.size ∧ ByAt w' g bs ∧ Below w.heap.size w w'
theorem parts2 {w : World} {g h o c n h2 o2 c2 n2 : Nat} {T : TypeId} {bs b2 : List Int} (hB : Blk w g T #[.slice (some ⟨h, o, none⟩) n c, .slice (some ⟨h2, o2, none⟩) n2 c2]) (hn : bs.length = n) (hs : BySl w h o bs) (hn2 : b2.length = n2) (hs2 : BySl w h2 o2 b2) : PartsAt w (some ⟨g, 0, none⟩) [bs, b2] := by
 subst hn hn2
 refine ⟨g, 0, rfl, hB.lt, fun j hj => ?_⟩
 obtain rfl | rfl : j = 0 ∨ j = 1 := by simp at hj; omega
 ·exact ⟨h, o, c, hB.cell 0, hs⟩
 ·exact ⟨h2, o2, c2, hB.cell 1, hs2⟩
theorem news_blk {w : World} {g : Nat} {T : TypeId} {bs : List Int} (hB : Blk w g T (bcells bs).toArray) : ∀ j u, (bcells bs)[j]? = some u → w.cell? ((⟨g, 0, none⟩ : Addr).add j) = some u := by
 intro j u hj
 rw [show (⟨g, 0, none⟩ : Addr).add j = ⟨g, j, none⟩ from by (simp [Addr.add] <;> omega), hB.cell]
 simpa using hj
def PdRel (w : World) (n : Nat) (bs : List Int) (G : Nat) (v : Value) (wr : World) : Prop := ∃ (q L : Nat) (g c : Nat), q ≤ 55 - n ∧ G = 55 - n - q ∧ v = .slice (some ⟨g, 0, none⟩) L c ∧ L = n + 1 + q ∧ w.heap.size ≤ g ∧ ByRow wr w.heap.size v (padQ bs q) ∧ Below w.heap.size w wr
def BkRel (w : World) (s s1 : St8) (G : Nat) (v i : Value) (wr : World) : Prop := ∃ (q g o c : Nat) (s2 : St8), q ≤ 1 ∧ G = 1 - q ∧ i = .int .i64 ((64 * q : Nat) : Int) ∧ v = .slice (some ⟨g, o, none⟩) 8 c ∧ Wd8 wr g o s2 ∧ s2 = (if q = 0 then s else s1) ∧ Below w.heap.size w wr
def OtRel (w : World) (s : St8) (G : Nat) (v i : Value) (wr : World) : Prop := ∃ q : Nat, q ≤ 8 ∧ G = 8 - q ∧ i = .int .i64 q ∧ ByRow wr w.heap.size v (outQ s q) ∧ (∃ A n c, v = .slice A n c) ∧ Below w.heap.size w wr
set_option maxHeartbeats 8000000
set_option maxRecDepth 100000
def WhRel (w : World) (gh gb cb : Nat) (s0 s1 : St8) (G : Nat) (v : Value) (wr : World) : Prop := ∃ (q : Nat) (A : Option Addr) (c : Nat) (s : St8), q ≤ 1 ∧ G = 1 - q ∧ v = .slice A (64 - 64 * q) c ∧ (q = 0 → A = some ⟨gb, 0, none⟩ ∧ c = cb) ∧ Blk wr gh 256 s.cells ∧ s = (if q = 0 then s0 else s1) ∧ GB gh w wr ∧ (q = 0 → Below w.heap.size w wr)
theorem whole64_any (gh gb cb : Nat) (s : St8) (P : List Int) (hs : s.ok) (hl : P.length = 64) (hb : InB P) (hcb : 64 ≤ cb) (w : World) (h : Blk w gh 256 s.cells) (b : BySl w gb 0 P) :
  Calls Tryz.prog 241 #[.pointer (some ⟨gh, 0, none⟩), .slice (some ⟨gb, 0, none⟩) 64 cb] w (fun e w' => (∃ v, e = .returned v) ∧ Blk w' gh 256 (blkS kS P s).cells ∧ GB gh w w') := by
 have HH := Yh h; have HB := Yh b; clear h b
 obtain ⟨S1, hS1⟩ : ∃ S1, blkS kS P s = S1 := ⟨_, rfl⟩
 rw [hS1]
 have HS1 := Yh (show ∃ f, f = blkS ∧ f kS P s = S1 from ⟨_, rfl, hS1⟩); clear hS1
 have HL := Yh hl; have HIB := Yh hb; have HSO := Yh hs; clear hl hb hs
 go_enter Tryz.func241, Tryz.ntmps241
 go_wp2_with fail
 refine (hconst_any _).mono ?_
 rintro e w1 ⟨gk, rfl, hgk, hks, hb1⟩
 have Z1 := hb1.size
 have HKS := Yh hks; have K1 := Yh hb1; have HH1 := Yh (HH.out.below hb1); have HB1 := Yh (HB.out.below hb1)
 clear hks hb1 HH HB
 go_wp2
 go_loopg [1] 1 (fun G v wr => WhRel w1 gh gb cb s S1 G v wr)
 case atStart => exact ⟨0, _, cb, s, Yo, Yo, rfl, fun _ => ⟨rfl, rfl⟩, HH1.out, rfl, GB.refl _ _, fun _ => Below.refl _ _⟩
 case round =>
  obtain ⟨q, A, c, s2, hq, rfl, rfl, hA, hB, hs2, KG, KR⟩ := hrel
  have HBK := Yh hB; have HG := Yh KG
  have HKR := Yh KR
  clear hB KG KR HH1
  by_cases hq0 : q = 0
  ·subst hq0
   obtain ⟨rfl, rfl⟩ := hA rfl
   obtain rfl : s2 = s := by simpa using hs2
   have K9 := HKR.out rfl
   have HKS2 := Yh (HKS.out.below K9); have HB2 := Yh (HB1.out.below K9)
   have Z9 := K9.size
   have lh := HBK.out.lt
   clear hA hs2 K9 HKR
   have hc7 : (64 : Int) ≤ (c : Int) := by omega
   rw [show 64 - 64 * 0 = 64 from rfl]
   go_wp2_with fail
   refine (hblock_any gh gk gb 0 _ s2 kS P kS_len HL.out HSO.out kS_ok HIB.out _ HBK.out HKS2.out HB2.out).mono ?_
   rintro e w3 ⟨rfl, hB3, hG3⟩
   rw [show blkS kS P s2 = S1 from by obtain ⟨f, rfl, h⟩ := HS1.out; exact h] at hB3
   have HB3 := Yh hB3; have HG3 := Yh (HG.out.trans hG3)
   clear hB3 hG3
   go_wp2
   all_goals
    go_roundg 0
    case measure => omega
    case rel => exact ⟨1, _, _, S1, Yo, Yo, rfl, fun h => absurd h Yd, HB3.out, rfl, HG3.out, fun h => absurd h Yd⟩
  ·obtain rfl : q = 1 := by omega
   obtain rfl : s2 = S1 := by simpa using hs2
   clear hA hs2 HKR
   rw [show 64 - 64 * 1 = 0 from rfl]
   have gq : decide ((64 : Int) ≤ ((0 : Nat) : Int)) = false := by decide
   have gq2 : decide ((64 : Int) ≤ 0) = false := by decide
   go_wp2
   go_ret
   exact ⟨⟨_, rfl⟩, HBK.out, (GB.call K1.out (GB.refl gh w)).trans HG.out⟩
theorem bcells_set (l : List Int) (p : Nat) (y : Int) : (bcells l).toArray.setIfInBounds p (.int .u8 y) = (bcells (l.set p y)).toArray := by simp [bcells, List.map_set]
theorem bcells_splice (l : List Int) (off : Nat) (c : List Int) : splice (bcells l) off (bcells c) = bcells (splice l off c) := by
 unfold splice bcells; simp [List.map_append, List.map_take, List.map_drop]
theorem end1_len (bs : List Int) (h : bs.length ≤ 55) : (splice (List.replicate 128 (0 : Int)) 0 bs).length = 128 := by rw [length_splice _ _ _ (by simp; omega)]; simp
theorem putB4 (x : Int) : putB x 4 = [x / 16777216 % 256, x / 65536 % 256, x / 256 % 256, x % 256] := by simp [putB, List.range, List.range.loop]
theorem below_on {B : Nat} {a w w' : World} (h : Below B a w) (hb : Below w.heap.size w w') (hB : B ≤ w.heap.size) : Below B a w' := h.trans ⟨hb.os, hb.tape, hb.output, hb.size, fun k hk => hb.block k (Nat.lt_of_lt_of_le hk hB)⟩
theorem below_less {B B' : Nat} {a w : World} (h : Below B a w) (hB : B' ≤ B) : Below B' a w := ⟨h.os, h.tape, h.output, h.size, fun k hk => h.block k (Nat.lt_of_lt_of_le hk hB)⟩
theorem Blk.on {B : Nat} {w w' : World} {g : Nat} {T : TypeId} {cs : Array Value} (h : Blk w g T cs) (hb : Below B w w') (hg : g < B) : Blk w' g T cs := (hb.block g hg).trans h
theorem BySl.blk {w : World} {g : Nat} {T : TypeId} {bs : List Int} (h : Blk w g T (bcells bs).toArray) : BySl w g 0 bs :=
 ⟨h.lt, fun j hj => by rw [Nat.zero_add, h.cell]; simpa using bcells_get bs j hj⟩
theorem zeros128 : Array.replicate 128 (Value.int .u8 0) = (bcells (List.replicate 128 0)).toArray := by
 apply Array.ext'; simp [bcells]
theorem zero128 (W : World) : (zeroValue 267).run Tryz.prog W = .ok (.agg (Array.replicate 128 (.int .u8 0))) W := by
 first
 | rfl
 | (unfold zeroValue; simp only [Sem.run_bind, Tryz.typeInfo267, Result.andThen_ok]; rfl)
set_option maxHeartbeats 16000000
def pad64 : List Int := (splice ((splice (List.replicate 128 (0 : Int)) 0 []).set 0 128) 56 (putB 512 8)).take 64
theorem pad64_len : pad64.length = 64 := by rfl
theorem pad64_in : InB pad64 := by
 have h : (pad64.all fun x => decide (0 ≤ x ∧ x < 256)) = true := by rfl
 intro x hx
 exact of_decide_eq_true (List.all_eq_true.1 h x hx)
def sha64 (bs : List Int) : List Int := outQ (blkS kS pad64 (blkS kS bs firstS)) 8
theorem hfin64_any (A0 : Option Addr) (cb : Nat) (s : St8) (hs : s.ok) (w : World) :
  Calls Tryz.prog 242 #[.agg s.cells, .slice A0 0 cb, .int .i64 64] w (FinR w (outQ (blkS kS pad64 s) 8)) := by
 obtain ⟨i0, hif, hz0, hz1, hz2⟩ := info_parts infoU8
 obtain ⟨S1, hS1⟩ : ∃ S1, blkS kS (pad64) s = S1 := ⟨_, rfl⟩
 have h1ok : S1.ok := hS1 ▸ blkS_ok _ _ _
 rw [hS1]
 have HS1 := Yh (show ∃ f, f = blkS ∧ f kS (pad64) s = S1 from ⟨_, rfl, hS1⟩); clear hS1
 obtain ⟨R, hR⟩ : ∃ R, outQ S1 8 = R := ⟨_, rfl⟩
 rw [hR]
 have HRR := Yh (show ∃ k, k = 8 ∧ outQ S1 k = R from ⟨_, rfl, hR⟩); clear hR
 have HSO := Yh hs; have H1O := Yh h1ok; clear hs h1ok
 obtain ⟨s0, hs0⟩ : ∃ s0, s = s0 := ⟨_, rfl⟩
 obtain ⟨c0, c1, c2, c3, c4, c5, c6, c7⟩ := s
 dsimp only [St8.cells]
 have hz8 := zero128
 go_enter Tryz.func242, Tryz.ntmps242
 go_upto_region 1 with fail
 go_cut [3, 7] (fun a c wx => a = .pointer (some ⟨w.heap.size, 0, none⟩) ∧ c = .pointer (some ⟨w.heap.size + 1, 0, none⟩) ∧ Blk wx w.heap.size 256 #[.int .u32 c0, .int .u32 c1, .int .u32 c2, .int .u32 c3, .int .u32 c4, .int .u32 c5, .int .u32 c6, .int .u32 c7] ∧ Blk wx (w.heap.size + 1) 267 (bcells (List.replicate 128 0)).toArray ∧ Below w.heap.size w wx)
 case first =>
  go_wp2_with fail
  go_meet
  exact ⟨rfl, rfl, by first | exact (Blk.new _ _ _).alloc _ | exact Blk.alloc (Blk.new _ _ _) _, by first | (rw [← zeros128]; first | exact Blk.new1 _ _ _ _ | exact Blk.newE Ys) | exact Blk.new1 _ _ _ _, bl0⟩
 case rest =>
  obtain ⟨rfl, rfl, hbh, hb1, KC⟩ := hcut
  have ZC := KC.size
  obtain ⟨g1, hg1⟩ : ∃ g, w.heap.size + 1 = g := ⟨_, rfl⟩
  rw [hg1] at hb1 ⊢
  have lg1 := hb1.lt
  have HBH := Yh hbh; have HB1 := Yh hb1; have HC := Yh KC
  clear hbh hb1 KC
  go_wp2_with (refine wpList_copy_splice rfl (.tmp 13) (.tmp 14) _ _ rfl 5 Tryz.underlying72 (by rfl) (some ⟨g1, 0, none⟩) A0 128 128 0 cb rfl rfl g1 0 (bcells (List.replicate 128 0)) 267 HB1.out (bcells []) rfl Ye (by simp [bcells]) (fun v hv => by simp [bcells] at hv) g1 wc Yl (Nat.le_refl _) ?_)
  intro w2 HG2 hB2
  obtain ⟨L1, hL1⟩ : ∃ L, splice (List.replicate 128 (0 : Int)) 0 [] = L := ⟨_, rfl⟩
  have hL1l : L1.length = 128 := by rw [← hL1]; exact end1_len [] Yd
  have hb2 : Blk w2 g1 267 (bcells L1).toArray := by rw [← hL1, ← bcells_splice]; exact HG2.out
  rw [show (bcells []).length = 0 from rfl]
  have hcell : w2.cell? ⟨g1, 0, none⟩ = some (.int .u8 (L1.getD 0 0)) := (hb2.cell 0).trans (by simpa using bcells_get L1 0 Yo)
  have lg2 := hb2.lt; have yf := hb2.frozen; have ZC2 := hB2.size
  have HL1 := Yh hL1; have HB2 := Yh hb2; have HK2 := Yh hB2; have HL1l := Yh hL1l
  clear hL1 hb2 HG2 hB2 hL1l HB1
  go_wp2_with fail
  obtain ⟨w3, hw3⟩ : ∃ x, x = w2.setCell ⟨g1, 0, none⟩ (.int .u8 128) := ⟨_, rfl⟩
  rw [← hw3]
  obtain ⟨L2, hL2⟩ : ∃ L, L1.set 0 128 = L := ⟨_, rfl⟩
  have hb3 : Blk w3 g1 267 (bcells L2).toArray := by rw [hw3, ← hL2, ← bcells_set]; exact HB2.out.set_ 0 _
  have hL2l : L2.length = 128 := by rw [← hL2, List.length_set]; exact HL1l.out
  have hK3 : Below g1 wc w3 := by rw [hw3]; exact HK2.out.setCell (Nat.le_refl _) _
  have HL2 := Yh hL2; have HB3 := Yh hb3; have HK3 := Yh hK3; have HL2l := Yh hL2l
  have lg3 := hb3.lt; have ZC3 := hK3.size
  clear hw3 hL2 hb3 hK3 hL2l HB2 HK2 hcell yf lg2 ZC2
  refine' wp_region_calm Yr (fun n us w' => Below g1 wc w' ∧ (n = 0 → Below w3.heap.size w3 w') ∧ (n = 1 → (∃ gp, us[0]? = some (.slice (some ⟨gp, 0, none⟩) 8 8) ∧ BySl w' gp 0 (putB 512 8)) ∧ Blk w' g1 267 (bcells L2).toArray) ∧ (n = 2 → Blk w' g1 267 (bcells (splice L2 56 (putB 512 8))).toArray)) (fun _ _ => True) [Is _, Is _, Is _, Is _, Is _, Is _, (fun _ v _ => ∃ g, v = .slice (some ⟨g, 0, none⟩) 8 8), (fun _ _ _ => True)] [[], [0], [1], [], [3], [4], [5], [2, 6]] [6, 7] [6] rfl Yr Yp ?_ (Y1 (Y1 (Y1 (Y1 (Y1 (Y1 (kcc (fun _ _ _ _ _ h => h) (Y0 Yn)))))))) ?_ ?_
  ·intro _
   exact ⟨(by first | exact HK3.out | exact HK3.out.drew), (fun _ => Yl.drew), Ye, Ye⟩
  rotate_left 6
  ·skip
   iterate 6 refine zq0 ?_
   refine Yz (fun u wq n hn hn2 hC hk K hK => ?_) ?_
   ·obtain ⟨hP, hR0, hR1, hR2⟩ := hC
    simp only [calmKnown, lg0, lg1, and_true, Is, Pure, osj, ld0, ld1, lm1, lm0] at hk
    have h5 := hk; clear hk
    simp only [h5] at hK ⊢
    have H5 := Yh h5; clear h5
    obtain rfl := hn 0 rfl
    have hQ := hR0 rfl
    have hZ := hQ.size
    clear hR0 hR1 hR2
    go_wp2_with fail
    refine (oput_any 512 8 Yd Yd Yd Yd _).mono ?_
    rintro e w9 ⟨gp, rfl, hgp, hlp, hby, hb9⟩
    exact hK _ _ _ rfl ⟨below_on hP hb9 Yo, Ye, (fun _ => ⟨⟨gp, rfl, hby.sl⟩, (HB3.out.below hQ).below hb9⟩), Ye⟩ trivial ⟨_, rfl⟩
   refine Yz (fun u wq n hn hn2 hC hk K hK => ?_) ?_
   ·obtain ⟨hP, hR0, hR1, hR2⟩ := hC
    simp only [calmKnown, lg0, lg1, and_true, Is, Pure, osj, ld0, ld1, lm1, lm0] at hk
    obtain ⟨h2, ⟨g9, e9⟩⟩ := hk
    simp only [h2] at hK ⊢
    have H2 := Yh h2; clear h2
    obtain rfl := hn 1 rfl
    obtain ⟨⟨gp, e6, hby⟩, hB⟩ := hR1 rfl
    clear e9 hR0 hR1 hR2
    have e6' : u 6 = .slice (some ⟨gp, 0, none⟩) 8 8 := by simpa using e6
    clear e6
    simp only [e6'] at hK ⊢
    have E6 := Yh e6'; clear e6'
    refine calm_op (by rfl) ?_
    refine wp_copy_splice rfl _ _ _ _ rfl 5 Tryz.underlying72 (by rfl) (some ⟨g1, 56, none⟩) (some ⟨gp, 0, none⟩) 72 72 8 8 (by rfl) (by rfl) g1 56 (bcells L2) 267 hB (bcells (putB 512 8)) (by rw [bcells_length, putB_length]; rfl) (fun _ => ⟨rfl, _, rfl, news_bytes hby⟩) (by rw [bcells_length, bcells_length, putB_length, HL2l.out]; omega) (one_bytes _) g1 wc hP (Nat.le_refl _) ?_
    intro w9 hH hb9
    exact hK _ _ _ rfl ⟨hb9, Ye, Ye, fun _ => by rw [← bcells_splice]; exact hH.out⟩ trivial trivial
   exact Yw
  ·intro u w4 hC hF
   obtain ⟨hP, -, -, hR2⟩ := hC
   have hb4 := hR2 rfl
   clear hF hR2
   have ZC4 := hP.size; have lg4 := hb4.lt
   obtain ⟨P, hPd⟩ : ∃ P, pad64 = P := ⟨_, rfl⟩
   have hPl : P.length = 64 := by rw [← hPd]; exact pad64_len
   have hPi : InB P := hPd ▸ pad64_in
   have hbp : BySl w4 g1 0 P := by
    have h := (BySl.blk hb4).head 64 (by rw [length_splice _ _ _ (by rw [HL2l.out, putB_length]; omega), HL2l.out]; omega)
    rw [← HL2.out, ← HL1.out] at h
    rw [← hPd]
    exact h
   have hbh4 : Blk w4 w.heap.size 256 (⟨c0, c1, c2, c3, c4, c5, c6, c7⟩ : St8).cells := HBH.out.on hP Yo
   have K4 : Below w.heap.size w w4 := HC.out.trans (below_less hP Yo)
   have Z4 := K4.size
   have HBH4 := Yh hbh4; have HBP := Yh hbp; have HK4 := Yh K4; have HPD := Yh hPd; have HPL := Yh (Ya hPl hPi)
   clear hbh4 hbp K4 hPd hPl hPi hb4 hP HB3 HK3 HBH HC HL1 HL2 HL2l HL1l
   go_wp2_with fail
   refine (whole64_any w.heap.size g1 128 ⟨c0, c1, c2, c3, c4, c5, c6, c7⟩ P HSO.out HPL.out.1 HPL.out.2 Yd _ HBH4.out HBP.out).mono ?_
   rintro e w5 ⟨⟨v5, rfl⟩, hb5, hG5⟩
   rw [show blkS kS P ⟨c0, c1, c2, c3, c4, c5, c6, c7⟩ = S1 from by obtain ⟨f, rfl, h⟩ := HS1.out; rw [← HPD.out]; exact h] at hb5
   have K5 : Below w.heap.size w w5 := below_grown2 HK4.out hG5 (Nat.le_refl _)
   have Z5 := K5.size
   obtain ⟨d0, d1, d2, d3, d4, d5, d6, d7⟩ := S1
   dsimp only [St8.cells] at hb5
   have HB5 := Yh hb5; have HK5 := Yh K5
   clear hb5 hG5 K5 HBH4 HBP HK4 HPD HPL HS1 ZC4 lg4 ZC3 lg3 lg1 ZC
   go_wp2_with (at_make; refine wpList_make_own _ rfl _ _ 72 rfl w5.heap.size 5 i0 (.int .u8 0) 1 Tryz.underlying72 hif hz0 hz1 .i64 .i64 _ 32 rfl rfl rfl (by rw [hz2]; decide) Yd (Nat.le_refl _) ?_)
   intro w6 hown hgrow
   have K6 : Below w5.heap.size w5 w6 := Yl.grown hgrow (Nat.le_refl _) (fun k hk => by cases hk)
   have hb6 := HB5.out.below K6
   have z6 := hb6.cell; have l6 := hb6.lt; have Z6 := K6.size
   have HR6 := Yh (show ByRow w6 w5.heap.size (.slice (some ⟨w5.heap.size, 0, none⟩) 0 32) [] from hown); have HK6 := Yh K6
   clear hown hgrow K6 hb6 HB5
   go_wp2
   go_loopg [10, 34] 8 (fun G v i wr => OtRel w5 ⟨d0, d1, d2, d3, d4, d5, d6, d7⟩ G v i wr)
   case atStart => exact ⟨0, Yo, Yo, rfl, HR6.out, ⟨_, _, _, rfl⟩, HK6.out⟩
   case round =>
    obtain ⟨q, hq, rfl, rfl, hrow, ⟨A, m, d, rfl⟩, KR⟩ := hrel
    have ZY := KR.size
    clear HR6 HK6 z6 l6
    have HROW := Yh hrow; have HKR := Yh KR
    clear hrow KR
    by_cases hlt : q < 8
    ·have gq : decide ((q : Int) < 8) = true := Y2
     have gqn : decide (q < 8) = true := decide_eq_true hlt
     have pq : (q : Int) < 8 := by omega
     have wq : IntKind.i64.wrap ((q : Int) + 1) = ((q + 1 : Nat) : Int) := Y4
     have hix : ∀ W, (Instr.index 256 (.agg #[.int .u32 d0, .int .u32 d1, .int .u32 d2, .int .u32 d3, .int .u32 d4, .int .u32 d5, .int .u32 d6, .int .u32 d7]) (.int .i64 (q : Int))).run Tryz.prog W = .ok (.int .u32 ((⟨d0, d1, d2, d3, d4, d5, d6, d7⟩ : St8).at8 q)) W := by
      intro W
      rcases lt8 hlt with rfl | rfl | rfl | rfl | rfl | rfl | rfl | rfl <;> rfl
     have hx := at8_in H1O.out q
     have hol := outQ_len (⟨d0, d1, d2, d3, d4, d5, d6, d7⟩ : St8) q
     have hst : outQ (⟨d0, d1, d2, d3, d4, d5, d6, d7⟩ : St8) (q + 1) = outQ (⟨d0, d1, d2, d3, d4, d5, d6, d7⟩ : St8) q ++ putB ((⟨d0, d1, d2, d3, d4, d5, d6, d7⟩ : St8).at8 q) 4 := rfl
     generalize (⟨d0, d1, d2, d3, d4, d5, d6, d7⟩ : St8).at8 q = x at *
     obtain ⟨S9, hS9⟩ : ∃ S9 : St8, ⟨d0, d1, d2, d3, d4, d5, d6, d7⟩ = S9 := ⟨_, rfl⟩
     have hrow := HROW.out
     rw [hS9] at hrow hol hst
     have HS9 := Yh hS9; clear hS9
     have HRW := Yh hrow; have HST := Yh hst; have HOL := Yh hol; clear hst hol HROW
     have hlt0 := hrow.own
     clear hrow
     generalize hv : (Value.slice A m d) = v at *
     have HV := Yh hv; clear hv
     go_wp2_with (at_builtin; refine wpList_append_lies _ rfl _ _ 72 rfl w5.heap.size 5 i0 (.int .u8 0) 1 1 Tryz.underlying72 hif hz0 hz1 hz2 rfl Yd v (outQ S9 q).length (bcells (outQ S9 q)) rfl (HRW.out.below (Yl.alloc (Nat.le_refl _) _)) ⟨wr.heap.size, 0, none⟩ 4 4 (bcells [x / 16777216, x / 65536 % 256, x / 256 % 256, x % 256]) rfl rfl (news_blk (Blk.new _ _ _)) (one_bytes _) ?c2 ?c3 ?c4 ?c5 _ rfl ?_)
     case c2 => omega
     case c3 => have := HOL.out; unfold maxLen; omega
     case c4 => have := HOL.out; omega
     case c5 => first | omega | (simp; omega)
     intro g7 c7 w7 hown hgrow hlie hglt
     have K7 : Below w5.heap.size w5 w7 := ((HKR.out.alloc Yo _).grown hgrow (by simp; omega) (fun k hk => (hlt0 k hk).1))
     have hr7 : ByRow w7 w5.heap.size (.slice (some ⟨g7, 0, none⟩) ((outQ S9 q).length + 4) c7) (outQ S9 (q + 1)) := by
      unfold ByRow
      rw [HST.out, lla, putB_length, bcells_app, putB4, show x / 16777216 % 256 = x / 16777216 from by omega]; exact hown
     rw [← HS9.out] at hr7
     have R7 := Yh hr7
     clear hown hgrow hlie hglt hr7
     go_wp2
     go_roundg (8 - (q + 1))
     case measure => omega
     case rel => exact ⟨q + 1, Yo, Yo, by go_num, by rw [← HS9.out]; exact R7.out, ⟨_, _, _, rfl⟩, K7⟩
    ·obtain rfl : q = 8 := by omega
     have gq : decide (((8 : Nat) : Int) < 8) = false := by decide
     have gq2 : decide ((8 : Int) < 8) = false := by decide
     have hrow := HROW.out
     have hRl : R.length = 32 := by obtain ⟨k, rfl, h⟩ := HRR.out; rw [← h, outQ_len]
     rw [show outQ ⟨d0, d1, d2, d3, d4, d5, d6, d7⟩ 8 = R from by obtain ⟨k, rfl, h⟩ := HRR.out; exact h] at hrow
     obtain ⟨g9, cp9, e9, hg9, hl9, hat9⟩ := hrow.form Yo
     rw [hRl] at e9
     obtain ⟨rfl, rfl, rfl⟩ : A = some ⟨g9, 0, none⟩ ∧ m = 32 ∧ d = cp9 := by injection e9 with a b c; exact ⟨a, b, c⟩
     have HAT := Yh hat9
     have hcp := hrow.cap
     rw [hRl] at hcp
     clear hrow HROW hat9 e9
     go_wp2
     go_ret
     exact ⟨g9, d, rfl, hcp, Yo, hl9, HAT.out, Yc HKR.out HK5.out⟩
def WhRel2 (w : World) (gh gb ob cb : Nat) (s0 s1 : St8) (G : Nat) (v : Value) (wr : World) : Prop := ∃ (q : Nat) (A : Option Addr) (c : Nat) (s : St8), q ≤ 1 ∧ G = 1 - q ∧ v = .slice A (64 - 64 * q) c ∧ (q = 0 → A = some ⟨gb, ob, none⟩ ∧ c = cb) ∧ Blk wr gh 256 s.cells ∧ s = (if q = 0 then s0 else s1) ∧ GB gh w wr ∧ (q = 0 → Below w.heap.size w wr)
theorem whole64_rest (gh gb ob cb : Nat) (s : St8) (P : List Int) (hs : s.ok) (hl : P.length = 64) (hb : InB P) (hcb : 64 ≤ cb) (w : World) (h : Blk w gh 256 s.cells) (b : BySl w gb ob P) :
  Calls Tryz.prog 241 #[.pointer (some ⟨gh, 0, none⟩), .slice (some ⟨gb, ob, none⟩) 64 cb] w (fun e w' => (∃ A c, e = .returned (.slice A 0 c)) ∧ Blk w' gh 256 (blkS kS P s).cells ∧ GB gh w w') := by
 have HH := Yh h; have HB := Yh b; clear h b
 obtain ⟨S1, hS1⟩ : ∃ S1, blkS kS P s = S1 := ⟨_, rfl⟩
 rw [hS1]
 have HS1 := Yh (show ∃ f, f = blkS ∧ f kS P s = S1 from ⟨_, rfl, hS1⟩); clear hS1
 have HL := Yh hl; have HIB := Yh hb; have HSO := Yh hs; clear hl hb hs
 go_enter Tryz.func241, Tryz.ntmps241
 go_wp2_with fail
 refine (hconst_any _).mono ?_
 rintro e w1 ⟨gk, rfl, hgk, hks, hb1⟩
 have Z1 := hb1.size
 have HKS := Yh hks; have K1 := Yh hb1; have HH1 := Yh (HH.out.below hb1); have HB1 := Yh (HB.out.below hb1)
 clear hks hb1 HH HB
 go_wp2
 go_loopg [1] 1 (fun G v wr => WhRel2 w1 gh gb ob cb s S1 G v wr)
 case atStart => exact ⟨0, _, cb, s, Yo, Yo, rfl, fun _ => ⟨rfl, rfl⟩, HH1.out, rfl, GB.refl _ _, fun _ => Below.refl _ _⟩
 case round =>
  obtain ⟨q, A, c, s2, hq, rfl, rfl, hA, hB, hs2, KG, KR⟩ := hrel
  have HBK := Yh hB; have HG := Yh KG
  have HKR := Yh KR
  clear hB KG KR HH1
  by_cases hq0 : q = 0
  ·subst hq0
   obtain ⟨rfl, rfl⟩ := hA rfl
   obtain rfl : s2 = s := by simpa using hs2
   have K9 := HKR.out rfl
   have HKS2 := Yh (HKS.out.below K9); have HB2 := Yh (HB1.out.below K9)
   have Z9 := K9.size
   have lh := HBK.out.lt
   clear hA hs2 K9 HKR
   have hc7 : (64 : Int) ≤ (c : Int) := by omega
   rw [show 64 - 64 * 0 = 64 from rfl]
   go_wp2_with fail
   refine (hblock_any gh gk gb ob _ s2 kS P kS_len HL.out HSO.out kS_ok HIB.out _ HBK.out HKS2.out HB2.out).mono ?_
   rintro e w3 ⟨rfl, hB3, hG3⟩
   rw [show blkS kS P s2 = S1 from by obtain ⟨f, rfl, h⟩ := HS1.out; exact h] at hB3
   have HB3 := Yh hB3; have HG3 := Yh (HG.out.trans hG3)
   clear hB3 hG3
   go_wp2
   all_goals
    go_roundg 0
    case measure => omega
    case rel => exact ⟨1, _, _, S1, Yo, Yo, rfl, fun h => absurd h Yd, HB3.out, rfl, HG3.out, fun h => absurd h Yd⟩
  ·obtain rfl : q = 1 := by omega
   obtain rfl : s2 = S1 := by simpa using hs2
   clear hA hs2 HKR
   rw [show 64 - 64 * 1 = 0 from rfl]
   have gq : decide ((64 : Int) ≤ ((0 : Nat) : Int)) = false := by decide
   have gq2 : decide ((64 : Int) ≤ 0) = false := by decide
   go_wp2
   go_ret
   exact ⟨⟨_, _, rfl⟩, HBK.out, (GB.call K1.out (GB.refl gh w)).trans HG.out⟩
theorem hsum64_any (gb ob cb : Nat) (bs : List Int) (hn : bs.length = 64) (hcb : 64 ≤ cb) (hb : InB bs) (w : World) (b : BySl w gb ob bs) :
  Calls Tryz.prog 226 #[.slice (some ⟨gb, ob, none⟩) 64 cb] w (FinR w (sha64 bs)) := by
 have HB := Yh b; clear b
 obtain ⟨R, hR⟩ : ∃ R, sha64 bs = R := ⟨_, rfl⟩
 rw [hR]
 have HRR := Yh (show ∃ f, f = blkS ∧ ∃ k, k = 8 ∧ outQ (f kS pad64 (f kS bs firstS)) k = R from ⟨_, rfl, 8, rfl, hR⟩); clear hR
 have HN := Yh hn; have HIB := Yh hb; clear hn hb
 obtain ⟨S, hS⟩ : ∃ S, firstS = S := ⟨_, rfl⟩
 have hso : S.ok := hS ▸ firstS_ok
 have HSS := Yh (show ∃ F, F = firstS ∧ F = S from ⟨_, rfl, hS⟩)
 have HSO := Yh hso
 go_enter Tryz.func226, Tryz.ntmps226
 obtain ⟨c0, c1, c2, c3, c4, c5, c6, c7⟩ := S
 go_upto_region 1 with fail
 go_cut [3] (fun v wx => ∃ gh, v = .pointer (some ⟨gh, 0, none⟩) ∧ w.heap.size ≤ gh ∧ Blk wx gh 256 #[.int .u32 c0, .int .u32 c1, .int .u32 c2, .int .u32 c3, .int .u32 c4, .int .u32 c5, .int .u32 c6, .int .u32 c7] ∧ Below w.heap.size w wx)
 case first =>
  go_wp2_with fail
  refine (hfirst_any _).mono ?_
  rintro e w1 ⟨rfl, hb1⟩
  rw [hS]
  clear hS HSS
  have Z1 := hb1.size
  have K1 := Yh (show Kp w w1 from hb1)
  clear hb1
  dsimp only [St8.cells]
  go_wp2_with fail
  go_meet
  exact ⟨w1.heap.size, rfl, Z1, (by first | exact Blk.new _ _ _ | exact setAll_blk _ 0 _ _ (Blk.new _ _ _)), (have z9 := K1.out.b; bl1)⟩
 case rest =>
  obtain ⟨gh, rfl, hgh, hbc, KC⟩ := hcut
  clear hS hso
  have K1 := Yh (show Kp w wc from KC)
  have HBC := Yh hbc; have HK := Yh K1.out.b; have ZC := KC.size
  have HB2 := Yh (HB.out.below HK.out)
  clear hbc KC K1
  go_wp2_with fail
  refine (whole64_rest gh gb ob cb ⟨c0, c1, c2, c3, c4, c5, c6, c7⟩ bs HSO.out HN.out HIB.out hcb _ HBC.out HB2.out).mono ?_
  rintro e w2 ⟨⟨A2, k2, rfl⟩, hbc2, hG2⟩
  have HS1O := Yh (blkS_ok kS bs ⟨c0, c1, c2, c3, c4, c5, c6, c7⟩)
  obtain ⟨S1, hS1⟩ : ∃ S1, blkS kS bs ⟨c0, c1, c2, c3, c4, c5, c6, c7⟩ = S1 := ⟨_, rfl⟩
  rw [hS1] at hbc2 HS1O
  have HS1 := Yh (show ∃ f, f = blkS ∧ f kS bs ⟨c0, c1, c2, c3, c4, c5, c6, c7⟩ = S1 from ⟨_, rfl, hS1⟩)
  obtain ⟨d0, d1, d2, d3, d4, d5, d6, d7⟩ := S1
  dsimp only [St8.cells] at hbc2
  have z2 := hbc2.cell; have l2 := hbc2.lt
  have HK2 := Yh (show Below w.heap.size w w2 from below_grown2 HK.out hG2 hgh)
  clear hS1 hbc2 hG2 HBC HK HB2
  go_wp2_with fail
  refine (hfin64_any A2 k2 ⟨d0, d1, d2, d3, d4, d5, d6, d7⟩ HS1O.out _).mono ?_
  rintro e w3 ⟨g, cap, rfl, hcp, hg, hl, hat, hb3⟩
  rw [show outQ (blkS kS pad64 ⟨d0, d1, d2, d3, d4, d5, d6, d7⟩) 8 = R from by obtain ⟨f, rfl, k, rfl, h⟩ := HRR.out; obtain ⟨F, rfl, h2⟩ := HSS.out; obtain ⟨f2, rfl, h3⟩ := HS1.out; rw [← h3, ← h2]; exact h] at hat
  have HAT := Yh hat; have K3 := Yh (Yc hb3 HK2.out)
  have Z3 := HK2.out.size
  clear hat hb3
  go_wp2
  go_ret
  exact ⟨g, cap, rfl, hcp, Yo, hl, HAT.out, K3.out⟩
def FinH (w : World) (bs : List Int) (e : Ending) (w' : World) : Prop := ∃ g, e = .returned (.slice (some ⟨g, 0, none⟩) 16 16) ∧ w.heap.size ≤ g ∧ g < w'.heap.size ∧ ByAt w' g bs ∧ Below w.heap.size w w'
theorem hshort64_any (gb ob cb : Nat) (bs : List Int) (hn : bs.length = 64) (hcb : 64 ≤ cb) (hb : InB bs) (w : World) (b : BySl w gb ob bs) :
  Calls Tryz.prog 203 #[.slice (some ⟨gb, ob, none⟩) 64 cb] w (FinH w (sha64 bs)) := by
 have HS := Yh (fun W h => hsum64_any gb ob cb bs hn hcb hb W h); have HB := Yh b
 clear b hb hn
 go_enter Tryz.func203, Tryz.ntmps203
 go_wp2_with fail
 refine (HS.out _ HB.out).mono ?_
 rintro e w3 ⟨g, cap, rfl, hcp, hg, hl, hat, hb3⟩
 have HAT := Yh hat; have HK3 := Yh hb3
 have hcp2 : (16 : Int) ≤ (cap : Int) := by omega
 have hcp3 : 16 ≤ cap := by omega
 clear hat hb3
 go_wp2
 all_goals
  go_ret
  exact ⟨g, rfl, hg, hl, HAT.out, HK3.out⟩
theorem run_append_empty {P : Program} {w : World} (base : Nat) (t ty e : TypeId) (i : TypeInfo) (size : Nat) (ht : P.underlying t = some (.slice e)) (hi : P.info? e = some i)
  (v : Value) (n : Nat) (xs : List Value) (hown : w.ownsRow base e size v n xs) (A : Option Addr) (c : Nat) :
  (Builtin.append_ #[t, t] ty #[v, .slice A 0 c]).run P w = .ok v w := by
 rcases hown.2 with ⟨rfl, rfl⟩ | ⟨g, cap, cur, rfl, _, _, hnc, _⟩
 ·cases A <;> simp [Builtin.append_, run_underlying ht, sizeOf, typeInfo, hi, Builtin.lenOf, Builtin.firstCells, loadCells, loadCellsFrom]
 ·cases A <;> simp [Builtin.append_, run_underlying ht, sizeOf, typeInfo, hi, Builtin.lenOf, Builtin.firstCells, hnc, storeCells, loadCells, loadCellsFrom]
def Jn0Rel (w : World) (G : Nat) (v i : Value) (wr : World) : Prop := ∃ q : Nat, q ≤ 1 ∧ G = 1 - q ∧ i = .int .i64 q ∧ ByRow wr w.heap.size v [] ∧ (∃ A c, v = .slice A 0 c) ∧ Below w.heap.size w wr
theorem rjoin0_any (g off lcap : Nat) (A0 : Option Addr) (c0 : Nat) (w : World) (hc : w.cell? ⟨g, off, none⟩ = some (.slice A0 0 c0)) (hg : g < w.heap.size) :
  Calls Tryz.prog 155 #[.slice (some ⟨g, off, none⟩) 1 lcap] w (fun e w' => ∃ A c, e = .returned (.slice A 0 c) ∧ ByRow w' w.heap.size (.slice A 0 c) [] ∧ Below w.heap.size w w') := by
 have HC0 := Yh hc; clear hc
 obtain ⟨i0, hif, hz0, hz1, hz2⟩ := info_parts infoU8
 go_enter Tryz.func155, Tryz.ntmps155
 go_upto_region 1 with fail
 go_cut [3] (fun v wx => (∃ A c, v = .slice A 0 c) ∧ ByRow wx w.heap.size v [] ∧ Below w.heap.size w wx)
 case first =>
  go_wp2_with fail
  go_meet
  exact ⟨⟨_, _, rfl⟩, (by first | exact World.ownsRow_made w #[] 0 (Nat.le_refl _) Yd (by rfl) | exact World.ownsRow_nil _ _ _ _), bl0⟩
 case rest =>
  obtain ⟨⟨A1, c1, rfl⟩, hrow, KC⟩ := hcut
  have HR := Yh hrow; have HC := Yh KC; have ZC := KC.size
  clear hrow KC
  go_wp2
  go_loopg [3, 4] 1 (fun G v i wr => Jn0Rel w G v i wr)
  case atStart => exact ⟨0, Yo, Yo, rfl, HR.out, ⟨_, _, rfl⟩, HC.out⟩
  case round =>
   obtain ⟨q, hq, rfl, rfl, hrow, ⟨A, c, rfl⟩, KR⟩ := hrel
   have ZR := KR.size
   clear HR HC
   have HROW := Yh hrow; have HKR := Yh KR
   have hcell := cell_below KR HC0.out
   clear hrow KR
   by_cases hlt : q = 0
   ·subst hlt
    generalize hv : (Value.slice A 0 c) = v at *
    have HV := Yh hv; clear hv
    go_wp2_with (at_builtin; refine Lib.wpList_append_run _ rfl _ _ _ _ rfl _ _ rfl rfl _ _ (run_append_empty _ _ _ _ _ _ (by rfl) hif v 0 _ HROW.out _ _) ?_)
    go_roundg 0
    case measure => omega
    case rel => exact ⟨1, Yo, Yo, by go_num, HROW.out, ⟨_, _, HV.out.symm⟩, HKR.out⟩
   ·obtain rfl : q = 1 := by omega
    go_wp2
    go_ret
    exact ⟨A, c, rfl, HROW.out, HKR.out⟩
theorem rfin64_any (gh oh ch : Nat) (A0 : Option Addr) (cb : Nat) (s : St8) (hs : s.ok) (w : World) (h : Wd8 w gh oh s) :
  Calls Tryz.prog 219 #[.slice (some ⟨gh, oh, none⟩) 8 ch, .slice A0 0 cb, .int .i64 64] w (FinR w (outQ (blkS kS pad64 s) 8)) := by
 have HH := Yh h; clear h
 obtain ⟨i0, hif, hz0, hz1, hz2⟩ := info_parts infoU8
 obtain ⟨S1, hS1⟩ : ∃ S1, blkS kS (pad64) s = S1 := ⟨_, rfl⟩
 have h1ok : S1.ok := hS1 ▸ blkS_ok _ _ _
 rw [hS1]
 have HS1 := Yh (show ∃ f, f = blkS ∧ f kS (pad64) s = S1 from ⟨_, rfl, hS1⟩); clear hS1
 obtain ⟨R, hR⟩ : ∃ R, outQ S1 8 = R := ⟨_, rfl⟩
 rw [hR]
 have HRR := Yh (show ∃ k, k = 8 ∧ outQ S1 k = R from ⟨_, rfl, hR⟩); clear hR
 have HSO := Yh hs; have H1O := Yh h1ok; clear hs h1ok
 go_enter Tryz.func219, Tryz.ntmps219
 go_wp2_with fail
 refine (rconst_any _).mono ?_
 rintro e w1 ⟨gk, rfl, hgk, hks, hb1⟩
 have Z1 := hb1.size
 have HKS := Yh hks.sl
 have lk := hks.sl.1
 have HHs := Yh (HH.out.below hb1); have K1 := Yh (show Kp w w1 from hb1)
 clear HH hks hb1
 go_wp2_with fail
 refine (rjoin0_any _ _ 1 A0 cb _ ((Blk.new _ _ _).cell 0) (Blk.new _ _ _).lt).mono ?_
 rintro e w2 ⟨A2, c2, rfl, hrow, hb2⟩
 have KA : Below w1.heap.size w1 w2 := Yc hb2 (Yl.alloc (Nat.le_refl _) _)
 have Z2 := KA.size
 have hrow2 : ByRow w2 w1.heap.size (.slice A2 0 c2) [] := hrow.mono Ys
 have hlt2 := hrow2.own
 have HR2 := Yh hrow2; have K2 := Yh KA
 clear KA hb2 hrow hrow2
 generalize hv2 : (Value.slice A2 0 c2) = v2 at *
 have HV2 := Yh hv2; clear hv2
 go_wp2_with (at_builtin; refine wpList_append_lies _ rfl _ _ 72 rfl w1.heap.size 5 i0 (.int .u8 0) 1 1 Tryz.underlying72 hif hz0 hz1 hz2 rfl Yd v2 0 (bcells []) rfl (HR2.out.below (Yl.alloc (Nat.le_refl _) _)) ⟨w2.heap.size, 0, none⟩ 1 1 (bcells [128]) rfl rfl (news_blk (Blk.new _ _ _)) (one_bytes _) ?c2 ?c3 ?c4 ?c5 _ rfl ?_)
 case c2 => omega
 case c3 => unfold maxLen; omega
 case c4 => omega
 case c5 => first | omega | (simp; omega)
 intro g3 c3 w3 hown hgrow hlie hglt
 have K3 : Below w1.heap.size w1 w3 := ((K2.out.alloc Yo _).grown hgrow (by simp; omega) (fun k hk => (hlt2 k hk).1))
 have hrow3 : ByRow w3 w1.heap.size (.slice (some ⟨g3, 0, none⟩) 1 c3) (padQ [] 0) := by
  unfold ByRow
  rw [padQ_len, show padQ ([] : List Int) 0 = [] ++ [128] from rfl, bcells_app]; exact hown
 have hg3 := (hrow3.own g3 rfl).1
 have HR3 := Yh hrow3; have HK3 := Yh K3; have Z3 := K3.size
 clear hown hgrow hlie hglt hrow3 K3 K2 HR2 Z2 hlt2
 go_wp2
 go_loopg [8] 55 (fun G v wr => PdRel w1 0 [] G v wr)
 case atStart => exact ⟨0, 1, g3, c3, Yo, Yo, rfl, Yo, hg3, HR3.out, HK3.out⟩
 case round =>
  obtain ⟨q, L, g4, c4, hq, rfl, rfl, hL, hg4, hrow, KR⟩ := hrel
  have ZR := KR.size
  have HROW := Yh hrow; have HKR := Yh KR
  clear HR3 HK3 Z3 hg3 hrow KR
  have tm : Int.tmod (L : Int) 64 = (L : Int) := Int.tmod_eq_of_lt Yo Yo
  by_cases hlt : q < 55
  ·have gq : decide ((L : Int) = 56) = false := Y3
   have gq2 : ((L : Int) == 56) = false := Y5
   have gq3 : decide (L = 56) = false := Y3
   have gq4 : ¬ ((L : Int) = 56) := by omega
   have HL := Yh hL; clear hL
   go_wp2_with (at_builtin; refine wpList_append_lies _ rfl _ _ 72 rfl w1.heap.size 5 i0 (.int .u8 0) 1 1 Tryz.underlying72 hif hz0 hz1 hz2 rfl Yd (.slice (some ⟨g4, 0, none⟩) L c4) L (bcells (padQ [] q)) rfl ((show L = (padQ [] q).length by rw [padQ_len]; exact HL.out) ▸ (HROW.out.below (Yl.alloc (Nat.le_refl _) _))) ⟨wr.heap.size, 0, none⟩ 1 1 (bcells [0]) rfl rfl (news_blk (Blk.new _ _ _)) (one_bytes _) ?c2 ?c3 ?c4 ?c5 _ rfl ?_)
   case c2 => omega
   case c3 => have := HL.out; unfold maxLen; omega
   case c4 => have := HL.out; omega
   case c5 => first | omega | (simp; omega)
   intro g5 c5 w5 hown hgrow hlie hglt
   have K5 : Below w1.heap.size w1 w5 := ((HKR.out.alloc Yo _).grown hgrow (by simp; omega) (fun k hk => by have h : g4 = k := (by simpa [Value.ownBlock] using hk); omega))
   have hrow5 : ByRow w5 w1.heap.size (.slice (some ⟨g5, 0, none⟩) (L + 1) c5) (padQ [] (q + 1)) := by
    unfold ByRow
    rw [padQ_len, show ([] : List Int).length + 1 + (q + 1) = L + 1 from by have := HL.out; simp; omega, padQ_succ, bcells_app]; exact hown
   have hg5 := (hrow5.own g5 rfl).1
   have R5 := Yh hrow5
   clear hown hgrow hlie hglt hrow5 gq4
   go_wp2
   go_roundg (55 - (q + 1))
   case measure => omega
   case rel => exact ⟨q + 1, L + 1, g5, c5, Yo, Yo, rfl, by have := HL.out; omega, hg5, R5.out, K5⟩
  ·obtain rfl : q = 55 := by omega
   obtain rfl : L = 56 := by omega
   have tm2 : Int.tmod 56 64 = 56 := by decide
   clear tm hL
   go_wp2_with fail
   refine (rput_any 512 8 Yd Yd Yd Yd _).mono ?_
   rintro e w4 ⟨g5, rfl, hg5, hl5, hby, hb4⟩
   have K4 := Yc hb4 HKR.out
   have HR4 := Yh (HROW.out.below hb4); have HK4 := Yh K4; have HBY := Yh hby.sl; have Z4 := hb4.size
   clear HROW HKR K4 hby hb4
   go_wp2_with (at_builtin; refine wpList_append_lies _ rfl _ _ 72 rfl w1.heap.size 5 i0 (.int .u8 0) 1 1 Tryz.underlying72 hif hz0 hz1 hz2 rfl Yd (.slice (some ⟨g4, 0, none⟩) 56 c4) 56 (bcells (padQ [] 55)) rfl (by have h := HR4.out; unfold ByRow at h; rwa [padQ_len] at h) ⟨g5, 0, none⟩ 8 8 (bcells (putB 512 8)) rfl (by rw [bcells_length, putB_length]) (news_bytes HBY.out) (one_bytes _) ?c2 ?c3 ?c4 ?c5 _ rfl ?_)
   case c2 => omega
   case c3 => unfold maxLen; omega
   case c4 => omega
   case c5 => omega
   intro g6 c6 w6 hown hgrow hlie hglt
   have K6 : Below w1.heap.size w1 w6 := (HK4.out.grown hgrow Yo (fun k hk => by have h : g4 = k := (by simpa [Value.ownBlock] using hk); omega))
   obtain ⟨P, hP⟩ : ∃ P, pad64 = P := ⟨_, rfl⟩
   have hPe : padQ [] 55 ++ putB 512 8 = P := by rw [← hP]; rfl
   have hPl : P.length = 64 := by rw [← hP]; exact pad64_len
   have hPi : InB P := hP ▸ pad64_in
   have hrow6 : ByRow w6 w1.heap.size (.slice (some ⟨g6, 0, none⟩) 64 c6) P := by
    unfold ByRow
    rw [hPl, ← hPe, bcells_app]; exact hown
   have hc6 := hrow6.cap
   rw [hPl] at hc6
   obtain ⟨gz, cz, ez, hg6, hl6, hat6⟩ := hrow6.form Yo
   obtain rfl : g6 = gz := by injection ez with ez; simpa using ez
   have HP6 := Yh hat6.sl; have HK6 := Yh K6; have Z6 := K6.size
   have HKS6 := Yh (HKS.out.below K6); have HH6 := Yh (HHs.out.below K6)
   have HPI := Yh (Ya hPl hPi)
   have HS2 := Yh (show ∃ f, f = blkS ∧ f kS P s = S1 by rw [← hP]; exact HS1.out)
   have K06 := Yh (Yc K6 K1.out.b)
   clear hown hgrow hlie hglt hPe hP hPl hPi hrow6 ez hat6 K6 HR4 HK4 HBY HS1 HKS HHs
   go_wp2
   go_loopg [0, 9] 1 (fun G v i wr => BkRel w6 s S1 G v i wr)
   case atStart => exact ⟨0, gh, oh, ch, s, Yo, Yo, rfl, rfl, HH6.out, rfl, Below.refl _ _⟩
   case round =>
    obtain ⟨q, g, o, c, s2, hq, rfl, rfl, rfl, hw8, hs2, KR⟩ := hrel
    have ZR := KR.size
    have HW8 := Yh hw8; have HKR := Yh KR
    clear hw8 HH6
    by_cases hq0 : q = 0
    ·subst hq0
     obtain rfl : s2 = s := by simpa using hs2
     rw [show ((64 * 0 : Nat) : Int) = 0 from rfl]
     have HP7 := Yh (HP6.out.below KR); have HKS7 := Yh (HKS6.out.below KR)
     clear KR hs2
     have hc7 : (64 : Int) ≤ (c6 : Int) := by omega
     go_wp2_with fail
     refine (rblock_any g o gk 0 g6 0 c _ _ s2 kS P kS_len HPI.out.1 HSO.out kS_ok HPI.out.2 _ HW8.out HKS7.out HP7.out).mono ?_
     rintro e w7 ⟨g7, rfl, hg7, hB7, hb7⟩
     have hbs : blkS kS P s2 = S1 := by obtain ⟨f, rfl, h⟩ := HS2.out; exact h
     rw [hbs] at hB7
     have hw7 := Wd8.blk hB7
     have HW7 := Yh hw7; have HK7 := Yh (Yc hb7 HKR.out)
     clear hbs hB7 hw7 hb7
     go_wp2
     go_roundg 0
     case measure => omega
     case rel => exact ⟨1, g7, 0, 8, S1, Yo, Yo, rfl, rfl, HW7.out, rfl, HK7.out⟩
    ·obtain rfl : q = 1 := by omega
     obtain rfl : s2 = S1 := by simpa using hs2
     rw [show ((64 * 1 : Nat) : Int) = 64 from rfl]
     have K07 := Yh (Yc KR K06.out)
     clear KR hs2 HP6 HKS6 HPI HS2 HKR HK6
     have Z7 := K07.out.size
     go_upto_region 10 with fail
     go_cut [10] (fun v wx => (∃ A n c, v = .slice A n c) ∧ ByRow wx wr.heap.size v [] ∧ Below wr.heap.size wr wx)
     case first =>
      go_wp2_with fail
      go_meet
      exact ⟨⟨_, _, _, rfl⟩, (by first | exact World.ownsRow_made wr #[] 0 (Nat.le_refl _) Yd (by rfl) | exact World.ownsRow_nil _ _ _ _), bl0⟩
     case rest =>
      obtain ⟨⟨A0, m0, d0, rfl⟩, hrow, KC⟩ := hcut
      have HR := Yh hrow; have HC := Yh KC; have ZC := KC.size
      clear hrow KC
      obtain ⟨w8, rfl⟩ : ∃ x : World, x = wr := ⟨_, rfl⟩
      go_wp2
      go_loopg [10, 11] 8 (fun G v i wy => OtRel w8 s2 G v i wy)
      case atStart => exact ⟨0, Yo, Yo, rfl, HR.out, ⟨_, _, _, rfl⟩, HC.out⟩
      case round =>
       obtain ⟨q, hq, rfl, rfl, hrow, ⟨A, m, d, rfl⟩, KR⟩ := hrel
       have ZY := KR.size
       clear HR HC
       have HROW := Yh hrow; have HKR := Yh KR
       have HWY := Yh (HW8.out.below KR)
       clear hrow KR
       by_cases hlt : q < 8
       ·have gq : decide ((q : Int) < 8) = true := Y2
        have gqn : decide (q < 8) = true := decide_eq_true hlt
        have pq : (q : Int) < 8 := by omega
        have wq : IntKind.i64.wrap ((q : Int) + 1) = ((q + 1 : Nat) : Int) := Y4
        have hcell := HWY.out.get q hlt
        have hgl := HWY.out.1
        have hx := at8_in H1O.out q
        have hol := outQ_len s2 q
        have hst : outQ s2 (q + 1) = outQ s2 q ++ putB (s2.at8 q) 4 := rfl
        generalize s2.at8 q = x at *
        have wx : IntKind.u64.wrap x = x := by simp [IntKind.wrap, IntKind.bits, IntKind.signed]; omega
        have HST := Yh hst; have HOL := Yh hol; clear hst hol
        go_wp2_with fail
        refine (rput_any x 4 hx.1 Yo Yd Yd _).mono ?_
        rintro e w9 ⟨g9, rfl, hg9, hl9, hby, hb9⟩
        have K9 := Yc hb9 HKR.out
        have hr9 := HROW.out.below hb9
        have hlt0 := hr9.own
        have HR9 := Yh hr9; have HK9 := Yh K9; have HBY := Yh hby.sl; have Z9 := hb9.size
        clear HROW HKR K9 hby hb9 hr9
        generalize hv : (Value.slice A m d) = v at *
        have HV := Yh hv; clear hv
        go_wp2_with (at_builtin; refine wpList_append_lies _ rfl _ _ 72 rfl w8.heap.size 5 i0 (.int .u8 0) 1 1 Tryz.underlying72 hif hz0 hz1 hz2 rfl Yd v (outQ s2 q).length (bcells (outQ s2 q)) rfl HR9.out ⟨g9, 0, none⟩ 4 4 (bcells (putB x 4)) rfl (by rw [bcells_length, putB_length]) (news_bytes HBY.out) (one_bytes _) ?c2 ?c3 ?c4 ?c5 _ rfl ?_)
        case c2 => omega
        case c3 => have := HOL.out; unfold maxLen; omega
        case c4 => have := HOL.out; omega
        case c5 => omega
        intro g7 c7 w7 hown hgrow hlie hglt
        have K7 : Below w8.heap.size w8 w7 := HK9.out.grown hgrow Yo (fun k hk => (hlt0 k hk).1)
        have hr7 : ByRow w7 w8.heap.size (.slice (some ⟨g7, 0, none⟩) ((outQ s2 q).length + 4) c7) (outQ s2 (q + 1)) := by
         unfold ByRow
         rw [HST.out, lla, putB_length, bcells_app]; exact hown
        have R7 := Yh hr7
        clear hown hgrow hlie hglt hr7
        go_wp2
        go_roundg (8 - (q + 1))
        case measure => omega
        case rel => exact ⟨q + 1, Yo, Yo, by go_num, R7.out, ⟨_, _, _, rfl⟩, K7⟩
       ·obtain rfl : q = 8 := by omega
        have gq : decide (((8 : Nat) : Int) < 8) = false := by decide
        have gq2 : decide ((8 : Int) < 8) = false := by decide
        have hrow := HROW.out
        have hRl : R.length = 32 := by obtain ⟨k, rfl, h⟩ := HRR.out; rw [← h, outQ_len]
        rw [show outQ s2 8 = R from by obtain ⟨k, rfl, h⟩ := HRR.out; exact h] at hrow
        obtain ⟨g9, cp9, e9, hg9, hl9, hat9⟩ := hrow.form Yo
        rw [hRl] at e9
        obtain ⟨rfl, rfl, rfl⟩ : A = some ⟨g9, 0, none⟩ ∧ m = 32 ∧ d = cp9 := by injection e9 with a b c; exact ⟨a, b, c⟩
        have HAT := Yh hat9
        have hcp := hrow.cap
        rw [hRl] at hcp
        clear hrow HROW hat9 e9
        go_wp2
        go_ret
        exact ⟨g9, d, rfl, hcp, Yo, hl9, HAT.out, Yc HKR.out K07.out⟩
def SmR2 (w : World) (gh : Nat) (s0 s1 : St8) (G : Nat) (v i : Value) (wr : World) : Prop := ∃ (q g c : Nat) (s2 : St8), q ≤ 1 ∧ G = 1 - q ∧ i = .int .i64 ((64 * q : Nat) : Int) ∧ v = .slice (some ⟨g, 0, none⟩) 8 c ∧ Wd8 wr g 0 s2 ∧ s2 = (if q = 0 then s0 else s1) ∧ Below w.heap.size w wr
theorem rsum64_any (gb ob cb : Nat) (bs : List Int) (hn : bs.length = 64) (hcb : 64 ≤ cb) (hb : InB bs) (w : World) (b : BySl w gb ob bs) :
  Calls Tryz.prog 189 #[.slice (some ⟨gb, ob, none⟩) 64 cb] w (FinR w (sha64 bs)) := by
 have HB := Yh b; clear b
 obtain ⟨S1, hS1⟩ : ∃ S1, blkS kS bs firstS = S1 := ⟨_, rfl⟩
 have h1ok : S1.ok := hS1 ▸ blkS_ok _ _ _
 obtain ⟨R, hR⟩ : ∃ R, sha64 bs = R := ⟨_, rfl⟩
 rw [hR]
 have HRR := Yh (show ∃ k, k = 8 ∧ outQ (blkS kS pad64 S1) k = R from ⟨8, rfl, by rw [← hS1]; exact hR⟩); clear hR
 have HS1 := Yh (show ∃ f, f = blkS ∧ f kS bs firstS = S1 from ⟨_, rfl, hS1⟩); clear hS1
 have HN := Yh hn; have HIB := Yh hb; have H1O := Yh h1ok; clear hn hb h1ok
 go_enter Tryz.func189, Tryz.ntmps189
 go_wp2_with fail
 refine (rfirst_any _).mono ?_
 rintro e w1 ⟨gh, rfl, hgh, hw8, hb1⟩
 have Z1 := hb1.size
 have H8 := Yh (Wd8.blk hw8); have K1 := Yh (show Kp w w1 from hb1)
 clear hw8 hb1
 go_wp2_with fail
 refine (rconst_any _).mono ?_
 rintro e w2 ⟨gk, rfl, hgk, hks, hb2⟩
 have Z2 := hb2.size
 have HKS := Yh hks.sl
 have H82 := Yh (H8.out.below hb2); have K2 := Yh (Yc hb2 K1.out.b)
 have HB2 := Yh (HB.out.below K2.out)
 clear H8 K1 hb2 hks HB
 go_wp2
 go_loopg [3, 6] 1 (fun G v i wr => SmR2 w2 gh firstS S1 G v i wr)
 case atStart => exact ⟨0, gh, 8, firstS, Yo, Yo, rfl, rfl, H82.out, rfl, Below.refl _ _⟩
 case round =>
  obtain ⟨q, g, c, s2, hq, rfl, rfl, rfl, hw8, hs2, KR⟩ := hrel
  have ZR := KR.size
  have HW8 := Yh hw8; have HKR := Yh KR
  have HB3 := Yh (HB2.out.below KR); have HKS3 := Yh (HKS.out.below KR)
  clear hw8 H82
  by_cases hq0 : q = 0
  ·subst hq0
   obtain rfl : s2 = firstS := by simpa using hs2
   rw [show ((64 * 0 : Nat) : Int) = 0 from rfl]
   clear KR hs2
   have hc7 : (64 : Int) ≤ (cb : Int) := by omega
   go_wp2_with fail
   refine (rblock_any g 0 gk 0 gb ob c _ _ firstS kS bs kS_len HN.out firstS_ok kS_ok HIB.out _ HW8.out HKS3.out HB3.out).mono ?_
   rintro e w7 ⟨g7, rfl, hg7, hB7, hb7⟩
   have hbs : blkS kS bs firstS = S1 := by obtain ⟨f, rfl, h⟩ := HS1.out; exact h
   rw [hbs] at hB7
   have hw7 := Wd8.blk hB7
   have HW7 := Yh hw7; have HK7 := Yh (Yc hb7 HKR.out)
   clear hbs hB7 hw7 hb7
   go_wp2
   go_roundg 0
   case measure => omega
   case rel => exact ⟨1, g7, 8, S1, Yo, Yo, rfl, rfl, HW7.out, rfl, HK7.out⟩
  ·obtain rfl : q = 1 := by omega
   obtain rfl : s2 = S1 := by simpa using hs2
   rw [show ((64 * 1 : Nat) : Int) = 64 from rfl]
   have HK := Yh (Yc KR K2.out)
   clear KR hs2 HKS3
   go_wp2_with fail
   all_goals
    refine (rfin64_any g 0 c _ _ s2 H1O.out _ HW8.out).mono ?_
    rintro e w3 ⟨g3, cap, rfl, hcp, hg, hl, hat, hb3⟩
    rw [show outQ (blkS kS pad64 s2) 8 = R from by obtain ⟨k, rfl, h⟩ := HRR.out; exact h] at hat
    have HAT := Yh hat; have K3 := Yh (Yc hb3 HK.out)
    have Z3 : w.heap.size ≤ wr.heap.size := HK.out.size
    clear hat hb3
    go_wp2
    go_ret
    exact ⟨g3, cap, rfl, hcp, Yo, hl, HAT.out, K3.out⟩
def FinS (w : World) (bs : List Int) (e : Ending) (w' : World) : Prop := ∃ g cap, e = .returned (.slice (some ⟨g, 0, none⟩) 16 cap) ∧ 16 ≤ cap ∧ w.heap.size ≤ g ∧ g < w'.heap.size ∧ ByAt w' g bs ∧ Below w.heap.size w w'
theorem rshort64_any (gb ob cb : Nat) (bs : List Int) (hn : bs.length = 64) (hcb : 64 ≤ cb) (hb : InB bs) (w : World) (b : BySl w gb ob bs) :
  Calls Tryz.prog 156 #[.slice (some ⟨gb, ob, none⟩) 64 cb] w (FinS w (sha64 bs)) := by
 have HS := Yh (fun W h => rsum64_any gb ob cb bs hn hcb hb W h); have HB := Yh b
 clear b hb hn
 go_enter Tryz.func156, Tryz.ntmps156
 go_wp2_with fail
 refine (HS.out _ HB.out).mono ?_
 rintro e w3 ⟨g, cap, rfl, hcp, hg, hl, hat, hb3⟩
 have HAT := Yh hat; have HK3 := Yh hb3
 have hcp2 : (16 : Int) ≤ (cap : Int) := by omega
 have hcp3 : 16 ≤ cap := by omega
 clear hat hb3
 go_wp2
 all_goals
  go_ret
  exact ⟨g, _, rfl, Yo, hg, hl, HAT.out, HK3.out⟩
end Go.Proofs.YtiinmhfolfgobaaGreatDoor
