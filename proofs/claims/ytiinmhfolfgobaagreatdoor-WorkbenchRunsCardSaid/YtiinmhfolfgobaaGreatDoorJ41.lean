/- Lemmas. -/
import Derived.Test.YtiinmhfolfgobaaGreatDoorJ40
import Derived.Test.YtiinmhfolfgobaaGreatDoorJ30
import Derived.Test.YtiinmhfolfgobaaGreatDoorJ9
import Derived.Test.YtiinmhfolfgobaaGreatDoorJ29
import Derived.Test.YtiinmhfolfgobaaGreatDoorJ33
set_option linter.unusedVariables false
set_option linter.unusedSimpArgs false
namespace Go.Proofs.YtiinmhfolfgobaaGreatDoor
open Go.RowKit Go.Lib
set_option maxHeartbeats 32000000
set_option maxRecDepth 100000
theorem keep_bysl {h : List Int} : ∀ (d : List Value) (v : Value) (w w' : World), Below w.heap.size w w' → (∃ g, v = .slice (some ⟨g, 0, none⟩) 16 16 ∧ BySl w g 0 h) → (∃ g, v = .slice (some ⟨g, 0, none⟩) 16 16 ∧ BySl w' g 0 h) := fun _ _ _ _ hb ⟨g, e, h⟩ => ⟨g, e, h.below hb⟩
theorem pload_ok (g cap : Nat) (n0 : Int) (k : K6) (hc : 80 ≤ cap) (hn : vT n0 = true) (he : pE n0 k = 0) (w : World) (h : BySl w g 0 (fileB (savVs n0 k))) :
  Calls Tryz.prog 173 #[.slice (some ⟨g, 0, none⟩) 80 cap] w (RB w (.tuple #[.agg #[.int .i64 n0, .int .i64 k.at_, .int .i64 k.lo, .int .i64 k.hi, .int .i64 k.pp, .int .i64 k.le, .int .i64 k.re], .int .i64 0])) := by
 have R := Yh (fun W => pcheck_any n0 k hn W)
 rw [he] at R
 have hint := sav_ints (pE_0 he).1 hn
 have hat : ∀ (i : Nat) (h1 : 1 ≤ i) (h8 : i < 8) (gb : Nat) (W : World) (hB : Blk W gb 72 #[.slice (some ⟨g, 0, none⟩) 80 cap]) (hW : BySl W g 0 (fileB (savVs n0 k))), Calls Tryz.prog 205 #[.int .i64 i, .pointer (some ⟨gb, 0, none⟩)] W (RB W (.int .i64 ((savVs n0 k).getD (i - 1) 0))) := fun i h1 h8 gb W hB hW => by
  have r := pat_any i gb g 0 cap (fileB (savVs n0 k)) (fileB_len _) (fileB_in _) Yo h1 hc W hB hW
  obtain ⟨j, rfl⟩ : ∃ j, i = j + 1 := ⟨i - 1, Yo⟩
  rw [show 8 * (j + 1) = 8 + 8 * j by omega, fileB_num _ j Yo] at r
  have hm := hint ((savVs n0 k).getD j 0) (by rw [Y8, Y9 (by show j < 7; omega)]; exact List.getElem_mem _)
  rw [gtS_num _ hm.1 hm.2] at r
  exact r
 have hsh := fun (c : Nat) (hc2 : 64 ≤ c) (W : World) (hW : BySl W g 0 ((fileB (savVs n0 k)).take 64)) => hshort64_any g 0 c ((fileB (savVs n0 k)).take 64) (by rw [fileB_body]; exact bodyQ_len _ 7) hc2 (by rw [fileB_body]; exact bodyQ_in _ 7) W hW
 have hfh : (sha64 ((fileB (savVs n0 k)).take 64)).take 16 = (fileB (savVs n0 k)).drop 64 := by rw [fileB_body, fileB_hash]
 have hhl : (sha64 ((fileB (savVs n0 k)).take 64)).length = 32 := sha64_len _
 have hmg : (fileB (savVs n0 k)).take 8 = pMagic := fileB_magic _
 have hfl := fileB_len (savVs n0 k)
 have hfi := fileB_in (savVs n0 k)
 obtain ⟨fb, hfb⟩ : ∃ f, fileB (savVs n0 k) = f := ⟨_, rfl⟩
 rw [hfb] at h hat hsh hfh hhl hmg hfl hfi
 clear hfb he hn hint
 obtain ⟨sf, hsf⟩ : ∃ s, sha64 (fb.take 64) = s := ⟨_, rfl⟩
 rw [hsf] at hsh hfh hhl
 clear hsf
 obtain ⟨a, lo, hi, pp, le, re⟩ := k
 have A1 : Hid (∀ (gb : Nat) (W : World), Blk W gb 72 #[.slice (some ⟨g, 0, none⟩) 80 cap] → BySl W g 0 fb → Calls Tryz.prog 205 #[.int .i64 1, .pointer (some ⟨gb, 0, none⟩)] W (RB W (.int .i64 n0))) := Yh (fun gb W hB hW => hat 1 Yd Yd gb W hB hW)
 have A2 : Hid (∀ (gb : Nat) (W : World), Blk W gb 72 #[.slice (some ⟨g, 0, none⟩) 80 cap] → BySl W g 0 fb → Calls Tryz.prog 205 #[.int .i64 2, .pointer (some ⟨gb, 0, none⟩)] W (RB W (.int .i64 a))) := Yh (fun gb W hB hW => hat 2 Yd Yd gb W hB hW)
 have A3 : Hid (∀ (gb : Nat) (W : World), Blk W gb 72 #[.slice (some ⟨g, 0, none⟩) 80 cap] → BySl W g 0 fb → Calls Tryz.prog 205 #[.int .i64 3, .pointer (some ⟨gb, 0, none⟩)] W (RB W (.int .i64 lo))) := Yh (fun gb W hB hW => hat 3 Yd Yd gb W hB hW)
 have A4 : Hid (∀ (gb : Nat) (W : World), Blk W gb 72 #[.slice (some ⟨g, 0, none⟩) 80 cap] → BySl W g 0 fb → Calls Tryz.prog 205 #[.int .i64 4, .pointer (some ⟨gb, 0, none⟩)] W (RB W (.int .i64 hi))) := Yh (fun gb W hB hW => hat 4 Yd Yd gb W hB hW)
 have A5 : Hid (∀ (gb : Nat) (W : World), Blk W gb 72 #[.slice (some ⟨g, 0, none⟩) 80 cap] → BySl W g 0 fb → Calls Tryz.prog 205 #[.int .i64 5, .pointer (some ⟨gb, 0, none⟩)] W (RB W (.int .i64 pp))) := Yh (fun gb W hB hW => hat 5 Yd Yd gb W hB hW)
 have A6 : Hid (∀ (gb : Nat) (W : World), Blk W gb 72 #[.slice (some ⟨g, 0, none⟩) 80 cap] → BySl W g 0 fb → Calls Tryz.prog 205 #[.int .i64 6, .pointer (some ⟨gb, 0, none⟩)] W (RB W (.int .i64 le))) := Yh (fun gb W hB hW => hat 6 Yd Yd gb W hB hW)
 have A7 : Hid (∀ (gb : Nat) (W : World), Blk W gb 72 #[.slice (some ⟨g, 0, none⟩) 80 cap] → BySl W g 0 fb → Calls Tryz.prog 205 #[.int .i64 7, .pointer (some ⟨gb, 0, none⟩)] W (RB W (.int .i64 re))) := Yh (fun gb W hB hW => hat 7 Yd Yd gb W hB hW)
 clear hat
 have HF := Yh h; have HSH := Yh hsh; have HFH := Yh hfh; have HHL := Yh hhl; have HMG := Yh hmg; have HFL := Yh hfl; have HFI := Yh hfi; clear h hsh hfh hhl hmg hfl hfi
 have hcI : (80 : Int) ≤ (cap : Int) := by omega
 have hc64 : 64 ≤ cap := by omega
 have hc64I : (64 : Int) ≤ (cap : Int) := by omega
 have hne : ¬ cap = 64 := by omega
 have hc8 : 8 ≤ cap := by omega
 dsimp only
 go_enter Tryz.func173, Tryz.ntmps173
 go_upto_region 5 with fail
 obtain ⟨wA, hwA⟩ : ∃ x : World, x = (w.alloc (.cells #[.slice (some ⟨g, 0, none⟩) 80 cap] 72)).alloc (.cells #[.int .i64 0, .int .i64 0, .int .i64 0, .int .i64 0, .int .i64 0, .int .i64 0, .int .i64 0] 161) := ⟨_, rfl⟩
 have bB : Blk wA w.heap.size 72 #[.slice (some ⟨g, 0, none⟩) 80 cap] := by rw [hwA]; exact (Blk.new _ _ _).alloc _
 have bZ : Blk wA (w.heap.size + 1) 161 #[.int .i64 0, .int .i64 0, .int .i64 0, .int .i64 0, .int .i64 0, .int .i64 0, .int .i64 0] := by rw [hwA]; exact Blk.new1 _ _ _ _
 have SA : Below w.heap.size w wA := by rw [hwA]; exact Yc (below_new _ _) (below_new _ _)
 have ZA : w.heap.size + 2 ≤ wA.heap.size := by rw [hwA]; simp
 rw [← hwA]
 clear hwA
 have HFA := Yh (HF.out.below SA)
 have ek := bytes_str wA g 0 cap 8 (fb.take 8) (by rw [List.length_take, HFL.out]; rfl) (fun x hx => HFI.out x (List.mem_of_mem_take hx)) (HFA.out.head 8 (by rw [HFL.out]; decide))
 rw [HMG.out, magic_str] at ek
 obtain ⟨cB, fB, lB, eB, kB⟩ := Yf bB
 go_upto_region 7 with fail
 clear ek
 refine' wp_region_calm Yr (fun _ _ w' => Below wA.heap.size wA w' ∧ Blk w' w.heap.size 72 #[.slice (some ⟨g, 0, none⟩) 80 cap] ∧ Blk w' (w.heap.size + 1) 161 #[.int .i64 0, .int .i64 0, .int .i64 0, .int .i64 0, .int .i64 0, .int .i64 0, .int .i64 0]) (fun a b => Below a.heap.size a b) [Is _, Is _, (fun _ v w => ∃ g, v = .slice (some ⟨g, 0, none⟩) 16 16 ∧ BySl w g 0 (sf.take 16)), Is _, Is _, (Is (.bool true)), Is _, Is _] [[], [0], [1], [], [3], [2, 4], [5], [6]] [] [] rfl Yr Yp ?_ (Y1 (Y1 (kcc keep_bysl (Y1 (Y1 (Y1 (Y1 (Y1 Yn)))))))) ?_ ?_
 ·intro _
  exact ⟨Yl.drew, bB.drew, bZ.drew⟩
 rotate_left 6
 ·skip
  refine zq1 (fun _ _ _ _ _ ⟨_, hX, _⟩ => (Yq hX)) ?_
  refine zq0 ?_
  refine Yz (fun u wq n hn hn2 hC hk K hK => ?_) ?_
  ·obtain ⟨hP, hX, hZ⟩ := hC
   simp only [calmKnown, lg0, lg1, and_true, Is] at hk
   have h1 := hk; clear hk
   simp only [h1] at hK ⊢
   have H1 := Yh h1; clear h1
   go_wp2_with fail
   refine (HSH.out cap hc64 _ ((HFA.out.below hP).head 64 (by rw [HFL.out]; decide))).mono ?_
   rintro e w9 ⟨gS, rfl, hgS, hlS, hat, hbl⟩
   exact hK _ _ _ rfl ⟨Yc hbl hP, Yk hbl hX, Yk hbl hZ⟩ hbl ⟨gS, rfl, hat.sl.head 16 (by rw [HHL.out]; decide)⟩
  refine zq1 (fun _ _ _ _ _ ⟨_, hX, _⟩ => (Yq hX)) ?_
  refine zq0 ?_
  refine Yz (fun u wq n hn hn2 hC hk K hK => ?_) ?_
  ·obtain ⟨hP, hX, hZ⟩ := hC
   simp only [calmKnown, lg0, lg1, and_true, Is] at hk
   obtain ⟨⟨gS, h2, sS⟩, h4⟩ := hk
   simp only [h2, h4] at hK ⊢
   have H2 := Yh h2; clear h2; have H4 := Yh h4; clear h4
   go_wp2_with fail
   rw [HFH.out] at sS
   refine (bequal_any gS 0 16 g (0 + 64) (cap - 64) 16 (fb.drop 64) (by rw [List.length_drop, HFL.out]) (fun x hx => HFI.out x (List.mem_of_mem_drop hx)) _ sS ((HFA.out.below hP).tail 64 (by rw [HFL.out]; decide))).mono ?_
   rintro e w9 ⟨rfl, hbl⟩
   exact hK _ _ _ rfl ⟨Yc hbl hP, Yk hbl hX, Yk hbl hZ⟩ hbl rfl
  iterate 2 refine zq0 ?_
  exact Yw
 ·intro u w5 hC hF
  obtain ⟨hP, bX5, bZ5⟩ := hC
  simp only [calmFacts, Is, and_true, true_and] at hF
  obtain ⟨f_0, f_1, -, f_3, f_4, f_5, f_6, f_7⟩ := hF
  simp only [f_0, f_1, f_3, f_4, f_5, f_6, f_7]
  clear f_0 f_1 f_3 f_4 f_5 f_6 f_7 bB bZ cB fB lB eB kB
  have K5 := Yc hP SA; have Z5 := K5.size
  clear hP SA HFA HSH HFH HHL HMG HFL HFI
  have bB := bX5; have bZ := bZ5; clear bX5 bZ5
  obtain ⟨cB, fB, lB, eB, kB⟩ := Yf bB
  obtain ⟨cZ, fZ, lZ, eZ, kZ⟩ := Yf bZ
  go_wp2_with fail
  refine (A1.out _ _ bB (HF.out.below K5)).mono ?_
  rintro e w6 ⟨rfl, hb6⟩
  have K6 : Below w.heap.size w w6 := Yc hb6 bl1
  have Z6 := K6.size
  have bB' := Yk (g := w.heap.size) hb6 bn1
  (try simp only [lst, ls0, ls1] at bB')
  have bZ' := Yk (g := w.heap.size + 1) hb6 bn1
  (try simp only [lst, ls0, ls1] at bZ')
  clear hb6 K5
  clear bB cB fB lB eB kB; have bB := bB'; clear bB'
  clear bZ cZ fZ lZ eZ kZ; have bZ := bZ'; clear bZ'
  obtain ⟨cB, fB, lB, eB, kB⟩ := Yf bB
  obtain ⟨cZ, fZ, lZ, eZ, kZ⟩ := Yf bZ
  go_wp2_with fail
  refine (A2.out _ _ bB (HF.out.below K6)).mono ?_
  rintro e w7 ⟨rfl, hb7⟩
  have K7 : Below w.heap.size w w7 := Yc hb7 bl1
  have Z7 := K7.size
  have bB' := Yk (g := w.heap.size) hb7 bn1
  (try simp only [lst, ls0, ls1] at bB')
  have bZ' := Yk (g := w.heap.size + 1) hb7 bn1
  (try simp only [lst, ls0, ls1] at bZ')
  clear hb7 K6
  clear bB cB fB lB eB kB; have bB := bB'; clear bB'
  clear bZ cZ fZ lZ eZ kZ; have bZ := bZ'; clear bZ'
  obtain ⟨cB, fB, lB, eB, kB⟩ := Yf bB
  obtain ⟨cZ, fZ, lZ, eZ, kZ⟩ := Yf bZ
  go_wp2_with fail
  refine (A3.out _ _ bB (HF.out.below K7)).mono ?_
  rintro e w8 ⟨rfl, hb8⟩
  have K8 : Below w.heap.size w w8 := Yc hb8 bl1
  have Z8 := K8.size
  have bB' := Yk (g := w.heap.size) hb8 bn1
  (try simp only [lst, ls0, ls1] at bB')
  have bZ' := Yk (g := w.heap.size + 1) hb8 bn1
  (try simp only [lst, ls0, ls1] at bZ')
  clear hb8 K7
  clear bB cB fB lB eB kB; have bB := bB'; clear bB'
  clear bZ cZ fZ lZ eZ kZ; have bZ := bZ'; clear bZ'
  obtain ⟨cB, fB, lB, eB, kB⟩ := Yf bB
  obtain ⟨cZ, fZ, lZ, eZ, kZ⟩ := Yf bZ
  go_wp2_with fail
  refine (A4.out _ _ bB (HF.out.below K8)).mono ?_
  rintro e w9 ⟨rfl, hb9⟩
  have K9 : Below w.heap.size w w9 := Yc hb9 bl1
  have Z9 := K9.size
  have bB' := Yk (g := w.heap.size) hb9 bn1
  (try simp only [lst, ls0, ls1] at bB')
  have bZ' := Yk (g := w.heap.size + 1) hb9 bn1
  (try simp only [lst, ls0, ls1] at bZ')
  clear hb9 K8
  clear bB cB fB lB eB kB; have bB := bB'; clear bB'
  clear bZ cZ fZ lZ eZ kZ; have bZ := bZ'; clear bZ'
  obtain ⟨cB, fB, lB, eB, kB⟩ := Yf bB
  obtain ⟨cZ, fZ, lZ, eZ, kZ⟩ := Yf bZ
  go_wp2_with fail
  refine (A5.out _ _ bB (HF.out.below K9)).mono ?_
  rintro e w10 ⟨rfl, hb10⟩
  have K10 : Below w.heap.size w w10 := Yc hb10 bl1
  have Z10 := K10.size
  have bB' := Yk (g := w.heap.size) hb10 bn1
  (try simp only [lst, ls0, ls1] at bB')
  have bZ' := Yk (g := w.heap.size + 1) hb10 bn1
  (try simp only [lst, ls0, ls1] at bZ')
  clear hb10 K9
  clear bB cB fB lB eB kB; have bB := bB'; clear bB'
  clear bZ cZ fZ lZ eZ kZ; have bZ := bZ'; clear bZ'
  obtain ⟨cB, fB, lB, eB, kB⟩ := Yf bB
  obtain ⟨cZ, fZ, lZ, eZ, kZ⟩ := Yf bZ
  go_wp2_with fail
  refine (A6.out _ _ bB (HF.out.below K10)).mono ?_
  rintro e w11 ⟨rfl, hb11⟩
  have K11 : Below w.heap.size w w11 := Yc hb11 bl1
  have Z11 := K11.size
  have bB' := Yk (g := w.heap.size) hb11 bn1
  (try simp only [lst, ls0, ls1] at bB')
  have bZ' := Yk (g := w.heap.size + 1) hb11 bn1
  (try simp only [lst, ls0, ls1] at bZ')
  clear hb11 K10
  clear bB cB fB lB eB kB; have bB := bB'; clear bB'
  clear bZ cZ fZ lZ eZ kZ; have bZ := bZ'; clear bZ'
  obtain ⟨cB, fB, lB, eB, kB⟩ := Yf bB
  obtain ⟨cZ, fZ, lZ, eZ, kZ⟩ := Yf bZ
  go_wp2_with fail
  refine (A7.out _ _ bB (HF.out.below K11)).mono ?_
  rintro e w12 ⟨rfl, hb12⟩
  have K12 : Below w.heap.size w w12 := Yc hb12 bl1
  have Z12 := K12.size
  have bB' := Yk (g := w.heap.size) hb12 bn1
  (try simp only [lst, ls0, ls1] at bB')
  have bZ' := Yk (g := w.heap.size + 1) hb12 bn1
  (try simp only [lst, ls0, ls1] at bZ')
  clear hb12 K11
  clear bB cB fB lB eB kB; have bB := bB'; clear bB'
  clear bZ cZ fZ lZ eZ kZ; have bZ := bZ'; clear bZ'
  obtain ⟨cB, fB, lB, eB, kB⟩ := Yf bB
  obtain ⟨cZ, fZ, lZ, eZ, kZ⟩ := Yf bZ
  go_wp2_with fail
  refine (R.out _).mono ?_
  rintro e w13 ⟨rfl, hb13⟩
  have K13 : Below w.heap.size w w13 := Yc hb13 bl1
  have Z13 := K13.size
  have bB' := Yk (g := w.heap.size) hb13 bn1
  (try simp only [lst, ls0, ls1] at bB')
  have bZ' := Yk (g := w.heap.size + 1) hb13 bn1
  (try simp only [lst, ls0, ls1] at bZ')
  have b13_0 := Yk (g := w12.heap.size) hb13 bn0
  (try simp only [lst, ls0, ls1] at b13_0)
  clear hb13 K12
  clear bB cB fB lB eB kB; have bB := bB'; clear bB'
  clear bZ cZ fZ lZ eZ kZ; have bZ := bZ'; clear bZ'
  obtain ⟨cB, fB, lB, eB, kB⟩ := Yf bB
  obtain ⟨cZ, fZ, lZ, eZ, kZ⟩ := Yf bZ
  obtain ⟨c13_0, f13_0, l13_0, e13_0, k13_0⟩ := Yf b13_0
  have o13_0 := l13_0
  go_wp2
  exact Yb (v := .tuple #[.agg #[.int .i64 n0, .int .i64 a, .int .i64 lo, .int .i64 hi, .int .i64 pp, .int .i64 le, .int .i64 re], .int .i64 0]) (by simp [results, Tryz.results173, go_sem, *]) rfl ⟨rfl, bl1⟩
end Go.Proofs.YtiinmhfolfgobaaGreatDoor
namespace Go.Proofs.YtiinmhfolfgobaaGreatDoor
open Go.RowKit Go.Lib Go.Shelf Go.Sort
set_option maxHeartbeats 32000000
set_option maxRecDepth 100000
def WaRel (w : World) (l : List Kw) (gT : Nat) (tc : Array Value) (gZ : Nat) (zc : Array Value) (G : Nat) (i : Value) (wr : World) : Prop := ∃ q : Nat, q ≤ l.length ∧ G = l.length - q ∧ i = .int .i64 q ∧ firstK l = firstK (l.drop q) ∧ Blk wr gT 40 tc ∧ Blk wr gZ 44 zc ∧ Below w.heap.size w wr
theorem firstK_drop {l : List Kw} {q : Nat} (h : q < l.length) : firstK (l.drop q) = if (l.getD q (false, .zero)).1 then some (l.getD q (false, .zero)).2 else firstK (l.drop (q + 1)) := by
 have e : l.drop q = l.getD q (false, .zero) :: l.drop (q + 1) := by
  rw [List.drop_eq_getElem_cons h, Y8, Y9 h]; rfl
 rw [e]
 rcases l.getD q (false, .zero) with ⟨b, k⟩
 cases b <;> rfl
def ppO : Option K6 → Int
 | none => 0
 | some k => k.pp
theorem wake_bad {k : K6} {n0 n1 n2 : Int} (h : pE n0 k ≠ 0) : wakeT k n0 n1 n2 = (0, 0, pE n0 k) := by
 unfold pE at h ⊢
 unfold wakeT
 split
 ·rename_i h1
  rw [if_pos h1] at h
  by_cases h2 : 0 ≤ n0
  ·rw [if_pos h2] at h; exact absurd rfl h
  ·rw [if_neg h2, if_neg h2]
 ·rename_i h1; rfl
theorem wkV_bad (pp e : Int) (h : e ≠ 0) : wkV pp (0, 0, e) = .tuple #[.agg #[.int .i64 0, .int .i64 0, .int .i64 0, .int .i64 0, .int .i64 0, .int .i64 0], .int .i64 e] := by unfold wkV; rw [if_neg h]
theorem wake_any (B g : Nat) (b : Bn) (n0 n1 n2 : Int) (w : World) (h : BnAt B w g b) (hs : b.srcs.length ≤ 64) (v0 : vT n0 = true) :
  Calls Tryz.prog 138 #[.pointer (some ⟨g, 0, none⟩), .int .i64 n0, .agg #[.int .i64 n1, .int .i64 n2]] w (RB w (wkV (ppO (firstK b.srcs)) (wakeO (firstK b.srcs) n0 n1 n2))) := by
 obtain ⟨hB, VL, pp9, v, e1, ⟨AV, rfl, e2⟩, e3, e4⟩ := h
 obtain ⟨be, l, li, pq, ck, ou⟩ := b
 dsimp only at e1 e2 hs ⊢
 have HP := Yh e1; have HS := Yh e2
 have hgl := e1.lt
 clear e1 e2 e3 e4
 go_enter Tryz.func138, Tryz.ntmps138
 obtain ⟨wA, hwA⟩ : ∃ x : World, x = (w.alloc (.cells #[.int .i64 n1, .int .i64 n2] 40)).alloc (.cells #[.int .i64 0, .int .i64 0, .int .i64 0, .int .i64 0, .int .i64 0, .int .i64 0] 44) := ⟨_, rfl⟩
 have KA : Below w.heap.size w wA := by rw [hwA]; exact Yc (below_new _ _) (below_new _ _)
 have bT : Blk wA w.heap.size 40 #[.int .i64 n1, .int .i64 n2] := by rw [hwA]; exact (Blk.new _ _ _).alloc _
 have bZ : Blk wA (w.heap.size + 1) 44 #[.int .i64 0, .int .i64 0, .int .i64 0, .int .i64 0, .int .i64 0, .int .i64 0] := by rw [hwA]; exact Blk.new1 _ _ _ _
 have bP := Yk KA HP.out
 have cP : ∀ i, wA.cell? ⟨g, i, none⟩ = _ := bP.cell
 have ZA : w.heap.size + 2 ≤ wA.heap.size := by rw [hwA]; simp
 unfold bnC at cP
 dsimp only at cP
 go_upto_region 1 with fail
 rw [← hwA]
 clear hwA
 have HKA := Yh KA; have HP1 := Yh bP
 clear HP KA
 go_wp2
 clear cP bP
 go_loopg [18] l.length (fun G i wr => WaRel wA l w.heap.size #[.int .i64 n1, .int .i64 n2] (w.heap.size + 1) #[.int .i64 0, .int .i64 0, .int .i64 0, .int .i64 0, .int .i64 0, .int .i64 0] G i wr)
 case atStart => exact ⟨0, Yo, Yo, rfl, by rw [List.drop_zero], bT, bZ, Below.refl _ _⟩
 case round =>
  obtain ⟨q, hq, rfl, rfl, hfk, bT2, bZ2, KR⟩ := hrel
  clear bT bZ
  have ZR := KR.size
  have HFK := Yh hfk; have HKR := Yh KR; clear hfk
  by_cases hlt : q < l.length
  ·have gp : decide ((q : Int) < (l.length : Int)) = true := Y2
   have gpn : decide (q < l.length) = true := decide_eq_true hlt
   have wp : IntKind.i64.wrap ((q : Int) + 1) = ((q + 1 : Nat) : Int) := Y4
   obtain ⟨gs, cur, rfl, hgs, hSb, hSc⟩ := HS.out Yo
   have bS := Yk KR (Yk HKA.out hSb)
   have lS := bS.lt
   have hst := firstK_drop hlt
   have hcs := hSc.2 q hlt
   have d0 := (bS.cell (q * 7)).trans (hcs 0 Yo)
   have d1 := (bS.cell (q * 7 + 1)).trans (hcs 1 Yo)
   have d2 := (bS.cell (q * 7 + 2)).trans (hcs 2 Yo)
   have d3 := (bS.cell (q * 7 + 3)).trans (hcs 3 Yo)
   have d4 := (bS.cell (q * 7 + 4)).trans (hcs 4 Yo)
   have d5 := (bS.cell (q * 7 + 5)).trans (hcs 5 Yo)
   have d6 := (bS.cell (q * 7 + 6)).trans (hcs 6 Yo)
   obtain ⟨kv, hkv⟩ : ∃ kv, l.getD q (false, .zero) = kv := ⟨_, rfl⟩
   rw [hkv] at d0 d1 d2 d3 d4 d5 d6 hst
   clear hkv hcs hSc hSb
   obtain ⟨bb, na, nlo, nhi, np, nle, nre⟩ := kv
   simp only [kwC, K6.cs, lg0, lg1] at d0 d1 d2 d3 d4 d5 d6
   dsimp only at hst
   have HST := Yh hst; clear hst bS KR
   obtain ⟨cT, fT, lT, eT, kT⟩ := Yf bT2
   obtain ⟨cZ, fZ, lZ, eZ, kZ⟩ := Yf bZ2
   cases bb with
   | false =>
    have HFK2 := Yh (HFK.out.trans (HST.out.trans Ys) : firstK l = firstK (l.drop (q + 1)))
    clear HST HFK
    go_wp2
    go_roundg (l.length - (q + 1))
    case measure => omega
    case rel => exact ⟨q + 1, Yo, Yo, by go_num, HFK2.out, Yk (show Below wr.heap.size wr _ from bl0) bT2, Yk (show Below wr.heap.size wr _ from bl0) bZ2, (Yc (show Below wr.heap.size wr _ from bl0) HKR.out)⟩
   | true =>
    have hk : firstK l = some ⟨na, nlo, nhi, np, nle, nre⟩ := HFK.out.trans (HST.out.trans Ys)
    have HKK := Yh hk
    clear HST HFK hk
    have HKW : Hid (Below w.heap.size w wr) := Yh (Yc HKR.out HKA.out)
    clear HKR HKA HS HP1
    clear cT fT lT eT kT cZ fZ lZ eZ kZ
    go_upto_region 5 with fail
    obtain ⟨w4, hw4⟩ : ∃ x : World, x = wr.alloc (.cells #[.bool true, .int .i64 na, .int .i64 nlo, .int .i64 nhi, .int .i64 np, .int .i64 nle, .int .i64 nre] 170) := ⟨_, rfl⟩
    have S4 : Below wr.heap.size wr w4 := by rw [hw4]; exact below_new _ _
    have bR : Blk w4 wr.heap.size 170 #[.bool true, .int .i64 na, .int .i64 nlo, .int .i64 nhi, .int .i64 np, .int .i64 nle, .int .i64 nre] := by rw [hw4]; exact Blk.new _ _ _
    rw [← hw4]
    have bT := bT2.below S4; have bZ := bZ2.below S4
    have K4 := Yc S4 HKW.out; have Z4 := S4.size
    clear hw4 S4 bT2 bZ2 HKW d0 d1 d2 d3 d4 d5 d6
    have lR0 := bR.lt
    obtain ⟨pe, hpe⟩ : ∃ e, pE n0 ⟨na, nlo, nhi, np, nle, nre⟩ = e := ⟨_, rfl⟩
    by_cases hp0 : pe = 0
    rotate_left
    ·have rs := fun W => psave_err n0 ⟨na, nlo, nhi, np, nle, nre⟩ v0 (by rw [hpe]; exact hp0) W
     rw [hpe] at rs
     have HV := Yh (show wkV (ppO (firstK l)) (wakeO (firstK l) n0 n1 n2) = .tuple #[.agg #[.int .i64 0, .int .i64 0, .int .i64 0, .int .i64 0, .int .i64 0, .int .i64 0], .int .i64 pe] from by rw [HKK.out]; show wkV np (wakeT ⟨na, nlo, nhi, np, nle, nre⟩ n0 n1 n2) = _; rw [wake_bad (by rw [hpe]; exact hp0), hpe, wkV_bad _ _ hp0])
     have RS := Yh rs
     have g1 : (pe == 0) = false := by simpa using hp0
     have g2 : (pe != 0) = true := by simpa using hp0
     have g3 : decide (pe = 0) = false := decide_eq_false hp0
     clear rs hpe
     obtain ⟨cT, fT, lT, eT, kT⟩ := Yf bT
     obtain ⟨cZ, fZ, lZ, eZ, kZ⟩ := Yf bZ
     obtain ⟨cR, fR, lR, eR, kR⟩ := Yf bR
     go_wp2_with fail
     refine (RS.out _).mono ?_
     rintro e w5 ⟨rfl, hb5⟩
     have K5 : Below w.heap.size w w5 := Yc hb5 bl1
     have Z5 := K5.size
     have bT' := Yk (g := w.heap.size) hb5 bn1
     (try simp only [lst, ls0, ls1] at bT')
     have bZ' := Yk (g := w.heap.size + 1) hb5 bn1
     (try simp only [lst, ls0, ls1] at bZ')
     have bR' := Yk (g := wr.heap.size) hb5 bn1
     (try simp only [lst, ls0, ls1] at bR')
     clear hb5 K4
     clear bT cT fT lT eT kT; have bT := bT'; clear bT'
     clear bZ cZ fZ lZ eZ kZ; have bZ := bZ'; clear bZ'
     clear bR cR fR lR eR kR; have bR := bR'; clear bR'
     obtain ⟨cT, fT, lT, eT, kT⟩ := Yf bT
     obtain ⟨cZ, fZ, lZ, eZ, kZ⟩ := Yf bZ
     obtain ⟨cR, fR, lR, eR, kR⟩ := Yf bR
     go_wp2
     exact Yb (v := .tuple #[.agg #[.int .i64 0, .int .i64 0, .int .i64 0, .int .i64 0, .int .i64 0, .int .i64 0], .int .i64 pe]) (by simp [results, Tryz.results138, go_sem, *]) rfl ⟨(by rw [HV.out]), bl1⟩
    have hp1 : pE n0 ⟨na, nlo, nhi, np, nle, nre⟩ = 0 := hpe.trans hp0
    obtain ⟨hk1, hk2⟩ := pE_0 hp1
    have RS := Yh (fun W => psave_ok n0 ⟨na, nlo, nhi, np, nle, nre⟩ v0 hp1 W)
    have RL := Yh (fun gf c h W hW => pload_ok gf c n0 ⟨na, nlo, nhi, np, nle, nre⟩ h v0 hp1 W hW)
    have RW9 := Yh (fun W => pwake_any n0 n1 n2 ⟨na, nlo, nhi, np, nle, nre⟩ hk1 hk2 W)
    clear hpe hp0 hp1 hk1 hk2
    obtain ⟨wr9, hwr⟩ : ∃ r, wakeT ⟨na, nlo, nhi, np, nle, nre⟩ n0 n1 n2 = r := ⟨_, rfl⟩
    rw [hwr] at RW9
    have HV := Yh (show wkV (ppO (firstK l)) (wakeO (firstK l) n0 n1 n2) = wkV np wr9 from by rw [HKK.out, ← hwr]; rfl)
    clear hwr
    obtain ⟨rx, ry, re9⟩ := wr9
    dsimp only at RW9
    obtain ⟨cT, fT, lT, eT, kT⟩ := Yf bT
    obtain ⟨cZ, fZ, lZ, eZ, kZ⟩ := Yf bZ
    obtain ⟨cR, fR, lR, eR, kR⟩ := Yf bR
    go_wp2_with fail
    refine (RS.out _).mono ?_
    rintro e w5 ⟨gf, cf, rfl, hcf, hgf, hfb, hb5⟩
    have HFB := Yh hfb; clear hfb
    have K5 : Below w.heap.size w w5 := Yc hb5 bl1
    have Z5 := K5.size
    have bT' := Yk (g := w.heap.size) hb5 bn1
    (try simp only [lst, ls0, ls1] at bT')
    have bZ' := Yk (g := w.heap.size + 1) hb5 bn1
    (try simp only [lst, ls0, ls1] at bZ')
    have bR' := Yk (g := wr.heap.size) hb5 bn1
    (try simp only [lst, ls0, ls1] at bR')
    clear hb5 K4
    clear bT cT fT lT eT kT; have bT := bT'; clear bT'
    clear bZ cZ fZ lZ eZ kZ; have bZ := bZ'; clear bZ'
    clear bR cR fR lR eR kR; have bR := bR'; clear bR'
    obtain ⟨cT, fT, lT, eT, kT⟩ := Yf bT
    obtain ⟨cZ, fZ, lZ, eZ, kZ⟩ := Yf bZ
    obtain ⟨cR, fR, lR, eR, kR⟩ := Yf bR
    go_wp2_with fail
    refine (RL.out gf cf hcf _ (HFB.out.below bl0)).mono ?_
    rintro e w6 ⟨rfl, hb6⟩
    have K6 : Below w.heap.size w w6 := Yc hb6 bl1
    have Z6 := K6.size
    have bT' := Yk (g := w.heap.size) hb6 bn1
    (try simp only [lst, ls0, ls1] at bT')
    have bZ' := Yk (g := w.heap.size + 1) hb6 bn1
    (try simp only [lst, ls0, ls1] at bZ')
    have bR' := Yk (g := wr.heap.size) hb6 bn1
    (try simp only [lst, ls0, ls1] at bR')
    clear hb6 K5
    clear bT cT fT lT eT kT; have bT := bT'; clear bT'
    clear bZ cZ fZ lZ eZ kZ; have bZ := bZ'; clear bZ'
    clear bR cR fR lR eR kR; have bR := bR'; clear bR'
    obtain ⟨cT, fT, lT, eT, kT⟩ := Yf bT
    obtain ⟨cZ, fZ, lZ, eZ, kZ⟩ := Yf bZ
    obtain ⟨cR, fR, lR, eR, kR⟩ := Yf bR
    clear HFB RS RL
    by_cases hre : re9 = 0
    ·subst hre
     have hv0 : wkV np (rx, ry, 0) = .tuple #[.agg #[.int .i64 0, .int .i64 rx, .int .i64 ry, .int .i64 np, .int .i64 0, .int .i64 0], .int .i64 0] := by unfold wkV; rw [if_pos rfl]
     rw [hv0] at RW9
     have HV2 := Yh (HV.out.trans hv0)
     clear hv0 HV
     go_wp2_with fail
     refine (RW9.out _).mono ?_
     rintro e w7 ⟨rfl, hb7⟩
     have K7 : Below w.heap.size w w7 := Yc hb7 bl1
     have Z7 := K7.size
     have bT' := Yk (g := w.heap.size) hb7 bn1
     (try simp only [lst, ls0, ls1] at bT')
     have bZ' := Yk (g := w.heap.size + 1) hb7 bn1
     (try simp only [lst, ls0, ls1] at bZ')
     have bR' := Yk (g := wr.heap.size) hb7 bn1
     (try simp only [lst, ls0, ls1] at bR')
     have b7_0 := Yk (g := w6.heap.size) hb7 bn0
     (try simp only [lst, ls0, ls1] at b7_0)
     clear hb7 K6
     clear bT cT fT lT eT kT; have bT := bT'; clear bT'
     clear bZ cZ fZ lZ eZ kZ; have bZ := bZ'; clear bZ'
     clear bR cR fR lR eR kR; have bR := bR'; clear bR'
     obtain ⟨cT, fT, lT, eT, kT⟩ := Yf bT
     obtain ⟨cZ, fZ, lZ, eZ, kZ⟩ := Yf bZ
     obtain ⟨cR, fR, lR, eR, kR⟩ := Yf bR
     obtain ⟨c7_0, f7_0, l7_0, e7_0, k7_0⟩ := Yf b7_0
     have o7_0 := l7_0
     go_wp2
     exact Yb (v := .tuple #[.agg #[.int .i64 0, .int .i64 rx, .int .i64 ry, .int .i64 np, .int .i64 0, .int .i64 0], .int .i64 0]) (by simp [results, Tryz.results138, go_sem, *]) rfl ⟨(by rw [HV2.out]), bl1⟩
    ·have hv0 : wkV np (rx, ry, re9) = .tuple #[.agg #[.int .i64 0, .int .i64 0, .int .i64 0, .int .i64 0, .int .i64 0, .int .i64 0], .int .i64 re9] := by unfold wkV; rw [if_neg hre]
     rw [hv0] at RW9
     have HV2 := Yh (HV.out.trans hv0)
     clear hv0 HV
     go_wp2_with fail
     refine (RW9.out _).mono ?_
     rintro e w7 ⟨rfl, hb7⟩
     have K7 : Below w.heap.size w w7 := Yc hb7 bl1
     have Z7 := K7.size
     have bT' := Yk (g := w.heap.size) hb7 bn1
     (try simp only [lst, ls0, ls1] at bT')
     have bZ' := Yk (g := w.heap.size + 1) hb7 bn1
     (try simp only [lst, ls0, ls1] at bZ')
     have bR' := Yk (g := wr.heap.size) hb7 bn1
     (try simp only [lst, ls0, ls1] at bR')
     have b7_0 := Yk (g := w6.heap.size) hb7 bn0
     (try simp only [lst, ls0, ls1] at b7_0)
     clear hb7 K6
     clear bT cT fT lT eT kT; have bT := bT'; clear bT'
     clear bZ cZ fZ lZ eZ kZ; have bZ := bZ'; clear bZ'
     clear bR cR fR lR eR kR; have bR := bR'; clear bR'
     obtain ⟨cT, fT, lT, eT, kT⟩ := Yf bT
     obtain ⟨cZ, fZ, lZ, eZ, kZ⟩ := Yf bZ
     obtain ⟨cR, fR, lR, eR, kR⟩ := Yf bR
     obtain ⟨c7_0, f7_0, l7_0, e7_0, k7_0⟩ := Yf b7_0
     have o7_0 := l7_0
     go_wp2
     exact Yb (v := .tuple #[.agg #[.int .i64 0, .int .i64 0, .int .i64 0, .int .i64 0, .int .i64 0, .int .i64 0], .int .i64 re9]) (by simp [results, Tryz.results138, go_sem, *]) rfl ⟨(by rw [HV2.out]), bl1⟩
  ·obtain rfl : q = l.length := by omega
   have gp : decide ((l.length : Int) < (l.length : Int)) = false := Y3
   have gpn : decide (l.length < l.length) = false := Y3
   have hk : firstK l = none := HFK.out.trans (by rw [List.drop_length]; rfl)
   have HV := Yh (show wkV (ppO (firstK l)) (wakeO (firstK l) n0 n1 n2) = .tuple #[.agg #[.int .i64 0, .int .i64 0, .int .i64 0, .int .i64 0, .int .i64 0, .int .i64 0], .int .i64 10] from by rw [hk]; exact wkV_bad 0 10 Yd)
   have HKW : Hid (Below w.heap.size w wr) := Yh (Yc HKR.out HKA.out)
   clear HFK hk KR HS HP1 HKR HKA
   obtain ⟨cZ, fZ, lZ, eZ, kZ⟩ := Yf bZ2
   go_wp2
   exact Yb (v := .tuple #[.agg #[.int .i64 0, .int .i64 0, .int .i64 0, .int .i64 0, .int .i64 0, .int .i64 0], .int .i64 10]) (by simp [results, Tryz.results138, go_sem, *]) rfl ⟨(by rw [HV.out]), (by (repeat' (first | (with_reducible exact HKW.out) | (with_reducible refine Below.setCell ?_ ?_ _) | (with_reducible refine Below.alloc ?_ ?_ _) | (with_reducible refine Below.drew ?_))) <;> (first | omega | (simp <;> omega)))⟩
theorem save_ok : SaveOk svB := by
 intro B g b A cap n0 n1 n2 w h hn v0 v1 v2 hpow hl hs
 have hbo := wakeO_b (firstK b.srcs) n0 n1 n2
 have RK := Yh (fun W hW => wake_any B g b n0 n1 n2 W hW hs v0)
 obtain ⟨gA, rfl, hgA, hcA⟩ := hn.cell 0 Yo
 have d0 := hcA 0 Yo; have d1 := hcA 1 Yo; have d2 := hcA 2 Yo
 simp only [ld0, ld1] at d0 d1 d2
 show Calls _ _ _ _ (LnR B g w (b.wokeT (wakeO (firstK b.srcs) n0 n1 n2)))
 obtain ⟨r9, hr9⟩ : ∃ r, wakeO (firstK b.srcs) n0 n1 n2 = r := ⟨_, rfl⟩
 obtain ⟨pp, hpp⟩ : ∃ p, ppO (firstK b.srcs) = p := ⟨_, rfl⟩
 rw [hr9] at hbo RK ⊢
 rw [hpp] at RK
 clear hr9 hpp hcA hn v0 v1 v2
 obtain ⟨x, y, er⟩ := r9
 obtain ⟨hbe, hbx, hby⟩ := hbo
 dsimp only at hbe hbx hby
 have HH := Yh h; have HPW := Yh hpow; have HBE := Yh hbe; have HBX := Yh hbx; have HBY := Yh hby; clear h hpow hbe hbx hby
 by_cases her : er = 0
 ·subst her
  have hr : b.wokeT (x, y, 0) = (b.say wWake [x, y], 0) := rfl
  have hv : wkV pp (x, y, 0) = .tuple #[.agg #[.int .i64 0, .int .i64 x, .int .i64 y, .int .i64 pp, .int .i64 0, .int .i64 0], .int .i64 0] := by unfold wkV; rw [if_pos rfl]
  rw [hr]
  rw [hv] at RK
  clear hr hv
  go_enter Tryz.func99, Tryz.ntmps99
  go_upto_region 1 with fail
  refine' wp_region_calmD Yr (fun D u9 w' => Past [] w w' ∧ NewD w.heap.size 44 #[.int .i64 0, .int .i64 0, .int .i64 0, .int .i64 0, .int .i64 0, .int .i64 0] #[.int .i64 0, .int .i64 x, .int .i64 y, .int .i64 pp, .int .i64 0, .int .i64 0] (D 15) (D 16) (u9 15) w' ∧ w.heap.size ≤ w'.heap.size) (fun _ _ => True) [Is _, Is _, Is _, Is _, Is _, Is _, Is _, Is _, Is _, Is _, Is _, Is _, Is _, Is _, Is _, (fun _ _ _ => True), (fun _ _ _ => True), Is _] [[], [], [1], [2], [], [4], [5], [], [7], [8], [6, 9], [0, 3, 10], [11], [12], [12], [], [15, 13], [14]] rfl (calmB_of Yr) Yp ?_ (Y1 (Y1 (Y1 (Y1 (Y1 (Y1 (Y1 (Y1 (Y1 (Y1 (Y1 (Y1 (Y1 (Y1 (Y1 (Y0 (Y0 (Y1 Yn)))))))))))))))))) ?_ ?_
  ·exact ⟨pa1, NewD.start _, (by first | exact Nat.le_refl _ | omega | (simp <;> omega))⟩
  rotate_left 16
  ·skip
   iterate 3 refine zq2 ?_
   iterate 7 refine zq3 (fun _ _ _ _ _ _ ⟨hP, _⟩ => Ya (Past.cell hP Ys d0) (Ya (Past.cell hP Ys d1) (Past.cell hP Ys d2))) ?_
   refine zq2 ?_
   refine dc1 (fun uu wq D hC hk K hK => ?_) ?_
   ·obtain ⟨hP, nY, hZ⟩ := hC
    simp only [calmKnown, lg0, lg1, and_true, Is] at hk
    obtain ⟨h0, h3, h10⟩ := hk
    simp only [h0, h3, h10] at hK ⊢
    have H0 := Yh h0; clear h0; have H3 := Yh h3; clear h3; have H10 := Yh h10; clear h10
    first
     | (refine' calm_op ?_ ?_; rfl; go_simp; (first | (with_reducible refine (RK.out _ (HH.out.below (Past.toBelow hP))).mono ?_)); rintro e w2 ⟨rfl, hbl⟩; exact hK _ _ _ rfl ⟨hP.call hbl, nY.below hbl, Nat.le_trans hZ hbl.size⟩ trivial rfl)
     | (go_simp; exact hK _ _ _ rfl ⟨hP, nY, hZ⟩ trivial rfl)
   iterate 3 refine zq2 ?_
   refine dc2 (fun uu wq D hd hn hn2 hC hk K hK => ?_) ?_
   ·obtain ⟨hP, nY, hZ⟩ := hC
    clear hk
    have d16 := hn.out 16 Yr
    go_simp
    exact hK _ _ _ rfl ⟨hP.allocs _, NewD.made hZ d16, Nat.le_trans hZ Ys⟩ trivial trivial
   refine dc2 (fun uu wq D hd hn hn2 hC hk K hK => ?_) ?_
   ·obtain ⟨hP, nY, hZ⟩ := hC
    simp only [calmKnown, lg0, lg1, and_true, Is] at hk
    obtain ⟨-, h13⟩ := hk
    simp only [h13] at hK ⊢
    have H13 := Yh h13; clear h13
    have da : D 15 = true := hn2.out 15 Yr
    obtain ⟨gn, hgn, gb, gl, hB⟩ := nY.one da hd
    simp only [hgn] at hK ⊢
    have hc9 := hB.cell; have hf9 := hB.frozen
    have hB2 := setAll_blk [.int .i64 0, .int .i64 x, .int .i64 y, .int .i64 pp, .int .i64 0, .int .i64 0] 0 wq _ hB
    simp only [setArr, lst, ls0, ls1, Nat.zero_add, Nat.reduceAdd] at hB2
    go_simp
    exact hK _ undef (setAll wq gn 0 [.int .i64 0, .int .i64 x, .int .i64 y, .int .i64 pp, .int .i64 0, .int .i64 0]) rfl ⟨(setAll_past gb [.int .i64 0, .int .i64 x, .int .i64 y, .int .i64 pp, .int .i64 0, .int .i64 0] 0 wq hP), (show NewD _ _ _ _ (D 15) true (uu 15) _ from by rw [hgn]; exact NewD.stored gb hB2), (by rw [setAll_size]; exact hZ)⟩ trivial trivial
   refine zq2 ?_
   exact dSteps_nil
  ·intro uu v1 D hD hC hF
   obtain ⟨hP, nY, hZ⟩ := hC
   simp only [calmFacts, Is, and_true, true_and] at hF
   obtain ⟨f0, f1, f2, f3, f4, f5, f6, f7, f8, f9, f10, f11, f12, f13, f14, f17⟩ := hF
   simp only [f0, f1, f2, f3, f4, f5, f6, f7, f8, f9, f10, f11, f12, f13, f14, f17]
   obtain ⟨gY, e9Y, gbY, glY, bY'⟩ := nY.last (hD 15 Yd) (hD 16 Yd)
   simp only [e9Y]
   clear e9Y
   have hq := hP; clear hP
   have Kv1 : Past [] w v1 := Past.trans (Past.refl _ _) hq
   have Zv1 := hZ; clear hZ
   clear hq
   clear nY hD
   have bY := bY'; clear bY'
   obtain ⟨cY, fY, lY, eY, kY⟩ := Yf bY
   have oY := lY
   have KB : Below w.heap.size w v1 := Past.toBelow pa1
   have H1 := Yh (HH.out.below KB); have P1 := Yh (HPW.out.below KB); have HKB := Yh KB
   clear KB
   go_wp2_with fail
   refine (told_0 g _).mono ?_
   rintro e w2 ⟨rfl, hw2⟩
   rw [hw2]; clear hw2
   go_wp2_with fail
   refine (say_any B g b ⟨#[119, 97, 107, 101]⟩ _ 2 2 [x, y] _ (H1.out.below bl0) (NumsR.newE [x, y] (by first | rfl | (simp; done))) (fun n hn => by simp at hn; rcases hn with rfl | rfl; exact HBX.out; exact HBY.out) (P1.out.below bl0) (by show _ + 4 + 22 * 2 + 1 ≤ _; omega)).mono ?_
   rintro e w3 ⟨rfl, h3, hT3⟩
   go_wp2
   go_ret
   exact ⟨rfl, h3, ((PastT.below (show Below w.heap.size w _ from Yc (show Below v1.heap.size v1 _ from bl0) HKB.out)).trans hT3).three⟩
 ·have g1 : (er == 0) = false := by simpa using her
  have g2 : decide (er = 0) = false := by simpa using her
  have hr : b.wokeT (x, y, er) = (b.say wError [er], 0) := if_neg her
  have hv : wkV pp (x, y, er) = .tuple #[.agg #[.int .i64 0, .int .i64 0, .int .i64 0, .int .i64 0, .int .i64 0, .int .i64 0], .int .i64 er] := by unfold wkV; rw [if_neg her]
  rw [hr]
  rw [hv] at RK
  clear hr hv
  go_enter Tryz.func99, Tryz.ntmps99
  go_upto_region 1 with fail
  refine' wp_region_calmD Yr (fun D u9 w' => Past [] w w' ∧ NewD w.heap.size 44 #[.int .i64 0, .int .i64 0, .int .i64 0, .int .i64 0, .int .i64 0, .int .i64 0] #[.int .i64 0, .int .i64 0, .int .i64 0, .int .i64 0, .int .i64 0, .int .i64 0] (D 15) (D 16) (u9 15) w' ∧ w.heap.size ≤ w'.heap.size) (fun _ _ => True) [Is _, Is _, Is _, Is _, Is _, Is _, Is _, Is _, Is _, Is _, Is _, Is _, Is _, Is _, Is _, (fun _ _ _ => True), (fun _ _ _ => True), Is _] [[], [], [1], [2], [], [4], [5], [], [7], [8], [6, 9], [0, 3, 10], [11], [12], [12], [], [15, 13], [14]] rfl (calmB_of Yr) Yp ?_ (Y1 (Y1 (Y1 (Y1 (Y1 (Y1 (Y1 (Y1 (Y1 (Y1 (Y1 (Y1 (Y1 (Y1 (Y1 (Y0 (Y0 (Y1 Yn)))))))))))))))))) ?_ ?_
  ·exact ⟨pa1, NewD.start _, (by first | exact Nat.le_refl _ | omega | (simp <;> omega))⟩
  rotate_left 16
  ·skip
   iterate 3 refine zq2 ?_
   iterate 7 refine zq3 (fun _ _ _ _ _ _ ⟨hP, _⟩ => Ya (Past.cell hP Ys d0) (Ya (Past.cell hP Ys d1) (Past.cell hP Ys d2))) ?_
   refine zq2 ?_
   refine dc1 (fun uu wq D hC hk K hK => ?_) ?_
   ·obtain ⟨hP, nY, hZ⟩ := hC
    simp only [calmKnown, lg0, lg1, and_true, Is] at hk
    obtain ⟨h0, h3, h10⟩ := hk
    simp only [h0, h3, h10] at hK ⊢
    have H0 := Yh h0; clear h0; have H3 := Yh h3; clear h3; have H10 := Yh h10; clear h10
    first
     | (refine' calm_op ?_ ?_; rfl; go_simp; (first | (with_reducible refine (RK.out _ (HH.out.below (Past.toBelow hP))).mono ?_)); rintro e w2 ⟨rfl, hbl⟩; exact hK _ _ _ rfl ⟨hP.call hbl, nY.below hbl, Nat.le_trans hZ hbl.size⟩ trivial rfl)
     | (go_simp; exact hK _ _ _ rfl ⟨hP, nY, hZ⟩ trivial rfl)
   iterate 3 refine zq2 ?_
   refine dc2 (fun uu wq D hd hn hn2 hC hk K hK => ?_) ?_
   ·obtain ⟨hP, nY, hZ⟩ := hC
    clear hk
    have d16 := hn.out 16 Yr
    go_simp
    exact hK _ _ _ rfl ⟨hP.allocs _, NewD.made hZ d16, Nat.le_trans hZ Ys⟩ trivial trivial
   refine dc2 (fun uu wq D hd hn hn2 hC hk K hK => ?_) ?_
   ·obtain ⟨hP, nY, hZ⟩ := hC
    simp only [calmKnown, lg0, lg1, and_true, Is] at hk
    obtain ⟨-, h13⟩ := hk
    simp only [h13] at hK ⊢
    have H13 := Yh h13; clear h13
    have da : D 15 = true := hn2.out 15 Yr
    obtain ⟨gn, hgn, gb, gl, hB⟩ := nY.one da hd
    simp only [hgn] at hK ⊢
    have hc9 := hB.cell; have hf9 := hB.frozen
    have hB2 := setAll_blk [.int .i64 0, .int .i64 0, .int .i64 0, .int .i64 0, .int .i64 0, .int .i64 0] 0 wq _ hB
    simp only [setArr, lst, ls0, ls1, Nat.zero_add, Nat.reduceAdd] at hB2
    go_simp
    exact hK _ undef (setAll wq gn 0 [.int .i64 0, .int .i64 0, .int .i64 0, .int .i64 0, .int .i64 0, .int .i64 0]) rfl ⟨(setAll_past gb [.int .i64 0, .int .i64 0, .int .i64 0, .int .i64 0, .int .i64 0, .int .i64 0] 0 wq hP), (show NewD _ _ _ _ (D 15) true (uu 15) _ from by rw [hgn]; exact NewD.stored gb hB2), (by rw [setAll_size]; exact hZ)⟩ trivial trivial
   refine zq2 ?_
   exact dSteps_nil
  ·intro uu v1 D hD hC hF
   obtain ⟨hP, nY, hZ⟩ := hC
   simp only [calmFacts, Is, and_true, true_and] at hF
   obtain ⟨f0, f1, f2, f3, f4, f5, f6, f7, f8, f9, f10, f11, f12, f13, f14, f17⟩ := hF
   simp only [f0, f1, f2, f3, f4, f5, f6, f7, f8, f9, f10, f11, f12, f13, f14, f17]
   obtain ⟨gY, e9Y, gbY, glY, bY'⟩ := nY.last (hD 15 Yd) (hD 16 Yd)
   simp only [e9Y]
   clear e9Y
   have hq := hP; clear hP
   have Kv1 : Past [] w v1 := Past.trans (Past.refl _ _) hq
   have Zv1 := hZ; clear hZ
   clear hq
   clear nY hD
   have bY := bY'; clear bY'
   obtain ⟨cY, fY, lY, eY, kY⟩ := Yf bY
   have oY := lY
   have KB : Below w.heap.size w v1 := Past.toBelow pa1
   have H1 := Yh (HH.out.below KB); have P1 := Yh (HPW.out.below KB); have HKB := Yh KB
   clear KB
   go_wp2_with fail
   refine (told_e B g b er _ (H1.out.below bl0) her HBE.out.small (P1.out.below bl0) hl).mono ?_
   rintro e w3 ⟨rfl, h3, hT3⟩
   go_wp2
   go_ret
   exact ⟨rfl, h3, ((PastT.below (show Below w.heap.size w _ from Yc (show Below v1.heap.size v1 _ from bl0) HKB.out)).trans hT3).three⟩
end Go.Proofs.YtiinmhfolfgobaaGreatDoor
