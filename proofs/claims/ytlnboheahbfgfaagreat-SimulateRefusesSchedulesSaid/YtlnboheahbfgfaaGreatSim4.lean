/- simulate: merge. -/
import Derived.Test.YtlnboheahbfgfaaGreatMergeP
import Derived.Test.YtlnboheahbfgfaaGreatJ29
import Derived.Test.YtlnboheahbfgfaaGreatJ36
namespace Go.Proofs.YtlnboheahbfgfaaGreat
open Go.RowKit Go.Shelf Go.Sort
set_option linter.unusedSimpArgs false
set_option linter.unusedVariables false

def SrcAt (cur : Array Value) (l : List Kw) : Prop := cur.size = l.length * 7 ∧ ∀ j, j < l.length → ∀ i, i < 7 → cur[j * 7 + i]? = (kwC (l.getD j (false, .zero)))[i]?
theorem knowns_next {l : List Kw} {q : Nat} (h : q < l.length) : knowns (l.take (q + 1)) = if (l.getD q (false, .zero)).1 then knowns (l.take q) ++ [(l.getD q (false, .zero)).2] else knowns (l.take q) := by
 have e : l.take (q + 1) = l.take q ++ [l.getD q (false, .zero)] := by
  rw [List.take_add_one, List.getElem?_eq_getElem h, List.getD_eq_getElem?_getD, List.getElem?_eq_getElem h]; rfl
 rw [e, knowns_app]
 rcases hk : l.getD q (false, .zero) with ⟨b, k⟩
 cases b <;> simp [knowns]
theorem plOwn {sta loc p li ai : Int} {VE VS VQ : Value} {t u : Int} {os : Bool} {ka klo khi kp kle kre cai cra : Int} {cse che : Bool} {cat csh : Int} : ∀ j, j < 7 → (#[.int .i64 sta, .int .i64 loc, .int .i64 p, .int .i64 li, .int .i64 ai, VE, VS, .int .i64 t, .int .i64 u, VQ, .bool os, .int .i64 ka, .int .i64 klo, .int .i64 khi, .int .i64 kp, .int .i64 kle, .int .i64 kre, .int .i64 cai, .int .i64 cra, .bool cse, .bool che, .int .i64 cat, .int .i64 csh] : Array Value)[10 + j]? = (kwC (os, ⟨ka, klo, khi, kp, kle, kre⟩))[j]? := by
 intro j hj
 obtain rfl | rfl | rfl | rfl | rfl | rfl | rfl : j = 0 ∨ j = 1 ∨ j = 2 ∨ j = 3 ∨ j = 4 ∨ j = 5 ∨ j = 6 := by omega
 all_goals rfl
theorem Past.toBelow {w w' : World} (h : Past [] w w') : Below w.heap.size w w' := ⟨h.2.1, h.2.2.1, h.2.2.2.1, h.1, fun k hk => h.2.2.2.2 k hk (by simp)⟩
theorem own_belowK {w w' : World} {base m : Nat} {v : Value} {ks : List K6} (h : RowK w base v ks) (hm : m = ks.length) (hb : Below w.heap.size w w') : w'.ownsRow base 43 6 v m (kCells ks) := by
 subst hm; exact RowK.below h hb
def MeRel (w : World) (l : List Kw) (n : Nat) (G : Nat) (v i : Value) (wr : World) : Prop := ∃ (q m : Nat) (A : Option Addr) (c : Nat), q ≤ n ∧ G = n - q ∧ i = .int .i64 q ∧ v = .slice A m c ∧ m = (knowns (l.take q)).length ∧ RowK wr w.heap.size (.slice A m c) (knowns (l.take q)) ∧ Below w.heap.size w wr
set_option maxRecDepth 100000 in
set_option maxHeartbeats 8000000 in
theorem pmerge_any (g gs n : Nat) (cur : Array Value) (l : List Kw) (x y er : Int) (nk : Kw) {sta loc p li ai : Int} {VE VS : Value} {t u : Int} {os : Bool} {ka klo khi kp kle kre cai cra : Int} {cse che : Bool} {cat csh : Int} (w : World) (h : Blk w g 106 #[.int .i64 sta, .int .i64 loc, .int .i64 p, .int .i64 li, .int .i64 ai, VE, VS, .int .i64 t, .int .i64 u, .slice (some ⟨gs, 0, none⟩) n n, .bool os, .int .i64 ka, .int .i64 klo, .int .i64 khi, .int .i64 kp, .int .i64 kle, .int .i64 kre, .int .i64 cai, .int .i64 cra, .bool cse, .bool che, .int .i64 cat, .int .i64 csh]) (hS : Blk w gs 104 cur) (hgs : gs ≠ g) (hl : l.length = n) (hn : n ≤ 64) (hc : SrcAt cur l) (hm : MG (knowns l) u li x y er) (hk : nk = if er = 0 then takeK (os, ⟨ka, klo, khi, kp, kle, kre⟩) u x y p else (os, ⟨ka, klo, khi, kp, kle, kre⟩)) :
  Calls Tryz.prog 59 #[.pointer (some ⟨g, 0, none⟩)] w fun e w' => e = .returned (.tuple #[]) ∧ Blk w' g 106 #[.int .i64 sta, .int .i64 loc, .int .i64 p, .int .i64 li, .int .i64 ai, VE, VS, .int .i64 t, .int .i64 u, .slice (some ⟨gs, 0, none⟩) n n, .bool nk.1, .int .i64 nk.2.at_, .int .i64 nk.2.lo, .int .i64 nk.2.hi, .int .i64 nk.2.pp, .int .i64 nk.2.le, .int .i64 nk.2.re, .int .i64 cai, .int .i64 cra, .bool cse, .bool che, .int .i64 cat, .int .i64 csh] ∧ Past [g] w w' := by
 subst hl
 have HNK := hYd hk; clear hk
 have HMG := hYd hm; clear hm
 have HC := hYd hc.2; have HP := hYd h; have HS := hYd hS; clear hc
 have bP := h; clear h hS
 have lgP := bP.lt; have cP := bP.cell
 go_enter Tryz.func59, Tryz.ntmps59
 go_wp2
 clear bP lgP cP
 go_loopg [2, 12] l.length (fun G v i wr => MeRel w l l.length G v i wr)
 case atStart => exact ⟨0, 0, none, 0, by omega, by omega, rfl, rfl, rfl, RowK.nil, Below.refl _ _⟩
 case round =>
  obtain ⟨q, m, A, c, hq, rfl, rfl, rfl, hm, hrow, KR⟩ := hrel
  have ZR := KR.size
  have hrl := RowK.lt hrow
  have HROW := hYd hrow; have HKR := hYd KR; have HM := hYd hm; clear hm hrow
  by_cases hlt : q < l.length
  ·have gp : decide ((q : Int) < (l.length : Int)) = true := decide_eq_true (by omega)
   have gpn : decide (q < l.length) = true := decide_eq_true hlt
   have wp : IntKind.i64.wrap ((q : Int) + 1) = ((q + 1 : Nat) : Int) := by rw [IntWalk.i64_in _ (by omega)]; omega
   have bS := HS.out.below KR
   have lS := bS.lt
   have hst := knowns_next hlt
   have d0 := (bS.cell (q * 7)).trans (HC.out q hlt 0 (by omega))
   have d1 := (bS.cell (q * 7 + 1)).trans (HC.out q hlt 1 (by omega))
   have d2 := (bS.cell (q * 7 + 2)).trans (HC.out q hlt 2 (by omega))
   have d3 := (bS.cell (q * 7 + 3)).trans (HC.out q hlt 3 (by omega))
   have d4 := (bS.cell (q * 7 + 4)).trans (HC.out q hlt 4 (by omega))
   have d5 := (bS.cell (q * 7 + 5)).trans (HC.out q hlt 5 (by omega))
   have d6 := (bS.cell (q * 7 + 6)).trans (HC.out q hlt 6 (by omega))
   obtain ⟨kv, hkv⟩ : ∃ kv, l.getD q (false, .zero) = kv := ⟨_, rfl⟩
   rw [hkv] at d0 d1 d2 d3 d4 d5 d6 hst
   clear hkv
   obtain ⟨b, na, nlo, nhi, np, nle, nre⟩ := kv
   simp only [kwC, K6.cs, lg0, lg1] at d0 d1 d2 d3 d4 d5 d6
   dsimp only at hst
   have HST := hYd hst; clear hst bS KR
   cases b with
   | false =>
    have HST2 := hYd (HST.out.trans (by simp) : knowns (l.take (q + 1)) = knowns (l.take q))
    clear HST
    go_wp2
    go_roundg (l.length - (q + 1))
    case measure => omega
    case rel => exact ⟨q + 1, m, A, c, by omega, by omega, by go_num, rfl, by rw [HST2.out]; exact HM.out, by rw [HST2.out]; exact RowK.below HROW.out bl0, (kept_call (show Below wr.heap.size wr _ from bl0) HKR.out)⟩
   | true =>
    have HST2 := hYd (HST.out.trans (by simp) : knowns (l.take (q + 1)) = knowns (l.take q) ++ [(⟨na, nlo, nhi, np, nle, nre⟩ : K6)])
    clear HST
    have hm64 : m ≤ 64 := by have h9 := knowns_len (l.take q); rw [← HM.out, List.length_take] at h9; omega
    obtain ⟨i0, hif, hz0, hz1, hz2⟩ := info_parts infoKn
    generalize hv : (Value.slice A m c) = v9 at *
    have hrl := RowK.lt HROW.out
    have HRW := hYd HROW.out
    clear hv HROW
    go_wp2_with (at_builtin; go_loud (refine wpList_append_lies _ rfl _ _ 114 rfl w.heap.size 43 i0 (.agg #[.int .i64 0, .int .i64 0, .int .i64 0, .int .i64 0, .int .i64 0, .int .i64 0]) 6 48 Tryz.underlying114 hif hz0 hz1 hz2 rfl (by decide) v9 m (kCells (knowns (l.take q))) rfl (own_belowK HRW.out HM.out bl0) ⟨wr.heap.size + 1, 0, none⟩ 1 1 [.int .i64 na, .int .i64 nlo, .int .i64 nhi, .int .i64 np, .int .i64 nle, .int .i64 nre] rfl rfl (World.news_of_block (t := 43) (fr := (0, 0)) (Blk.new1 _ _ _ _)) ?c2 (by decide) ?c3 ?c4 ?c5 _ rfl ?_))
    case c2 => first | exact ⟨rfl, rfl, rfl, rfl, rfl, rfl⟩ | (intro u hu; simp at hu; rcases hu with rfl | rfl | rfl | rfl | rfl | rfl <;> rfl)
    case c3 => unfold maxLen; omega
    case c4 => omega
    case c5 => first | omega | (simp <;> omega)
    intro g7 cp7 w7 hown hgrow hlie hglt
    have K7 : Below w.heap.size w w7 := (kept_call (show Below wr.heap.size wr _ from bl0) HKR.out).grown hgrow (by simp; omega) (fun k hk => (hrl k hk).1)
    have R7 : RowK w7 w.heap.size (.slice (some ⟨g7, 0, none⟩) (m + 1) cp7) (knowns (l.take q) ++ [(⟨na, nlo, nhi, np, nle, nre⟩ : K6)]) := by
     unfold RowK
     rw [List.length_append, List.length_singleton, ← HM.out, kCells_snoc]; exact hown
    have H7 := hYd (And.intro K7 R7)
    clear hown hgrow hlie hglt K7 R7
    go_wp2
    go_roundg (l.length - (q + 1))
    case measure => omega
    case rel => exact ⟨q + 1, m + 1, _, _, by omega, by omega, by go_num, rfl, by rw [HST2.out, List.length_append, List.length_singleton, ← HM.out], by rw [HST2.out]; exact H7.out.2, H7.out.1⟩
  ·obtain rfl : q = l.length := by omega
   have gp : decide ((l.length : Int) < (l.length : Int)) = false := decide_eq_false (by omega)
   have gpn : decide (l.length < l.length) = false := decide_eq_false (by omega)
   have htk : l.take l.length = l := List.take_length
   have hrow := HROW.out; have hm := HM.out
   rw [htk] at hrow hm
   have hkl := knowns_len l
   have HKN := hYd (RowK.known (by rw [← hm]; exact hrow) (by omega))
   have HKN : Hid (KnAt wr A m (knowns l)) := hYd (by have h := hrow; subst hm; exact RowK.known h (by omega))
   have hm64 : m ≤ 64 := by omega
   clear hrow htk HM HROW hrl hm hkl
   have bP := HP.out.below HKR.out; have bS := HS.out.below HKR.out; have lgP : g < w.heap.size := HP.out.lt
   have hqR : Past [g] w wr := Past.below HKR.out
   clear HP HS HC HKR
   obtain ⟨cP, fP, lP, eP, kP⟩ := Blk.facts bP
   obtain ⟨cS, fS, lS, eS, kS⟩ := Blk.facts bS
   have ZP : w.heap.size ≤ wr.heap.size := ZR
   have RM := hYd (fun W h => imerge_fix HMG.out A m c W h)
   clear HMG
   go_upto_region 7 with fail
   refine' wp_region_calmD (by kernel_rfl) (fun D u9 w' => Past [] wr w' ∧ Blk w' (g) 106 #[.int .i64 sta, .int .i64 loc, .int .i64 p, .int .i64 li, .int .i64 ai, VE, VS, .int .i64 t, .int .i64 u, .slice (some ⟨gs, 0, none⟩) l.length l.length, .bool os, .int .i64 ka, .int .i64 klo, .int .i64 khi, .int .i64 kp, .int .i64 kle, .int .i64 kre, .int .i64 cai, .int .i64 cra, .bool cse, .bool che, .int .i64 cat, .int .i64 csh] ∧ Blk w' (gs) 104 cur ∧ NewD wr.heap.size 29 #[.int .i64 0, .int .i64 0] #[.int .i64 x, .int .i64 y] (D 14) (D 15) (u9 14) w' ∧ wr.heap.size ≤ w'.heap.size) (fun _ _ => True) [(Is _), (Is _), (Is _), (Is _), (Is _), (Is _), (Is _), (Is _), (Is _), (Is _), (Is _), (Is _), (Is _), (Is _), (fun _ _ _ => True), (fun _ _ _ => True), (Is _)] [[], [], [1], [2], [3], [], [5], [6], [7], [8], [0, 4, 9], [10], [11], [11], [], [14, 12], [13]] rfl (by kernel_rfl) (fun u => by (simp only [calmPut, Act.put, lst, ls0, ls1, Nat.zero_add, Nat.reduceAdd]; rfl)) ?_ (kcc keep_is' (kcc keep_is' (kcc keep_is' (kcc keep_is' (kcc keep_is' (kcc keep_is' (kcc keep_is' (kcc keep_is' (kcc keep_is' (kcc keep_is' (kcc keep_is' (kcc keep_is' (kcc keep_is' (kcc keep_is' (kcc keep_triv (kcc keep_triv (kcc keep_is' (calmKeep_nil)))))))))))))))))) ?_ ?_
   ·exact ⟨pa1, bn1, bn1, NewD.start _, (by first | exact Nat.le_refl _ | omega | (simp <;> omega))⟩
   rotate_left 15
   ·skip
    refine dc2 (fun uu wq D hd hn hn2 hC hk K hK => ?_) ?_
    ·obtain ⟨hP, mP, mS, nR, hZ⟩ := hC
     clear hk
     go_simp
     exact hK _ _ _ rfl ⟨hP, mP, mS, nR, hZ⟩ trivial rfl
    refine dc2 (fun uu wq D hd hn hn2 hC hk K hK => ?_) ?_
    ·obtain ⟨hP, mP, mS, nR, hZ⟩ := hC
     clear hk
     go_simp
     exact hK _ _ _ rfl ⟨hP, mP, mS, nR, hZ⟩ trivial rfl
    refine dc2 (fun uu wq D hd hn hn2 hC hk K hK => ?_) ?_
    ·obtain ⟨hP, mP, mS, nR, hZ⟩ := hC
     simp only [calmKnown, lg0, lg1, and_true, Is] at hk
     have h1 := hk; clear hk
     simp only [h1] at hK ⊢
     have H1 := hYd h1; clear h1
     go_simp
     exact hK _ _ _ rfl ⟨hP, mP, mS, nR, hZ⟩ trivial rfl
    refine dc2 (fun uu wq D hd hn hn2 hC hk K hK => ?_) ?_
    ·obtain ⟨hP, mP, mS, nR, hZ⟩ := hC
     simp only [calmKnown, lg0, lg1, and_true, Is] at hk
     have h2 := hk; clear hk
     simp only [h2] at hK ⊢
     have H2 := hYd h2; clear h2
     go_simp
     exact hK _ _ _ rfl ⟨hP, mP, mS, nR, hZ⟩ trivial rfl
    refine dc2 (fun uu wq D hd hn hn2 hC hk K hK => ?_) ?_
    ·obtain ⟨hP, mP, mS, nR, hZ⟩ := hC
     simp only [calmKnown, lg0, lg1, and_true, Is] at hk
     have h3 := hk; clear hk
     simp only [h3] at hK ⊢
     have H3 := hYd h3; clear h3
     have cP := mP.cell; have lP := mP.lt
     have cS := mS.cell; have lS := mS.lt
     go_simp
     exact hK _ _ _ rfl ⟨hP, mP, mS, nR, hZ⟩ trivial rfl
    refine dc2 (fun uu wq D hd hn hn2 hC hk K hK => ?_) ?_
    ·obtain ⟨hP, mP, mS, nR, hZ⟩ := hC
     clear hk
     go_simp
     exact hK _ _ _ rfl ⟨hP, mP, mS, nR, hZ⟩ trivial rfl
    refine dc2 (fun uu wq D hd hn hn2 hC hk K hK => ?_) ?_
    ·obtain ⟨hP, mP, mS, nR, hZ⟩ := hC
     simp only [calmKnown, lg0, lg1, and_true, Is] at hk
     have h5 := hk; clear hk
     simp only [h5] at hK ⊢
     have H5 := hYd h5; clear h5
     go_simp
     exact hK _ _ _ rfl ⟨hP, mP, mS, nR, hZ⟩ trivial rfl
    refine dc2 (fun uu wq D hd hn hn2 hC hk K hK => ?_) ?_
    ·obtain ⟨hP, mP, mS, nR, hZ⟩ := hC
     simp only [calmKnown, lg0, lg1, and_true, Is] at hk
     have h6 := hk; clear hk
     simp only [h6] at hK ⊢
     have H6 := hYd h6; clear h6
     go_simp
     exact hK _ _ _ rfl ⟨hP, mP, mS, nR, hZ⟩ trivial rfl
    refine dc2 (fun uu wq D hd hn hn2 hC hk K hK => ?_) ?_
    ·obtain ⟨hP, mP, mS, nR, hZ⟩ := hC
     simp only [calmKnown, lg0, lg1, and_true, Is] at hk
     have h7 := hk; clear hk
     simp only [h7] at hK ⊢
     have H7 := hYd h7; clear h7
     go_simp
     exact hK _ _ _ rfl ⟨hP, mP, mS, nR, hZ⟩ trivial rfl
    refine dc2 (fun uu wq D hd hn hn2 hC hk K hK => ?_) ?_
    ·obtain ⟨hP, mP, mS, nR, hZ⟩ := hC
     simp only [calmKnown, lg0, lg1, and_true, Is] at hk
     have h8 := hk; clear hk
     simp only [h8] at hK ⊢
     have H8 := hYd h8; clear h8
     have cP := mP.cell; have lP := mP.lt
     have cS := mS.cell; have lS := mS.lt
     go_simp
     exact hK _ _ _ rfl ⟨hP, mP, mS, nR, hZ⟩ trivial rfl
    refine dc2 (fun uu wq D hd hn hn2 hC hk K hK => ?_) ?_
    ·obtain ⟨hP, mP, mS, nR, hZ⟩ := hC
     simp only [calmKnown, lg0, lg1, and_true, Is] at hk
     obtain ⟨h0, h4, h9⟩ := hk
     simp only [h0, h4, h9] at hK ⊢
     have H0 := hYd h0; clear h0; have H4 := hYd h4; clear h4; have H9 := hYd h9; clear h9
     have hP0 := hP
     go_wp2_with fail
     first | (with_reducible refine (RM.out _ (HKN.out.below (Past.toBelow hP0))).mono ?_)
     rintro e w2 ⟨rfl, hbl⟩
     exact hK _ _ _ rfl ⟨hP.call hbl, Blk.keep hbl mP, Blk.keep hbl mS, nR.below hbl, Nat.le_trans hZ hbl.size⟩ trivial rfl
    refine dc2 (fun uu wq D hd hn hn2 hC hk K hK => ?_) ?_
    ·obtain ⟨hP, mP, mS, nR, hZ⟩ := hC
     simp only [calmKnown, lg0, lg1, and_true, Is] at hk
     have h10 := hk; clear hk
     simp only [h10] at hK ⊢
     have H10 := hYd h10; clear h10
     go_simp
     exact hK _ _ _ rfl ⟨hP, mP, mS, nR, hZ⟩ trivial rfl
    refine dc2 (fun uu wq D hd hn hn2 hC hk K hK => ?_) ?_
    ·obtain ⟨hP, mP, mS, nR, hZ⟩ := hC
     simp only [calmKnown, lg0, lg1, and_true, Is] at hk
     have h11 := hk; clear hk
     simp only [h11] at hK ⊢
     have H11 := hYd h11; clear h11
     go_simp
     exact hK _ _ _ rfl ⟨hP, mP, mS, nR, hZ⟩ trivial rfl
    refine dc2 (fun uu wq D hd hn hn2 hC hk K hK => ?_) ?_
    ·obtain ⟨hP, mP, mS, nR, hZ⟩ := hC
     simp only [calmKnown, lg0, lg1, and_true, Is] at hk
     have h11 := hk; clear hk
     simp only [h11] at hK ⊢
     have H11 := hYd h11; clear h11
     go_simp
     exact hK _ _ _ rfl ⟨hP, mP, mS, nR, hZ⟩ trivial rfl
    refine dc2 (fun uu wq D hd hn hn2 hC hk K hK => ?_) ?_
    ·obtain ⟨hP, mP, mS, nR, hZ⟩ := hC
     clear hk
     have d15 := hn.out 15 (by kernel_rfl)
     go_simp
     exact hK _ _ _ rfl ⟨hP.allocs _, mP.alloc _, mS.alloc _, NewD.made hZ d15, Nat.le_trans hZ (by simp)⟩ trivial trivial
    refine dc2 (fun uu wq D hd hn hn2 hC hk K hK => ?_) ?_
    ·obtain ⟨hP, mP, mS, nR, hZ⟩ := hC
     simp only [calmKnown, lg0, lg1, and_true, Is] at hk
     obtain ⟨-, h12⟩ := hk
     simp only [h12] at hK ⊢
     have H12 := hYd h12; clear h12
     have da : D 14 = true := hn2.out 14 (by kernel_rfl)
     obtain ⟨gn, hgn, gb, gl, hB⟩ := nR.one da hd
     simp only [hgn] at hK ⊢
     have hc9 := hB.cell; have hf9 := hB.frozen
     have hB2 := setAll_blk [.int .i64 x, .int .i64 y] 0 wq _ hB
     simp only [setArr, lst, ls0, ls1, Nat.zero_add, Nat.reduceAdd] at hB2
     go_simp
     exact hK _ undef (setAll wq gn 0 [.int .i64 x, .int .i64 y]) rfl ⟨(setAll_past gb [.int .i64 x, .int .i64 y] 0 wq hP), setAll_far (show g ≠ gn by first | omega | (simp <;> omega)) [.int .i64 x, .int .i64 y] 0 wq mP, setAll_far (show gs ≠ gn by first | omega | (simp <;> omega)) [.int .i64 x, .int .i64 y] 0 wq mS, (show NewD _ _ _ _ (D 14) true (uu 14) _ from by rw [hgn]; exact NewD.stored gb hB2), (by rw [setAll_size]; exact hZ)⟩ trivial trivial
    refine dc2 (fun uu wq D hd hn hn2 hC hk K hK => ?_) ?_
    ·obtain ⟨hP, mP, mS, nR, hZ⟩ := hC
     simp only [calmKnown, lg0, lg1, and_true, Is] at hk
     have h13 := hk; clear hk
     simp only [h13] at hK ⊢
     have H13 := hYd h13; clear h13
     go_simp
     exact hK _ _ _ rfl ⟨hP, mP, mS, nR, hZ⟩ trivial rfl
    exact dSteps_nil
   ·intro uu v1 D hD hC hF
    obtain ⟨hP, mP, mS, nR, hZ⟩ := hC
    simp only [calmFacts, Is, and_true, true_and] at hF
    obtain ⟨f0, f1, f2, f3, f4, f5, f6, f7, f8, f9, f10, f11, f12, f13, f16⟩ := hF
    simp only [f0, f1, f2, f3, f4, f5, f6, f7, f8, f9, f10, f11, f12, f13, f16]
    obtain ⟨gR, e9R, gbR, glR, bR'⟩ := nR.last (hD 14 (by decide)) (hD 15 (by decide))
    simp only [e9R]
    clear e9R
    have hq : Past [g] _ _ := Past.more (by simp) hP; clear hP
    have Kv1 : Past [g] w v1 := Past.trans hqR hq
    have Zv1 := hZ; clear hZ
    clear hq hqR
    clear bP cP fP lP eP kP; have bP := mP
    clear bS cS fS lS eS kS; have bS := mS
    clear mP mS nR hD
    have bR := bR'; clear bR'
    obtain ⟨cP, fP, lP, eP, kP⟩ := Blk.facts bP
    obtain ⟨cS, fS, lS, eS, kS⟩ := Blk.facts bS
    obtain ⟨cR, fR, lR, eR, kR⟩ := Blk.facts bR
    have oR := lR
    clear HKN RM
    by_cases her : er = 0
    ·subst her
     have hnk := HNK.out
     rw [if_pos rfl] at hnk
     have HN2 := hYd hnk; clear hnk HNK
     go_upto_region 9 with fail
     refine' wp_region_calmD (by kernel_rfl) (fun D u9 w' => Past [g] v1 w' ∧ (D 13 = false → Blk w' (g) 106 #[.int .i64 sta, .int .i64 loc, .int .i64 p, .int .i64 li, .int .i64 ai, VE, VS, .int .i64 t, .int .i64 u, .slice (some ⟨gs, 0, none⟩) l.length l.length, .bool os, .int .i64 ka, .int .i64 klo, .int .i64 khi, .int .i64 kp, .int .i64 kle, .int .i64 kre, .int .i64 cai, .int .i64 cra, .bool cse, .bool che, .int .i64 cat, .int .i64 csh]) ∧ (D 13 = true → Blk w' (g) 106 #[.int .i64 sta, .int .i64 loc, .int .i64 p, .int .i64 li, .int .i64 ai, VE, VS, .int .i64 t, .int .i64 u, .slice (some ⟨gs, 0, none⟩) l.length l.length, .bool nk.1, .int .i64 nk.2.at_, .int .i64 nk.2.lo, .int .i64 nk.2.hi, .int .i64 nk.2.pp, .int .i64 nk.2.le, .int .i64 nk.2.re, .int .i64 cai, .int .i64 cra, .bool cse, .bool che, .int .i64 cat, .int .i64 csh]) ∧ Blk w' (gs) 104 cur ∧ Blk w' (gR) 29 #[.int .i64 x, .int .i64 y] ∧ v1.heap.size ≤ w'.heap.size) (fun _ _ => True) [(Is _), (Is _), (Is _), (Is _), (Is _), (Is _), (Is _), (Is _), (Is _), (Is _), (Is _), (Is _), (Is _), (Is _)] [[], [0], [1], [], [3], [4], [5], [], [], [8], [9], [10], [11], [2, 6, 7, 12]] rfl (by kernel_rfl) (fun u => by (simp only [calmPut, Act.put, lst, ls0, ls1, Nat.zero_add, Nat.reduceAdd]; rfl)) ?_ (kcc keep_is' (kcc keep_is' (kcc keep_is' (kcc keep_is' (kcc keep_is' (kcc keep_is' (kcc keep_is' (kcc keep_is' (kcc keep_is' (kcc keep_is' (kcc keep_is' (kcc keep_is' (kcc keep_is' (kcc keep_is' (calmKeep_nil))))))))))))))) ?_ ?_
     ·exact ⟨pa1, (fun _ => bn1), (fun h => by cases h), bn1, bn1, (by first | exact Nat.le_refl _ | omega | (simp <;> omega))⟩
     rotate_left 14
     ·skip
      refine dc2 (fun uu wq D hd hn hn2 hC hk K hK => ?_) ?_
      ·obtain ⟨hP, mP, yP, mS, mR, hZ⟩ := hC
       clear hk
       go_simp
       exact hK _ _ _ rfl ⟨hP, mP, yP, mS, mR, hZ⟩ trivial rfl
      refine dc2 (fun uu wq D hd hn hn2 hC hk K hK => ?_) ?_
      ·obtain ⟨hP, mP, yP, mS, mR, hZ⟩ := hC
       simp only [calmKnown, lg0, lg1, and_true, Is] at hk
       have h0 := hk; clear hk
       simp only [h0] at hK ⊢
       have H0 := hYd h0; clear h0
       go_simp
       exact hK _ _ _ rfl ⟨hP, mP, yP, mS, mR, hZ⟩ trivial rfl
      refine dc2 (fun uu wq D hd hn hn2 hC hk K hK => ?_) ?_
      ·obtain ⟨hP, mP, yP, mS, mR, hZ⟩ := hC
       simp only [calmKnown, lg0, lg1, and_true, Is] at hk
       have h1 := hk; clear hk
       simp only [h1] at hK ⊢
       have H1 := hYd h1; clear h1
       go_simp
       exact hK _ _ _ rfl ⟨hP, mP, yP, mS, mR, hZ⟩ trivial rfl
      refine dc2 (fun uu wq D hd hn hn2 hC hk K hK => ?_) ?_
      ·obtain ⟨hP, mP, yP, mS, mR, hZ⟩ := hC
       clear hk
       go_simp
       exact hK _ _ _ rfl ⟨hP, mP, yP, mS, mR, hZ⟩ trivial rfl
      refine dc2 (fun uu wq D hd hn hn2 hC hk K hK => ?_) ?_
      ·obtain ⟨hP, mP, yP, mS, mR, hZ⟩ := hC
       simp only [calmKnown, lg0, lg1, and_true, Is] at hk
       have h3 := hk; clear hk
       simp only [h3] at hK ⊢
       have H3 := hYd h3; clear h3
       go_simp
       exact hK _ _ _ rfl ⟨hP, mP, yP, mS, mR, hZ⟩ trivial rfl
      refine dc2 (fun uu wq D hd hn hn2 hC hk K hK => ?_) ?_
      ·obtain ⟨hP, mP, yP, mS, mR, hZ⟩ := hC
       simp only [calmKnown, lg0, lg1, and_true, Is] at hk
       have h4 := hk; clear hk
       simp only [h4] at hK ⊢
       have H4 := hYd h4; clear h4
       go_simp
       exact hK _ _ _ rfl ⟨hP, mP, yP, mS, mR, hZ⟩ trivial rfl
      refine dc2 (fun uu wq D hd hn hn2 hC hk K hK => ?_) ?_
      ·obtain ⟨hP, mP, yP, mS, mR, hZ⟩ := hC
       simp only [calmKnown, lg0, lg1, and_true, Is] at hk
       have h5 := hk; clear hk
       simp only [h5] at hK ⊢
       have H5 := hYd h5; clear h5
       have cS := mS.cell; have lS := mS.lt
       have cR := mR.cell; have lR := mR.lt
       have hB := mP (hn.out 13 (by kernel_rfl)); have cP := hB.cell; have lP := hB.lt
       go_simp
       exact hK _ _ _ rfl ⟨hP, mP, yP, mS, mR, hZ⟩ trivial rfl
      refine dc2 (fun uu wq D hd hn hn2 hC hk K hK => ?_) ?_
      ·obtain ⟨hP, mP, yP, mS, mR, hZ⟩ := hC
       clear hk
       have cS := mS.cell; have lS := mS.lt
       have cR := mR.cell; have lR := mR.lt
       have hB := mP (hn.out 13 (by kernel_rfl)); have cP := hB.cell; have lP := hB.lt
       go_simp
       exact hK _ _ _ rfl ⟨hP, mP, yP, mS, mR, hZ⟩ trivial rfl
      refine dc2 (fun uu wq D hd hn hn2 hC hk K hK => ?_) ?_
      ·obtain ⟨hP, mP, yP, mS, mR, hZ⟩ := hC
       clear hk
       go_simp
       exact hK _ _ _ rfl ⟨hP, mP, yP, mS, mR, hZ⟩ trivial rfl
      refine dc2 (fun uu wq D hd hn hn2 hC hk K hK => ?_) ?_
      ·obtain ⟨hP, mP, yP, mS, mR, hZ⟩ := hC
       simp only [calmKnown, lg0, lg1, and_true, Is] at hk
       have h8 := hk; clear hk
       simp only [h8] at hK ⊢
       have H8 := hYd h8; clear h8
       go_simp
       exact hK _ _ _ rfl ⟨hP, mP, yP, mS, mR, hZ⟩ trivial rfl
      refine dc2 (fun uu wq D hd hn hn2 hC hk K hK => ?_) ?_
      ·obtain ⟨hP, mP, yP, mS, mR, hZ⟩ := hC
       simp only [calmKnown, lg0, lg1, and_true, Is] at hk
       have h9 := hk; clear hk
       simp only [h9] at hK ⊢
       have H9 := hYd h9; clear h9
       go_simp
       exact hK _ _ _ rfl ⟨hP, mP, yP, mS, mR, hZ⟩ trivial rfl
      refine dc2 (fun uu wq D hd hn hn2 hC hk K hK => ?_) ?_
      ·obtain ⟨hP, mP, yP, mS, mR, hZ⟩ := hC
       simp only [calmKnown, lg0, lg1, and_true, Is] at hk
       have h10 := hk; clear hk
       simp only [h10] at hK ⊢
       have H10 := hYd h10; clear h10
       go_simp
       exact hK _ _ _ rfl ⟨hP, mP, yP, mS, mR, hZ⟩ trivial rfl
      refine dc2 (fun uu wq D hd hn hn2 hC hk K hK => ?_) ?_
      ·obtain ⟨hP, mP, yP, mS, mR, hZ⟩ := hC
       simp only [calmKnown, lg0, lg1, and_true, Is] at hk
       have h11 := hk; clear hk
       simp only [h11] at hK ⊢
       have H11 := hYd h11; clear h11
       have cS := mS.cell; have lS := mS.lt
       have cR := mR.cell; have lR := mR.lt
       have hB := mP (hn.out 13 (by kernel_rfl)); have cP := hB.cell; have lP := hB.lt
       go_simp
       exact hK _ _ _ rfl ⟨hP, mP, yP, mS, mR, hZ⟩ trivial rfl
      refine dc2 (fun uu wq D hd hn hn2 hC hk K hK => ?_) ?_
      ·obtain ⟨hP, mP, yP, mS, mR, hZ⟩ := hC
       simp only [calmKnown, lg0, lg1, and_true, Is] at hk
       obtain ⟨h2, h6, h7, h12⟩ := hk
       simp only [h2, h6, h7, h12] at hK ⊢
       have H2 := hYd h2; clear h2; have H6 := hYd h6; clear h6; have H7 := hYd h7; clear h7; have H12 := hYd h12; clear h12
       have hB := mP hd
       go_wp2_with fail
       refine (take_any g 10 106 _ (os, ⟨ka, klo, khi, kp, kle, kre⟩) u x y p _ hB plOwn).mono ?_
       rintro e w9 ⟨rfl, bP9, hq9⟩
       rw [← HN2.out] at bP9
       simp only [setArr, kwC, K6.cs, lst, ls0, ls1, Nat.reduceAdd] at bP9
       exact hK _ _ _ rfl ⟨Past.trans hP (Past.more (by simp) hq9), (fun h => by cases h), (fun _ => bP9), hq9.blk mS (by simp <;> omega), hq9.blk mR (by simp <;> omega), Nat.le_trans hZ hq9.1⟩ trivial rfl
      exact dSteps_nil
     ·intro uu v2 D hD hC hF
      obtain ⟨hP, mP, yP, mS, mR, hZ⟩ := hC
      simp only [calmFacts, Is, and_true, true_and] at hF
      obtain ⟨f0, f1, f2, f3, f4, f5, f6, f7, f8, f9, f10, f11, f12, f13⟩ := hF
      simp only [f0, f1, f2, f3, f4, f5, f6, f7, f8, f9, f10, f11, f12, f13]
      have bbP := yP (hD 13 (by decide))
      have hq := hP; clear hP
      have Kv2 : Past [g] w v2 := Past.trans Kv1 hq
      have Zv2 := hZ; clear hZ
      clear hq Kv1
      clear bP cP fP lP eP kP; have bP := bbP
      clear bS cS fS lS eS kS; have bS := mS
      clear bR cR fR lR eR kR; have bR := mR
      clear mP mS mR yP bbP hD
      obtain ⟨cP, fP, lP, eP, kP⟩ := Blk.facts bP
      obtain ⟨cS, fS, lS, eS, kS⟩ := Blk.facts bS
      obtain ⟨cR, fR, lR, eR, kR⟩ := Blk.facts bR
      go_wp2
      refine bodyPost_end (results_none rfl _ _ _) rfl ?_
      exact ⟨rfl, bn1, pa1⟩
    ·have g1 : (er == 0) = false := by simpa using her
     have hnk := HNK.out
     rw [if_neg her] at hnk
     clear HNK
     subst hnk
     go_wp2
     refine bodyPost_end (results_none rfl _ _ _) rfl ?_
     exact ⟨rfl, bn1, pa1⟩
end Go.Proofs.YtlnboheahbfgfaaGreat
