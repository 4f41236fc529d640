/- Lemmas. -/
import Derived.Test.YtiinmhfolfgobaaGreatDoorJ3
import Derived.Test.YtiinmhfolfgobaaGreatDoorJ33
set_option linter.unusedVariables false
set_option linter.unusedSimpArgs false
namespace Go.Proofs.YtiinmhfolfgobaaGreatDoor
open Go.RowKit Go.Lib
set_option maxHeartbeats 128000000
set_option maxRecDepth 100000
theorem blank_is (w : World) : PredAt Tryz.prog 32 #[] encR blankR w := fun W r _ => by
 unfold FnGives
 have hb : blankR r = decide ((r : Int) = 32) := by
  unfold blankR
  by_cases h : r = 32
  ·subst h; rfl
  ·rw [beq_eq_false_iff_ne.2 h, Y3]
 rw [hb]
 go_enter Tryz.func32, Tryz.ntmps32
 go_wp2
 go_ret
 exact ⟨by by_cases h : (r : Int) = 32 <;> simp [h], 0, rfl⟩
theorem strV_of (s : ByteArray) : strV s.data.toList = .string s := by unfold strV; simp
theorem getD_map_str (l : List ByteArray) (j : Nat) (h : j < l.length) : (l.map Value.string)[j]? = some (strV ((l.map (·.data.toList)).getD j [])) := by
 rw [List.getElem?_map, Y9 h, Y8, List.getElem?_map, Y9 h]
 show some _ = some (strV _)
 rw [show (Option.map (fun x : ByteArray => x.data.toList) (some l[j])).getD [] = l[j].data.toList from rfl, strV_of]
theorem StrR.ofBlk {w : World} {gl : Nat} (l : List ByteArray) (hb : Blk w gl 9 (l.map Value.string).toArray) : StrR w gl l.length (l.map (·.data.toList)) :=
 ⟨List.length_map _, _, hb, fun j hj => by rw [List.getElem?_toArray]; exact getD_map_str l j hj⟩
theorem StrR.ofRow {w : World} {base A : Nat} (l : List ByteArray) (h : w.ownsRow base 9 1 (.slice (some ⟨A, 0, none⟩) l.length l.length) l.length (l.map Value.string)) : StrR w A l.length (l.map (·.data.toList)) := by
 rcases h.2 with ⟨e, _⟩ | ⟨g, cap, cur, e, hb, hg, h1, h2, h3, h4⟩
 ·cases e
 ·injection e with e1 e2 e3
  injection e1 with e1
  injection e1 with e1 _ _
  subst e1
  refine ⟨List.length_map _, cur, hg, fun j hj => ?_⟩
  have h5 := getD_map_str l j hj
  rw [← h4, List.getElem?_take, if_pos Yo] at h5
  simpa using h5
def scR (r : List UInt8 × Int × Int) : Value := .tuple #[.string ⟨r.1.toArray⟩, .int .i64 r.2.1, .int .i64 r.2.2]
def LnsRel (sv : Sv) (w : World) (gl g n : Nat) (ls : List (List UInt8)) (G : Nat) (i : Value) (wr : World) : Prop := ∃ (q : Nat) (b : Bn), q ≤ n ∧ G = n - q ∧ i = .int .i64 q ∧ Bn.lines sv .zero 0 ls = Bn.lines sv b q (ls.drop q) ∧ b.out.length ≤ 200 * q ∧ b.srcs.length ≤ 64 ∧ BnAt w.heap.size wr g b ∧ StrR wr gl n ls ∧ PowB w.heap.size wr ∧ Below w.heap.size w wr ∧ (∀ l ∈ ls, GoodL sv l ∧ l.length ≤ 1000000)
theorem run43_any (sv : Sv) (s : ByteArray) (w : World) (hpow : Pow10 w) (hml : MaxLenAt w) (hsz : s.size ≤ 1000000) (hg : ∀ l ∈ cutAt 10 (trimSuffix s.data.toList [10]), GoodL sv l) :
  Calls Tryz.prog 12 #[.string s] w (RB w (scR (scriptV sv s.data.toList))) := by
 obtain ⟨mx, hmx⟩ := hml
 obtain ⟨tx, htx⟩ : ∃ tx, trimSuffix s.data.toList [10] = tx := ⟨_, rfl⟩
 have htl : tx.length ≤ 1000000 := by
  rw [← htx]
  unfold trimSuffix
  have := size_eq s
  split
  ·rw [List.length_take]; omega
  ·omega
 have hS : scriptV sv s.data.toList = if 4096 < s.size then ([], 0, 2) else if 100 < (cutAt 10 tx).length then ([], 0, 8) else Bn.lines sv .zero 0 (cutAt 10 tx) := by
  unfold scriptV
  rw [htx, ← size_eq]
 rw [htx] at hg
 have hg0 : ∀ l ∈ cutAt 10 tx, GoodL sv l ∧ l.length ≤ 1000000 := fun l hl => ⟨hg l hl, Nat.le_trans (cutAt_len 10 tx l hl) htl⟩
 clear hg
 have hg := hg0
 clear hg0
 obtain ⟨ls, hls⟩ : ∃ ls, cutAt 10 tx = ls := ⟨_, rfl⟩
 have R1 : Calls Tryz.prog 30 #[.string s, .string ⟨#[10]⟩] w fun e w' => e = .returned (.string ⟨tx.toArray⟩) ∧ w' = w := by
  have h9 := Tryz.strings_TrimSuffix s ⟨#[10]⟩ w Yo
  rw [show trimSuffix s.data.toList (⟨#[10]⟩ : ByteArray).data.toList = tx from htx] at h9
  exact h9
 have R2 := Tryz.strings_Split ⟨tx.toArray⟩ ⟨#[10]⟩ mx w (by show tx.toArray.size < _; simp; omega) hmx Yd
 have hlb : (splitB ⟨#[10]⟩ 0 (countB ⟨tx.toArray⟩ ⟨#[10]⟩) ⟨tx.toArray⟩).length = countB ⟨tx.toArray⟩ ⟨#[10]⟩ + 1 := splitB_all _ Yd 0 _ _ rfl
 have hcu := splitB_cutAt 10 ⟨tx.toArray⟩
 obtain ⟨bl, hbl⟩ : ∃ bl, splitB ⟨#[10]⟩ 0 (countB ⟨tx.toArray⟩ ⟨#[10]⟩) ⟨tx.toArray⟩ = bl := ⟨_, rfl⟩
 rw [hbl] at R2 hlb hcu
 rw [← hlb] at R2
 have hcl : bl.map (·.data.toList) = ls := by rw [hcu]; exact hls
 rw [hls] at hS hg
 have hnl : ls.length = bl.length := by rw [← hcl]; exact List.length_map _
 have R1' := Yh R1; have R2' := Yh R2; have HG := Yh hg; have HS := Yh hS; have HCL := Yh hcl; have HNL := Yh hnl
 have HPW := Yh (PowB.of hpow)
 clear R1 R2 hg hS hcl hcu hlb hbl hls htx hmx hpow hnl htl
 go_enter Tryz.func12, Tryz.ntmps12
 go_wp2_with fail
 refine R1'.out.mono ?_
 rintro e w0 ⟨rfl, rfl⟩
 go_wp2_with fail
 refine R2'.out.mono ?_
 rintro e w1 ⟨rfl, hw1⟩
 have hB1 : Blk w1 w0.heap.size 9 (bl.map Value.string).toArray := by rw [hw1]; exact Blk.new _ _ _
 have hK1 : Below w0.heap.size w0 w1 := by rw [hw1]; exact below_new _ _
 have HZ1 : Hid (w1.heap.size = w0.heap.size + 1) := Yh (by rw [hw1]; simp)
 have hz1 : w0.heap.size ≤ w1.heap.size := by rw [HZ1.out]; omega
 clear hw1
 obtain ⟨gl, hgl⟩ : ∃ gl, w0.heap.size = gl := ⟨_, rfl⟩
 rw [hgl] at hB1 ⊢
 have HSR := Yh (HCL.out ▸ StrR.ofBlk bl hB1 : StrR w1 gl bl.length ls)
 have HK1 := Yh hK1; have HGL := Yh hgl
 clear hB1 hK1 hgl R1' R2'
 obtain ⟨n, hn⟩ : ∃ n, bl.length = n := ⟨_, rfl⟩
 rw [hn] at HSR HNL ⊢
 clear hn HCL
 by_cases h1 : 4096 < s.size
 ·have c1 : decide ((s.size : Int) > 4096) = true := Y2
  have c1' : decide (4096 < s.size) = true := decide_eq_true h1
  have hr : scriptV sv s.data.toList = ([], 0, 2) := by rw [HS.out, if_pos h1]
  have HR9 := Yh hr
  clear hr
  go_wp2
  go_ret3
  rw [HR9.out]
  exact ⟨rfl, HK1.out⟩
 have c1 : decide ((s.size : Int) > 4096) = false := Y3
 have c1' : decide (4096 < s.size) = false := decide_eq_false h1
 by_cases h2 : 100 < n
 ·have c2 : decide ((n : Int) > 100) = true := Y2
  have c2' : decide (100 < n) = true := decide_eq_true h2
  have hr : scriptV sv s.data.toList = ([], 0, 8) := by rw [HS.out, if_neg h1, if_pos (by rw [HNL.out]; exact h2)]
  have HR9 := Yh hr
  clear hr
  go_wp2
  go_ret3
  rw [HR9.out]
  exact ⟨rfl, HK1.out⟩
 have c2 : decide ((n : Int) > 100) = false := Y3
 have c2' : decide (100 < n) = false := decide_eq_false h2
 have hr : scriptV sv s.data.toList = Bn.lines sv .zero 0 ls := by rw [HS.out, if_neg h1, if_neg (by rw [HNL.out]; exact h2)]
 have HR9 := Yh hr
 clear hr HS
 have HZB : Hid (BnAt w0.heap.size (w1.alloc (.cells (bnC .zero (.slice none 0 0) (.pointer none) (.slice none 0 0)) 76)) w1.heap.size .zero) := Yh ⟨Yo, _, _, _, Blk.new _ _ _, ⟨none, rfl, fun h => by simp [Bn.zero] at h⟩, .inl rfl, BufAt.nil _ _⟩
 go_wp2
 obtain ⟨g, hgg⟩ : ∃ g, w1.heap.size = g := ⟨_, rfl⟩
 rw [hgg] at HZB ⊢
 go_loopg [26] n (fun G i wr => LnsRel sv w0 gl g n ls G i wr)
 case atStart => exact ⟨0, .zero, Yo, Yo, rfl, by simp, by simp [Bn.zero], by simp [Bn.zero], HZB.out, HSR.out.below (below_new _ _), (HPW.out.below HK1.out).below (below_new _ _), Yc (below_new w1 _) HK1.out, HG.out⟩
 case round =>
  obtain ⟨q, b, hq, rfl, rfl, hlq, hob, hsb, hbn, hsr, hpw, hkr, hgd⟩ := hrel
  have HLQ := Yh hlq; have HBN := Yh hbn; have HSR2 := Yh hsr; have HPW2 := Yh hpw; have HKR := Yh hkr; have HGD := Yh hgd
  have ZR := hkr.size
  obtain ⟨hsl, cur, hcb, hcc⟩ := hsr
  have HCC := Yh hcc
  have cL := hcb.cell; have lL := hcb.lt
  clear hlq hbn hpw hkr hgd hcb hcc
  by_cases hlt : q < n
  ·have gp : decide ((q : Int) < (n : Int)) = true := Y2
   have gpn : decide (q < n) = true := decide_eq_true hlt
   have wp : IntKind.i64.wrap ((q : Int) + 1) = ((q + 1 : Nat) : Int) := Y4
   obtain ⟨l, hl⟩ : ∃ l, ls.getD q [] = l := ⟨_, rfl⟩
   have hdq : ls.drop q = l :: ls.drop (q + 1) := by
    rw [List.drop_eq_getElem_cons Yo, ← hl, Y8, Y9 Yo]; rfl
   have hlm : l ∈ ls := by rw [← hl, Y8, Y9 Yo]; exact List.getElem_mem _
   obtain ⟨⟨ha, hw9, hsv⟩, hll⟩ := HGD.out l hlm
   have hcl : cur[q]? = some (strV l) := by rw [← hl]; exact HCC.out q hlt
   have c9 : wr.cell? ⟨gl, q, none⟩ = some (.string ⟨l.toArray⟩) := (cL q).trans hcl
   have hlq2 : Bn.lines sv .zero 0 ls = Bn.lines sv b q (l :: ls.drop (q + 1)) := by rw [HLQ.out, hdq]
   have HLQ2 := Yh hlq2; have HW9 := Yh hw9; have HSV := Yh hsv
   have hfw := fieldsP_words ⟨l.toArray⟩ (by simpa using ha)
   have RF := Tryz.strings_FieldsFunc 32 #[] (enters_of Tryz.func32 Yr rfl) blankR ⟨l.toArray⟩ wr (by show l.toArray.size ≤ _; simp; omega) (blank_is wr)
   obtain ⟨fl, hfl⟩ : ∃ fl, goFieldsP blankR ⟨l.toArray⟩ = fl := ⟨_, rfl⟩
   rw [hfl] at hfw RF
   have hfw2 : fl.map (·.data.toList) = wordsGo [] l := by rw [hfw]
   have RF' := Yh RF; have HFW := Yh hfw2
   clear RF hfw hfw2 hfl hlq2 hw9 hsv ha hcl hdq hlm hl cL HLQ
   go_wp2_with fail
   refine RF'.out.mono ?_
   rintro e w3 ⟨A, rfl, hA, hrow, hb3⟩
   have HB3 := Yh hb3; have Z3 := hb3.size
   have hws := StrR.ofRow fl hrow
   rw [HFW.out] at hws
   obtain ⟨m, hm⟩ : ∃ m, fl.length = m := ⟨_, rfl⟩
   rw [hm] at hws ⊢
   have hwl : (wordsGo [] l).length = m := hws.1
   have hne := wordsGo_ne l []
   obtain ⟨ws, hwe⟩ : ∃ ws, wordsGo [] l = ws := ⟨_, rfl⟩
   rw [hwe] at hws hwl hne HW9 HSV
   have HWS := Yh hws; have HWE := Yh hwe
   obtain ⟨-, curW, hcb, hcc⟩ := hws
   have K3 : Below w0.heap.size w0 w3 := Yc hb3 HKR.out
   have HK3 := Yh K3
   have HB9 := Yh (HBN.out.below hb3); have HP9 := Yh (HPW2.out.below hb3); have HS9 := Yh (HSR2.out.below hb3)
   clear hrow hb3 RF' HFW hwe c9 hm K3
   cases ws with
   | nil =>
    have hm0 : m = 0 := by simpa using hwl.symm
    subst hm0
    have hnt : noteW (wordsGo [] l) = true := by rw [HWE.out]; rfl
    have HNT := Yh hnt
    clear hnt hcb hcc
    go_wp2
    go_roundg (n - (q + 1))
    case measure => omega
    case rel => exact ⟨q + 1, b, Yo, Yo, by go_num, by rw [HLQ2.out, lines_note HNT.out], Yo, hsb, HB9.out, HS9.out, HP9.out, HK3.out, HGD.out⟩
   | cons x ws' =>
    have hm1 : 0 < m := by simp at hwl; omega
    have hmz : (m == 0) = false := by simp; omega
    have hmz2 : ((m : Int) == 0) = false := by simp; omega
    have hmz3 : decide (m = 0) = false := Y3
    have hmz4 : decide (0 < m) = true := decide_eq_true hm1
    have hmz5 : decide ((0 : Int) < (m : Int)) = true := Y2
    have hx0 := hne x Ys
    have hcx : curW[0]? = some (strV x) := hcc 0 hm1
    cases x with
    | nil => exact absurd rfl hx0
    | cons c0 xr =>
    have c9 : w3.cell? ⟨A, 0, none⟩ = some (.string ⟨(c0 :: xr).toArray⟩) := (hcb.cell 0).trans hcx
    have l9 := hcb.lt
    have hix : ∀ (P : Program) (W : World), True := fun _ _ => trivial
    clear hx0 hcx hix hne
    by_cases hh : c0 = 35
    ·have hnt : noteW (wordsGo [] l) = true := by rw [HWE.out, hh]; rfl
     have HNT := Yh hnt
     clear hnt hcb hcc
     subst hh
     go_wp2
     go_roundg (n - (q + 1))
     case measure => omega
     case rel => exact ⟨q + 1, b, Yo, Yo, by go_num, by rw [HLQ2.out, lines_note HNT.out], Yo, hsb, HB9.out, HS9.out, HP9.out, HK3.out, HGD.out⟩
    ·have hix0 : (⟨(c0 :: xr).toArray⟩ : ByteArray)[0]'(by show 0 < (c0 :: xr).toArray.size; simp) = c0 := rfl
     have hh1 : (c0.toNat == 35) = false := by
      rw [beq_eq_false_iff_ne]; intro e; exact hh (UInt8.toNat_inj.1 e)
     have hh2 : ((c0.toNat : Int) == 35) = false := by
      rw [beq_eq_false_iff_ne]; intro e; exact hh (UInt8.toNat_inj.1 (by simpa using (by omega : c0.toNat = 35)))
     have hh3 : decide (c0.toNat = 35) = false := by simpa using hh1
     have hh4 : decide ((c0.toNat : Int) = 35) = false := by simpa using hh2
     have hnt : noteW (wordsGo [] l) = false := by
      rw [HWE.out]
      show (c0 == 35) = false
      simpa using hh
     have HNT := Yh hnt
     have hex := exec_any sv w0.heap.size g b A m ((c0 :: xr) :: ws') w3 HB9.out HWS.out hm1 (by have h9 := HNT.out; rw [HWE.out] at h9; exact HW9.out h9) HP9.out Yo hsb (fun e => (HSV.out e).1) (by have h9 := wordsGo_len l []; rw [HWE.out] at h9; simp at hwl h9; omega)
     have hinv := inv_exec sv b ((c0 :: xr) :: ws') hsb (fun e => (HSV.out e).2)
     rw [← HWE.out] at hex hinv
     obtain ⟨r, hrr⟩ : ∃ r, b.exec sv (wordsGo [] l) = r := ⟨_, rfl⟩
     rw [hrr] at hex hinv
     have HEX := Yh hex; have HRR := Yh hrr
     obtain ⟨b', e'⟩ := r
     obtain ⟨hi1, hi2⟩ := hinv
     clear hnt hcb hcc hex hrr
     dsimp only at hi1 hi2
     go_wp2_with fail
     refine HEX.out.mono ?_
     rintro e w4 ⟨rfl, h4, hT4⟩
     dsimp only at h4
     have H4 := Yh h4; have HT4 := Yh hT4; have Z4 := hT4.1
     clear h4 hT4 c9 l9 HEX
     dsimp only
     by_cases he : e' = 0
     ·subst he
      go_wp2
      go_roundg (n - (q + 1))
      case measure => omega
      case rel => exact ⟨q + 1, b', Yo, Yo, by go_num, by rw [HLQ2.out, lines_go HNT.out (by rw [HRR.out]), HRR.out], Yo, hi2, H4.out, HS9.out.pastT HT4.out Yd, HP9.out.pastT HT4.out, HK3.out.trans (HT4.out.toBelow Yo), HGD.out⟩
     ·have g1 : (e' == 0) = false := by simpa using he
      have g2 : decide (e' = 0) = false := by simpa using he
      have g3 : (e' != 0) = true := by simpa using he
      have hrv : scriptV sv s.data.toList = ([], (q : Int) + 1, e') := by rw [HR9.out, HLQ2.out, lines_bad HNT.out (by rw [HRR.out]; exact he), HRR.out]
      have HRV := Yh hrv
      clear hrv
      go_wp2
      go_ret3
      rw [HRV.out]
      exact ⟨rfl, HK3.out.trans (HT4.out.toBelow Yo)⟩
  ·obtain rfl : q = n := by omega
   have gp : decide ((q : Int) < (q : Int)) = false := Y3
   have gpn : decide (q < q) = false := Y3
   have hrv : scriptV sv s.data.toList = (b.out, 0, 0) := by rw [HR9.out, HLQ.out, List.drop_of_length_le Yo]; rfl
   have HRV := Yh hrv
   obtain ⟨hB, VL, pq, v, e1, e2, e3, e4⟩ := HBN.out
   have RS := Yh (bstr_any w0.heap.size g _ _ _ _ _ _ _ _ _ _ pq v b.out wr e1 e4 hB Yo)
   have hglt := e1.lt
   clear hrv e1 e2 e3 e4 cL lL
   go_wp2_with fail
   refine RS.out.mono ?_
   rintro e w4 ⟨rfl, hb4⟩
   go_wp2
   go_ret3
   rw [HRV.out]
   exact ⟨rfl, HKR.out.trans hb4⟩
def noSave : Sv := fun b _ _ _ => (b, 0)
def kTxt : List UInt8 := [115, 111, 117, 114, 99, 101, 115, 32, 49, 32, 48, 10, 115, 97, 109, 112, 108, 101, 32, 48, 32, 49, 48, 48, 32, 49, 54, 48, 32, 49, 55, 48, 32, 49, 51, 48, 32, 50, 10, 110, 111, 119, 32, 49, 51, 49, 10, 114, 101, 97, 100, 32, 48, 32, 49, 51, 49, 10]
def kRep : List UInt8 := [115, 111, 117, 114, 99, 101, 115, 32, 49, 32, 48, 10, 108, 101, 97, 114, 110, 116, 32, 48, 32, 49, 54, 56, 32, 49, 57, 50, 10, 115, 112, 97, 110, 32, 49, 54, 57, 32, 49, 57, 51, 10, 99, 108, 111, 99, 107, 32, 49, 54, 57, 32, 102, 114, 101, 101, 10]
def kLns : List (List UInt8) := [lnW wSources [1, 0], lnW wSample [0, 100, 160, 170, 130, 2], lnW wNow [131], lnW wRead [0, 131]]
theorem kTxt_is : kTxt = lnsT kLns := by
 simp [kTxt, kLns, lnsT, lnW, numL, itoa, decDigits, wSources, wSample, wNow, wRead]
theorem atT_k : atT 100 160 170 130 2 0 = (168, 192, 0) := by
 have h0 := (el_none (d := (30 : Int)) ).2
 unfold atT
 rw [show exE 100 160 170 130 2 = 0 by decide, if_pos rfl, show (130 : Int) - 100 = 30 by decide, h0]
 rw [if_pos Yd, if_neg Yd]
 rfl
def kK : K6 := ⟨130, 168, 192, 0, 0, 0⟩
theorem beg_k : begK 130 168 192 0 = kK ∧ kE 130 168 192 0 0 0 = 0 := by
 have h : kE 130 168 192 0 0 0 = 0 := by decide
 exact ⟨by unfold begK; rw [if_pos h]; rfl, h⟩
theorem now_k : nowK 131 kK = (169, 193, 0) := by
 have h : kE 130 168 192 0 0 0 = 0 := by decide
 show nowT 130 168 192 0 0 0 131 = _
 rw [nowT_ok h Yd Yd, show (131 : Int) - 130 = 1 by decide, (el_none (d := (1 : Int))).1, (el_none (d := (1 : Int))).2]
 decide
theorem mg_one {k : K6} {u x y : Int} (h : nowK u k = (x, y, 0)) (hv : vS x y = true) : mgO [k] u 0 = (x, y, 0) := by
 have hm := mgO_spec [k] u 0
 obtain ⟨x', y', er, hxy⟩ : ∃ x' y' er, mgO [k] u 0 = (x', y', er) := ⟨_, _, _, rfl⟩
 rw [hxy] at hm ⊢
 dsimp only at hm
 have hs : [k].map (spK u) = [(x, y)] := by simp [spK, h]
 have hle := (vS_true.1 hv).2.1
 rcases hm with ⟨h1, -⟩ | ⟨-, i, hi, -, hne, -⟩ | ⟨-, -, hax⟩
 ·simp at h1
 ·have : i = 0 := by simp at hi; omega
  subst this
  exact absurd (by show (nowK u k).2.2 = 0; rw [h]) hne
 ·rw [hs] at hax
  have hck : ckE [(x, y)] = 0 := ckE_0 Ys (bad_of (fun z hz => by simp at hz; subst hz; exact hv))
  have hq : qE [(x, y)] 0 = 0 := qE_ok hck Ys
  have hin : ∀ t, x ≤ t → t ≤ y → cntS [(x, y)] t = 1 := fun t h1 h2 => by rw [cntS_cons]; simp [inS, hv, h1, h2, cntS]
  obtain ⟨e0, a1, a2, a3⟩ := AX_truth hax hq (t := x) (by rw [hin x (Int.le_refl _) hle]; simp)
  obtain ⟨-, b1, b2, -⟩ := AX_truth hax hq (t := y) (by rw [hin y hle (Int.le_refl _)]; simp)
  obtain ⟨-, c1, c2, -⟩ := AX_ends hax e0
  have hout : ∀ t, 1 ≤ cntS [(x, y)] t → x ≤ t ∧ t ≤ y := fun t ht => by
   rw [cntS_cons] at ht
   by_cases hi : inS t (x, y) = true
   ·simp [inS] at hi; exact ⟨hi.2.1, hi.2.2⟩
   ·rw [if_neg hi] at ht; simp [cntS] at ht
  have d1 := hout x' (by simpa using c1)
  have d2 := hout y' (by simpa using c2)
  have e1 : x' = x := by omega
  have e2 : y' = y := by omega
  rw [e1, e2, e0]
theorem known_script (sv : Sv) : scriptV sv kTxt = (kRep, 0, 0) := by
 have hl : cutAt 10 (trimSuffix kTxt [10]) = kLns := by
  rw [kTxt_is]
  refine script_lns sv _ (by simp [kLns]) (fun l hl => ?_)
  simp only [kLns, List.mem_cons, List.mem_nil_iff, or_false] at hl
  rcases hl with rfl | rfl | rfl | rfl
  ·exact fun h => (ln_chars .sources _ _ h).2 rfl
  ·exact fun h => (ln_chars .sample _ _ h).2 rfl
  ·exact fun h => (ln_chars .now _ _ h).2 rfl
  ·exact fun h => (ln_chars .read _ _ h).2 rfl
 unfold scriptV
 rw [hl, if_neg Yd, if_neg Yd]
 have sm : ∀ ns : List Int, (∀ n ∈ ns, 0 ≤ n ∧ n ≤ 1000) → ∀ n ∈ ns, small17 n := fun ns h n hn => ⟨by have := (h n hn).1; omega, by have := (h n hn).2; omega⟩
 have hm := mg_one now_k Yd
 let b1 : Bn := ⟨true, [(false, .zero)], 0, 0, .zero, sayL wSources [1, 0]⟩
 let b2 : Bn := ⟨true, [(true, kK)], 0, 0, .zero, sayL wSources [1, 0] ++ sayL wLearnt [0, 168, 192]⟩
 let b3 : Bn := ⟨true, [(true, kK)], 0, 0, .zero, b2.out ++ sayL wSpan [169, 193]⟩
 have e1 : Bn.zero.run sv .sources [1, 0] = (b1, 0) := by
  show Bn.zero.sources 1 0 = _
  unfold Bn.sources
  rw [if_pos Yd]; rfl
 have e2 : b1.run sv .sample [0, 100, 160, 170, 130, 2] = (b2, 0) := by
  show b1.sample 0 100 160 170 130 2 = _
  unfold Bn.sample
  rw [if_pos Yd]
  show b1.heard 0 130 (atT 100 160 170 130 2 0) = _
  rw [atT_k]
  unfold Bn.heard
  rw [if_pos rfl]
  show b1.took 0 168 192 (kE 130 168 192 0 0 0, true, begK 130 168 192 0) = _
  rw [beg_k.1, beg_k.2]
  unfold Bn.took
  rw [if_pos rfl]; rfl
 have e3 : b2.run sv .now [131] = (b3, 0) := by
  show b2.nowT (mgO [kK] 131 0) = _
  rw [hm]
  unfold Bn.nowT
  rw [if_pos rfl]; rfl
 have hrd : readK ⟨0, 1000000, false, false, 0, 0⟩ 131 169 193 = ⟨0, 1000000, true, false, 131, 169⟩ := by unfold readK; rw [if_pos Yd]; rfl
 have e4 : b3.run sv .read [0, 131] = (b3.shows ⟨0, 1000000, true, false, 131, 169⟩, 0) := by
  show b3.readT 0 131 (mgO [kK] 131 0) = _
  rw [hm]
  unfold Bn.readT
  rw [if_pos rfl, if_pos Yd]
  show (b3.shows (readK ⟨0, 1000000, false, false, 0, 0⟩ 131 169 193), _) = _
  rw [hrd]
 show Bn.lines sv .zero 0 (lnW (Cmd.word .sources) [1, 0] :: lnW (Cmd.word .sample) [0, 100, 160, 170, 130, 2] :: lnW (Cmd.word .now) [131] :: lnW (Cmd.word .read) [0, 131] :: []) = _
 rw [lines_cmd sv _ _ .sources [1, 0] _ rfl (sm _ Yd) (by rw [e1]), e1, lines_cmd sv _ _ .sample _ _ rfl (sm _ Yd) (by rw [e2]), e2, lines_cmd sv _ _ .now _ _ rfl (sm _ Yd) (by rw [e3]), e3, lines_cmd sv _ _ .read _ _ rfl (sm _ Yd) (by rw [e4]), e4]
 show (b3.out ++ sayL (wClock ++ itoa 169 ++ wFree) [], (0 : Int), (0 : Int)) = _
 congr 1
 have i0 : itoa 0 = [48] := by simp [itoa, decDigits]
 have i1 : itoa 1 = [49] := by simp [itoa, decDigits]
 have i2 : itoa 168 = [49, 54, 56] := by simp [itoa, decDigits]
 have i3 : itoa 192 = [49, 57, 50] := by simp [itoa, decDigits]
 have i4 : itoa 169 = [49, 54, 57] := by simp [itoa, decDigits]
 have i5 : itoa 193 = [49, 57, 51] := by simp [itoa, decDigits]
 simp only [b3, b2, sayL, List.flatMap_cons, List.flatMap_nil, i0, i1, i2, i3, i4, i5]
 rfl
theorem good_k : ∀ l ∈ cutAt 10 (trimSuffix kTxt [10]), GoodL noSave l := by
 have hl : cutAt 10 (trimSuffix kTxt [10]) = kLns := by
  rw [kTxt_is]
  refine script_lns noSave _ (by simp [kLns]) (fun l hl => ?_)
  simp only [kLns, List.mem_cons, List.mem_nil_iff, or_false] at hl
  rcases hl with rfl | rfl | rfl | rfl
  ·exact fun h => (ln_chars .sources _ _ h).2 rfl
  ·exact fun h => (ln_chars .sample _ _ h).2 rfl
  ·exact fun h => (ln_chars .now _ _ h).2 rfl
  ·exact fun h => (ln_chars .read _ _ h).2 rfl
 have sm : ∀ ns : List Int, (∀ n ∈ ns, 0 ≤ n ∧ n ≤ 1000) → ∀ n ∈ ns, small17 n := fun ns h n hn => ⟨by have := (h n hn).1; omega, by have := (h n hn).2; omega⟩
 rw [hl]
 intro l hl
 simp only [kLns, List.mem_cons, List.mem_nil_iff, or_false] at hl
 rcases hl with rfl | rfl | rfl | rfl
 ·exact goodL_cmd noSave .sources _ (by intro h; cases h) (sm _ Yd)
 ·exact goodL_cmd noSave .sample _ (by intro h; cases h) (sm _ Yd)
 ·exact goodL_cmd noSave .now _ (by intro h; cases h) (sm _ Yd)
 ·exact goodL_cmd noSave .read _ (by intro h; cases h) (sm _ Yd)
theorem known43_any (w : World) (hpow : Pow10 w) (hml : MaxLenAt w) : Calls Tryz.prog 11 #[] w (RB w (.bool true)) := by
 have R := run43_any noSave ⟨kTxt.toArray⟩ w hpow hml Yd (by simpa using good_k)
 rw [show (⟨kTxt.toArray⟩ : ByteArray).data.toList = kTxt from rfl, known_script] at R
 have R1 := Yh R
 clear R hpow hml
 unfold scR at R1
 dsimp only at R1
 go_enter Tryz.func11, Tryz.ntmps11
 go_wp2_with fail
 refine R1.out.mono ?_
 rintro e w1 ⟨rfl, hb1⟩
 go_wp2
 go_ret
 exact ⟨rfl, hb1⟩
end Go.Proofs.YtiinmhfolfgobaaGreatDoor
