/- Texts joined: WkK, WkL -/
import Derived.Test.YtiinmhfolfgobaaGreatDoorJ48
import Derived.Test.YtiinmhfolfgobaaGreatDoorWkR
namespace Go.Proofs.YtiinmhfolfgobaaGreatDoor
open Go.RowKit Go.Lib
set_option linter.unusedSimpArgs false
set_option linter.unusedVariables false

/-- Where nothing is saved. -/
def noSave : Sv := fun b _ _ _ => (b, 0)
def kTxt : List UInt8 := [115, 111, 117, 114, 99, 101, 115, 32, 49, 32, 48, 10, 115, 97, 109, 112, 108, 101, 32, 48, 32, 49, 48, 48, 32, 49, 54, 48, 32, 49, 55, 48, 32, 49, 51, 48, 32, 50, 10, 110, 111, 119, 32, 49, 51, 49, 10, 114, 101, 97, 100, 32, 48, 32, 49, 51, 49, 10]
def kRep : List UInt8 := [115, 111, 117, 114, 99, 101, 115, 32, 49, 32, 48, 10, 108, 101, 97, 114, 110, 116, 32, 48, 32, 49, 54, 56, 32, 49, 57, 50, 10, 115, 112, 97, 110, 32, 49, 54, 57, 32, 49, 57, 51, 10, 99, 108, 111, 99, 107, 32, 49, 54, 57, 32, 102, 114, 101, 101, 10]
def kLns : List (List UInt8) := [lnW wSources [1, 0], lnW wSample [0, 100, 160, 170, 130, 2], lnW wNow [131], lnW wRead [0, 131]]
theorem kTxt_is : kTxt = lnsT kLns := by
  simp [kTxt, kLns, lnsT, lnW, numL, itoa, decDigits, wSources, wSample, wNow, wRead]
theorem atT_k : atT 100 160 170 130 2 0 = (168, 192, 0) := by
  have h0 := (el_none (d := (30 : Int)) ).2
  unfold atT
  rw [show exE 100 160 170 130 2 = 0 by decide, if_pos rfl, show (130 : Int) - 100 = 30 by decide, h0]
  rw [if_pos (by decide), if_neg (by decide)]
  rfl
def kK : K6 := ⟨130, 168, 192, 0, 0, 0⟩
theorem beg_k : begK 130 168 192 0 = kK ∧ kE 130 168 192 0 0 0 = 0 := by
  have h : kE 130 168 192 0 0 0 = 0 := by decide
  exact ⟨by unfold begK; rw [if_pos h]; rfl, h⟩
theorem now_k : nowK 131 kK = (169, 193, 0) := by
  have h : kE 130 168 192 0 0 0 = 0 := by decide
  show nowT 130 168 192 0 0 0 131 = _
  rw [nowT_ok h (by decide) (by decide), show (131 : Int) - 130 = 1 by decide, (el_none (d := (1 : Int))).1, (el_none (d := (1 : Int))).2]
  decide
theorem mg_one {k : K6} {u x y : Int} (h : nowK u k = (x, y, 0)) (hv : vS x y = true) : mgO [k] u 0 = (x, y, 0) := by
  have hm := mgO_spec [k] u 0
  obtain ⟨x', y', er, hxy⟩ : ∃ x' y' er, mgO [k] u 0 = (x', y', er) := ⟨_, _, _, rfl⟩
  rw [hxy] at hm ⊢
  dsimp only at hm
  have hs : [k].map (spK u) = [(x, y)] := by simp [spK, h]
  have hle := (vS_true.1 hv).2.1
  rcases hm with ⟨h1, -⟩ | ⟨-, i, hi, -, hne, -⟩ | ⟨-, -, hax⟩
  · simp at h1
  · have : i = 0 := by simp at hi; omega
    subst this
    exact absurd (by show (nowK u k).2.2 = 0; rw [h]) hne
  · rw [hs] at hax
    have hck : ckE [(x, y)] = 0 := ckE_0 (by simp) (bad_of (fun z hz => by simp at hz; subst hz; exact hv))
    have hq : qE [(x, y)] 0 = 0 := qE_ok hck (by simp)
    have hin : ∀ t, x ≤ t → t ≤ y → cntS [(x, y)] t = 1 := fun t h1 h2 => by rw [cntS_cons]; simp [inS, hv, h1, h2, cntS]
    obtain ⟨e0, a1, a2, a3⟩ := AX_truth hax hq (t := x) (by rw [hin x (Int.le_refl _) hle]; simp)
    obtain ⟨-, b1, b2, -⟩ := AX_truth hax hq (t := y) (by rw [hin y hle (Int.le_refl _)]; simp)
    obtain ⟨-, c1, c2, -⟩ := AX_ends hax e0
    have hout : ∀ t, 1 ≤ cntS [(x, y)] t → x ≤ t ∧ t ≤ y := fun t ht => by
      rw [cntS_cons] at ht
      by_cases hi : inS t (x, y) = true
      · simp [inS] at hi; exact ⟨hi.2.1, hi.2.2⟩
      · rw [if_neg hi] at ht; simp [cntS] at ht
    have d1 := hout x' (by simpa using c1)
    have d2 := hout y' (by simpa using c2)
    have e1 : x' = x := by omega
    have e2 : y' = y := by omega
    rw [e1, e2, e0]
theorem known_script (sv : Sv) : scriptV sv kTxt = (kRep, 0, 0) := by
  have hl : cutAt 10 (trimSuffix kTxt [10]) = kLns := by
    rw [kTxt_is]
    refine script_lns sv _ (by simp [kLns]) (fun l hl => ?_)
    simp only [kLns, List.mem_cons, List.mem_nil_iff, or_false] at hl
    rcases hl with rfl | rfl | rfl | rfl
    · exact fun h => (ln_chars .sources _ _ h).2 rfl
    · exact fun h => (ln_chars .sample _ _ h).2 rfl
    · exact fun h => (ln_chars .now _ _ h).2 rfl
    · exact fun h => (ln_chars .read _ _ h).2 rfl
  unfold scriptV
  rw [hl, if_neg (by decide), if_neg (by decide)]
  have sm : ∀ ns : List Int, (∀ n ∈ ns, 0 ≤ n ∧ n ≤ 1000) → ∀ n ∈ ns, small17 n := fun ns h n hn => ⟨by have := (h n hn).1; omega, by have := (h n hn).2; omega⟩
  have hm := mg_one now_k (by decide)
  let b1 : Bn := ⟨true, [(false, .zero)], 0, 0, .zero, sayL wSources [1, 0]⟩
  let b2 : Bn := ⟨true, [(true, kK)], 0, 0, .zero, sayL wSources [1, 0] ++ sayL wLearnt [0, 168, 192]⟩
  let b3 : Bn := ⟨true, [(true, kK)], 0, 0, .zero, b2.out ++ sayL wSpan [169, 193]⟩
  have e1 : Bn.zero.run sv .sources [1, 0] = (b1, 0) := by
    show Bn.zero.sources 1 0 = _
    unfold Bn.sources
    rw [if_pos (by decide)]; rfl
  have e2 : b1.run sv .sample [0, 100, 160, 170, 130, 2] = (b2, 0) := by
    show b1.sample 0 100 160 170 130 2 = _
    unfold Bn.sample
    rw [if_pos (by decide)]
    show b1.heard 0 130 (atT 100 160 170 130 2 0) = _
    rw [atT_k]
    unfold Bn.heard
    rw [if_pos rfl]
    show b1.took 0 168 192 (kE 130 168 192 0 0 0, true, begK 130 168 192 0) = _
    rw [beg_k.1, beg_k.2]
    unfold Bn.took
    rw [if_pos rfl]; rfl
  have e3 : b2.run sv .now [131] = (b3, 0) := by
    show b2.nowT (mgO [kK] 131 0) = _
    rw [hm]
    unfold Bn.nowT
    rw [if_pos rfl]; rfl
  have hrd : readK ⟨0, 1000000, false, false, 0, 0⟩ 131 169 193 = ⟨0, 1000000, true, false, 131, 169⟩ := by unfold readK; rw [if_pos (by decide)]; rfl
  have e4 : b3.run sv .read [0, 131] = (b3.shows ⟨0, 1000000, true, false, 131, 169⟩, 0) := by
    show b3.readT 0 131 (mgO [kK] 131 0) = _
    rw [hm]
    unfold Bn.readT
    rw [if_pos rfl, if_pos (by decide)]
    show (b3.shows (readK ⟨0, 1000000, false, false, 0, 0⟩ 131 169 193), _) = _
    rw [hrd]
  show Bn.lines sv .zero 0 (lnW (Cmd.word .sources) [1, 0] :: lnW (Cmd.word .sample) [0, 100, 160, 170, 130, 2] :: lnW (Cmd.word .now) [131] :: lnW (Cmd.word .read) [0, 131] :: []) = _
  rw [lines_cmd sv _ _ .sources [1, 0] _ rfl (sm _ (by decide)) (by rw [e1]), e1, lines_cmd sv _ _ .sample _ _ rfl (sm _ (by decide)) (by rw [e2]), e2, lines_cmd sv _ _ .now _ _ rfl (sm _ (by decide)) (by rw [e3]), e3, lines_cmd sv _ _ .read _ _ rfl (sm _ (by decide)) (by rw [e4]), e4]
  show (b3.out ++ sayL (wClock ++ itoa 169 ++ wFree) [], (0 : Int), (0 : Int)) = _
  congr 1
  have i0 : itoa 0 = [48] := by simp [itoa, decDigits]
  have i1 : itoa 1 = [49] := by simp [itoa, decDigits]
  have i2 : itoa 168 = [49, 54, 56] := by simp [itoa, decDigits]
  have i3 : itoa 192 = [49, 57, 50] := by simp [itoa, decDigits]
  have i4 : itoa 169 = [49, 54, 57] := by simp [itoa, decDigits]
  have i5 : itoa 193 = [49, 57, 51] := by simp [itoa, decDigits]
  simp only [b3, b2, sayL, List.flatMap_cons, List.flatMap_nil, i0, i1, i2, i3, i4, i5]
  rfl
theorem good_k : ∀ l ∈ cutAt 10 (trimSuffix kTxt [10]), GoodL noSave l := by
  have hl : cutAt 10 (trimSuffix kTxt [10]) = kLns := by
    rw [kTxt_is]
    refine script_lns noSave _ (by simp [kLns]) (fun l hl => ?_)
    simp only [kLns, List.mem_cons, List.mem_nil_iff, or_false] at hl
    rcases hl with rfl | rfl | rfl | rfl
    · exact fun h => (ln_chars .sources _ _ h).2 rfl
    · exact fun h => (ln_chars .sample _ _ h).2 rfl
    · exact fun h => (ln_chars .now _ _ h).2 rfl
    · exact fun h => (ln_chars .read _ _ h).2 rfl
  have sm : ∀ ns : List Int, (∀ n ∈ ns, 0 ≤ n ∧ n ≤ 1000) → ∀ n ∈ ns, small17 n := fun ns h n hn => ⟨by have := (h n hn).1; omega, by have := (h n hn).2; omega⟩
  rw [hl]
  intro l hl
  simp only [kLns, List.mem_cons, List.mem_nil_iff, or_false] at hl
  rcases hl with rfl | rfl | rfl | rfl
  · exact goodL_cmd noSave .sources _ (by intro h; cases h) (sm _ (by decide))
  · exact goodL_cmd noSave .sample _ (by intro h; cases h) (sm _ (by decide))
  · exact goodL_cmd noSave .now _ (by intro h; cases h) (sm _ (by decide))
  · exact goodL_cmd noSave .read _ (by intro h; cases h) (sm _ (by decide))

set_option maxHeartbeats 4000000 in
set_option maxRecDepth 100000 in
theorem known43_any (w : World) (hpow : Pow10 w) (hml : MaxLenAt w) : Calls Tryz.prog 11 #[] w (RB w (.bool true)) := by
  have R := run43_any noSave ⟨kTxt.toArray⟩ w hpow hml (by decide) (by simpa using good_k)
  rw [show (⟨kTxt.toArray⟩ : ByteArray).data.toList = kTxt from rfl, known_script] at R
  have R1 := Lib.hid R
  clear R hpow hml
  unfold scR at R1
  dsimp only at R1
  go_enter Tryz.func11, Tryz.ntmps11
  go_wp2_with fail
  refine R1.out.mono ?_
  rintro e w1 ⟨rfl, hb1⟩
  go_wp2
  go_ret
  exact ⟨rfl, hb1⟩
end Go.Proofs.YtiinmhfolfgobaaGreatDoor
namespace Go.Proofs.YtiinmhfolfgobaaGreatDoor
open Go.RowKit Go.Lib
set_option linter.unusedSimpArgs false
set_option linter.unusedVariables false

/-- The lines of the script, and what stands behind it. -/
def pcL (i : Nat) : List UInt8 := if i % 3 = 0 then [] else if i % 3 = 1 then [35, 32, 97] else [117, 116, 99, 32, 53]
def lsL (k : Nat) : List (List UInt8) := (List.range k).map pcL
def whatL : List UInt8 := [119, 104, 97, 116]
theorem lsL_next (k : Nat) : lnsT (lsL (k + 1)) = lnsT (lsL k) ++ (pcL k ++ [10]) := by
  unfold lsL
  rw [List.range_succ, List.map_append, lnsT_app]
  rfl
theorem lsL_len : ∀ k, (lnsT (lsL k)).length ≤ 6 * k
  | 0 => by simp [lsL, lnsT]
  | k + 1 => by
    have h1 := lsL_len k
    have h2 : (pcL k).length ≤ 5 := by unfold pcL; split <;> (try split) <;> decide
    rw [lsL_next]; simp only [List.length_append, List.length_singleton]; omega
theorem pcL_cases (i : Nat) : pcL i = [] ∨ pcL i = [35, 32, 97] ∨ pcL i = lnW wUtc [5] := by
  have e : lnW wUtc [5] = [117, 116, 99, 32, 53] := by simp [lnW, numL, itoa, decDigits, wUtc]
  rw [e]
  unfold pcL
  split
  · exact .inl rfl
  · split
    · exact .inr (.inl rfl)
    · exact .inr (.inr rfl)
theorem five : ∀ n ∈ ([5] : List Int), small17 n := fun n hn => by simp at hn; subst hn; exact ⟨by decide, by decide⟩
theorem goodL_pc {l : List UInt8} (h : l = [] ∨ l = [35, 32, 97] ∨ l = lnW wUtc [5]) : GoodL noSave l ∧ (10 : UInt8) ∉ l := by
  rcases h with rfl | rfl | rfl
  · exact ⟨⟨fun b hb => by simp at hb, fun h => by simp [wordsGo, noteW] at h, fun h => by simp [wordsGo, cmdOf, wSources, wDrift, wSample, wNow, wRead, wUtc, wSave] at h⟩, by simp⟩
  · exact ⟨⟨by decide, fun h => by simp [wordsGo, noteW] at h, fun h => by simp [wordsGo, cmdOf, wSources, wDrift, wSample, wNow, wRead, wUtc, wSave] at h⟩, by decide⟩
  · exact ⟨goodL_cmd noSave .utc [5] (by intro h; cases h) five, fun h => (ln_chars .utc [5] _ h).2 rfl⟩
theorem goodL_what : GoodL noSave whatL ∧ (10 : UInt8) ∉ whatL := by
  refine ⟨⟨by decide, fun _ x hx => by simp [whatL, wordsGo] at hx, fun h => by simp [whatL, wordsGo, cmdOf, wSources, wDrift, wSample, wNow, wRead, wUtc, wSave] at h⟩, by decide⟩
theorem lsL_mem {k : Nat} {l : List UInt8} (h : l ∈ lsL k) : l = [] ∨ l = [35, 32, 97] ∨ l = lnW wUtc [5] := by
  unfold lsL at h
  obtain ⟨i, -, rfl⟩ := List.mem_map.1 h
  exact pcL_cases i
theorem lines_pc (rest : List (List UInt8)) : ∀ (ls : List (List UInt8)), (∀ l ∈ ls, l = [] ∨ l = [35, 32, 97] ∨ l = lnW wUtc [5]) → ∀ (b : Bn) (q : Nat), ∃ b', Bn.lines noSave b q (ls ++ rest) = Bn.lines noSave b' (q + ls.length) rest
  | [], _, b, q => ⟨b, by simp⟩
  | l :: ls, h, b, q => by
    have ih := lines_pc rest ls (fun x hx => h x (by simp [hx]))
    rcases h l (by simp) with rfl | rfl | rfl
    · obtain ⟨b', e⟩ := ih b (q + 1)
      exact ⟨b', by rw [List.cons_append, lines_note (by rfl), e, List.length_cons]; congr 1; omega⟩
    · obtain ⟨b', e⟩ := ih b (q + 1)
      exact ⟨b', by rw [List.cons_append, lines_note (by rfl), e, List.length_cons]; congr 1; omega⟩
    · obtain ⟨b', e⟩ := ih (b.run noSave .utc [5]).1 (q + 1)
      exact ⟨b', by rw [List.cons_append, show lnW wUtc [5] = lnW (Cmd.word .utc) [5] from rfl, lines_cmd noSave b q .utc [5] _ rfl five rfl, e, List.length_cons]; congr 1; omega⟩
theorem cut_a (k : Nat) (hk : 0 < k) : cutAt 10 (trimSuffix (lnsT (lsL k)) [10]) = lsL k :=
  script_lns noSave _ (by unfold lsL; intro h; have := congrArg List.length h; simp at this; omega) (fun l hl => (goodL_pc (lsL_mem hl)).2)
theorem cut_b (k : Nat) : cutAt 10 (trimSuffix (lnsT (lsL k) ++ whatL) [10]) = lsL k ++ [whatL] :=
  script_end noSave _ _ (by decide) (fun l hl => (goodL_pc (lsL_mem hl)).2) goodL_what.2
theorem lsL_length (k : Nat) : (lsL k).length = k := by simp [lsL]
theorem good_a (k : Nat) : ∀ l ∈ cutAt 10 (trimSuffix (lnsT (lsL k)) [10]), GoodL noSave l := by
  rcases Nat.eq_zero_or_pos k with rfl | hk
  · intro l hl
    have : l = [] := by simpa [lsL, lnsT, trimSuffix, hasSuffix, cutAt] using hl
    exact (goodL_pc (.inl this)).1
  · rw [cut_a k hk]
    exact fun l hl => (goodL_pc (lsL_mem hl)).1
theorem good_b (k : Nat) : ∀ l ∈ cutAt 10 (trimSuffix (lnsT (lsL k) ++ whatL) [10]), GoodL noSave l := by
  rw [cut_b]
  intro l hl
  rcases List.mem_append.1 hl with hl | hl
  · exact (goodL_pc (lsL_mem hl)).1
  · simp at hl; subst hl; exact goodL_what.1
theorem val_a (k : Nat) (hk : k ≤ 110) : ∃ out, scriptV noSave (lnsT (lsL k)) = (out, 0, if 100 < k then 8 else 0) := by
  have hl := lsL_len k
  unfold scriptV
  rw [if_neg (by omega)]
  rcases Nat.eq_zero_or_pos k with rfl | h0
  · exact ⟨[], rfl⟩
  · rw [cut_a k h0, lsL_length]
    by_cases h : 100 < k
    · rw [if_pos h, if_pos h]; exact ⟨_, rfl⟩
    · rw [if_neg h, if_neg h]
      obtain ⟨b', e⟩ := lines_pc [] (lsL k) (fun l hl => lsL_mem hl) .zero 0
      rw [List.append_nil] at e
      rw [e]
      exact ⟨_, rfl⟩
theorem val_b (k : Nat) (hk : k ≤ 110) : scriptV noSave (lnsT (lsL k) ++ whatL) = if 100 ≤ k then ([], 0, 8) else ([], (k : Int) + 1, 29) := by
  have hl := lsL_len k
  unfold scriptV
  rw [if_neg (by rw [List.length_append]; show ¬ 4096 < _ + 4; omega), cut_b, List.length_append, lsL_length]
  by_cases h : 100 ≤ k
  · rw [if_pos (by show 100 < k + 1; omega), if_pos h]
  · rw [if_neg (by show ¬ 100 < k + 1; omega), if_neg h]
    obtain ⟨b', e⟩ := lines_pc [whatL] (lsL k) (fun l hl => lsL_mem hl) .zero 0
    rw [e, Nat.zero_add, lsL_length]
    have hx : (b'.exec noSave (wordsGo [] whatL)) = (b', 29) := by rfl
    rw [lines_bad (by rfl) (by rw [hx]; show (29 : Int) ≠ 0; decide), hx]
def LmRel (w : World) (k : Nat) (G : Nat) (v i : Value) (wr : World) : Prop := ∃ q : Nat, q ≤ k ∧ G = k - q ∧ i = .int .i64 q ∧ v = .string ⟨(lnsT (lsL q)).toArray⟩ ∧ Below w.heap.size w wr

set_option maxHeartbeats 16000000 in
set_option maxRecDepth 100000 in
theorem limits_core (n : Nat) (hn : n < 256) (w : World) (hpow : Pow10 w) (hml : MaxLenAt w) : Calls Tryz.prog 4 #[.int .u8 (n : Int)] w (RB w (.bool true)) := by
  obtain ⟨k, hk⟩ : ∃ k, n % 110 = k := ⟨_, rfl⟩
  have hk1 : k < 110 := by omega
  have hrem : (n : Int).tmod 110 = (k : Int) := by rw [Int.tmod_eq_emod_of_nonneg (by omega)]; omega
  have hwn : IntKind.i64.wrap (n : Int) = (n : Int) := IntWalk.i64_in _ (by omega)
  have HP := Lib.hid hpow; have HM := Lib.hid hml
  clear hpow hml hk
  go_enter Tryz.func4, Tryz.ntmps4
  go_wp2
  go_loopg [3, 4] k (fun G v i wr => LmRel w k G v i wr)
  case atStart => exact ⟨0, by omega, by omega, rfl, rfl, Below.refl _ _⟩
  case round =>
    obtain ⟨q, hq, rfl, rfl, rfl, KR⟩ := hrel
    have ZR := KR.size
    have HKR := Lib.hid KR
    by_cases hlt : q < k
    · have gp : decide ((q : Int) < (k : Int)) = true := decide_eq_true (by omega)
      have gpn : decide (q < k) = true := decide_eq_true hlt
      have wp : IntKind.i64.wrap ((q : Int) + 1) = ((q + 1 : Nat) : Int) := by rw [IntWalk.i64_in _ (by omega)]; omega
      have hlen := lsL_len q
      obtain ⟨tx, htx⟩ : ∃ tx, lnsT (lsL q) = tx := ⟨_, rfl⟩
      rw [htx] at hlen ⊢
      have htl : tx.length ≤ 700 := by omega
      have HTX := Lib.hid htx
      clear hlen htx KR
      have h3 : q % 3 = 0 ∨ q % 3 = 1 ∨ q % 3 = 2 := by omega
      rcases h3 with h3 | h3 | h3
      · have hr3 : (q : Int).tmod 3 = 0 := by rw [Int.tmod_eq_emod_of_nonneg (by omega)]; omega
        have hpc : pcL q = [] := by unfold pcL; rw [if_pos h3]
        have HPC := Lib.hid hpc
        clear hpc h3
        go_wp2
        go_roundg (k - (q + 1))
        case measure => omega
        case rel => exact ⟨q + 1, by omega, by omega, by go_num, by rw [lsL_next, HTX.out, HPC.out]; (first | rfl | (simp [ByteArray.mk_append_mk]; done)), kept_call (show Below wr.heap.size wr _ from below_new _ _) HKR.out⟩
      · have hr3 : (q : Int).tmod 3 = 1 := by rw [Int.tmod_eq_emod_of_nonneg (by omega)]; omega
        have hpc : pcL q = [35, 32, 97] := by unfold pcL; rw [if_neg (by omega), if_pos h3]
        have HPC := Lib.hid hpc
        clear hpc h3
        go_wp2
        go_roundg (k - (q + 1))
        case measure => omega
        case rel => exact ⟨q + 1, by omega, by omega, by go_num, by rw [lsL_next, HTX.out, HPC.out]; (first | rfl | (simp [ByteArray.mk_append_mk]; done)), kept_call (show Below wr.heap.size wr _ from below_new _ _) HKR.out⟩
      · have hr3 : (q : Int).tmod 3 = 2 := by rw [Int.tmod_eq_emod_of_nonneg (by omega)]; omega
        have hpc : pcL q = [117, 116, 99, 32, 53] := by unfold pcL; rw [if_neg (by omega), if_neg (by omega)]
        have HPC := Lib.hid hpc
        clear hpc h3
        go_wp2
        go_roundg (k - (q + 1))
        case measure => omega
        case rel => exact ⟨q + 1, by omega, by omega, by go_num, by rw [lsL_next, HTX.out, HPC.out]; (first | rfl | (simp [ByteArray.mk_append_mk]; done)), kept_call (show Below wr.heap.size wr _ from below_new _ _) HKR.out⟩
    · obtain rfl : q = k := by omega
      have gp : decide ((q : Int) < (q : Int)) = false := decide_eq_false (by omega)
      have gpn : decide (q < q) = false := decide_eq_false (by omega)
      have P1 := Lib.hid (HP.out.below KR); have M1 := Lib.hid (HM.out.below KR)
      have hlen := lsL_len q
      obtain ⟨out, hva⟩ := val_a q (by omega)
      have hvb := val_b q (by omega)
      have hga := good_a q; have hgb := good_b q
      obtain ⟨tx, htx⟩ : ∃ tx, lnsT (lsL q) = tx := ⟨_, rfl⟩
      rw [htx] at hlen hva hvb hga hgb ⊢
      have htl : tx.length ≤ 700 := by omega
      have RA := Lib.hid (fun W h1 h2 => run43_any noSave ⟨tx.toArray⟩ W h1 h2 (by show tx.toArray.size ≤ _; simp; omega) (by simpa using hga))
      have RB9 := Lib.hid (fun W h1 h2 => run43_any noSave ⟨(tx ++ whatL).toArray⟩ W h1 h2 (by show (tx ++ whatL).toArray.size ≤ _; simp [whatL]; omega) (by simpa using hgb))
      rw [show (⟨tx.toArray⟩ : ByteArray).data.toList = tx from rfl, hva] at RA
      rw [show (⟨(tx ++ whatL).toArray⟩ : ByteArray).data.toList = tx ++ whatL from rfl, hvb] at RB9
      unfold scR at RA RB9
      dsimp only at RA
      have RK := Lib.hid (fun W h1 h2 => known43_any W h1 h2)
      clear hlen hva hvb hga hgb htx
      by_cases hc : 100 < q
      · rw [if_pos hc] at RA
        rw [if_pos (by omega)] at RB9
        dsimp only at RB9
        have g1 : decide ((q : Int) > 100) = true := decide_eq_true (by omega)
        have g2 : decide (100 < q) = true := decide_eq_true hc
        go_wp2_with fail
        refine (RA.out _ P1.out M1.out).mono ?_
        rintro e w1 ⟨rfl, hb1⟩
        have P2 := Lib.hid (P1.out.below hb1); have M2 := Lib.hid (M1.out.below hb1)
        go_wp2_with fail
        refine (RB9.out _ P2.out M2.out).mono ?_
        rintro e w2 ⟨rfl, hb2⟩
        have P3 := Lib.hid (P2.out.below hb2); have M3 := Lib.hid (M2.out.below hb2)
        go_wp2_with fail
        refine (RK.out _ P3.out M3.out).mono ?_
        rintro e w3 ⟨rfl, hb3⟩
        have KW : Below w.heap.size w w3 := kept_call hb3 (kept_call hb2 (kept_call hb1 HKR.out))
        clear hb1 hb2 hb3
        go_wp2
        go_ret
        exact ⟨by simp, KW⟩
      · rw [if_neg hc] at RA
        have g1 : decide ((q : Int) > 100) = false := decide_eq_false (by omega)
        have g2 : decide (100 < q) = false := decide_eq_false hc
        by_cases he : q = 100
        · subst he
          rw [if_pos (by omega)] at RB9
          dsimp only at RB9
          go_wp2_with fail
          refine (RA.out _ P1.out M1.out).mono ?_
          rintro e w1 ⟨rfl, hb1⟩
          have P2 := Lib.hid (P1.out.below hb1); have M2 := Lib.hid (M1.out.below hb1)
          go_wp2_with fail
          refine (RB9.out _ P2.out M2.out).mono ?_
          rintro e w2 ⟨rfl, hb2⟩
          have P3 := Lib.hid (P2.out.below hb2); have M3 := Lib.hid (M2.out.below hb2)
          go_wp2_with fail
          refine (RK.out _ P3.out M3.out).mono ?_
          rintro e w3 ⟨rfl, hb3⟩
          have KW : Below w.heap.size w w3 := kept_call hb3 (kept_call hb2 (kept_call hb1 HKR.out))
          clear hb1 hb2 hb3
          go_wp2
          go_ret
          exact ⟨by simp, KW⟩
        · rw [if_neg (by omega)] at RB9
          dsimp only at RB9
          have g3 : decide ((q : Int) = 100) = false := decide_eq_false (by omega)
          have g4 : ((q : Int) == 100) = false := by simp; omega
          have g5 : decide (q = 100) = false := decide_eq_false he
          have wq1 : IntKind.i64.wrap ((q : Int) + 1) = (q : Int) + 1 := IntWalk.i64_in _ (by omega)
          go_wp2_with fail
          refine (RA.out _ P1.out M1.out).mono ?_
          rintro e w1 ⟨rfl, hb1⟩
          have P2 := Lib.hid (P1.out.below hb1); have M2 := Lib.hid (M1.out.below hb1)
          go_wp2_with fail
          refine (RB9.out _ P2.out M2.out).mono ?_
          rintro e w2 ⟨rfl, hb2⟩
          have P3 := Lib.hid (P2.out.below hb2); have M3 := Lib.hid (M2.out.below hb2)
          go_wp2_with fail
          refine (RK.out _ P3.out M3.out).mono ?_
          rintro e w3 ⟨rfl, hb3⟩
          have KW : Below w.heap.size w w3 := kept_call hb3 (kept_call hb2 (kept_call hb1 HKR.out))
          clear hb1 hb2 hb3
          go_wp2
          go_ret
          exact ⟨by simp, KW⟩
end Go.Proofs.YtiinmhfolfgobaaGreatDoor
