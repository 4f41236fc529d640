/- The reference's Parse. -/
import Derived.Test.YtelmcglckkjmfaaDoorRDigits
import Derived.Deep.DeepCutAuto
namespace Go.Proofs.YtelmcglckkjmfaaDoor
open Go.RowKit
set_option linter.unusedSimpArgs false
set_option linter.unusedVariables false

theorem digL_bd : ∀ (l : List UInt8) (n x : Int), digL l n = some x → 0 ≤ n → 0 ≤ x ∧ x < (n + 1) * (10 ^ l.length : Nat)
  | [], n, x, h, h0 => by
    simp only [digL, Option.some.injEq] at h
    subst h; simp; omega
  | c :: l, n, x, h, h0 => by
    unfold digL at h
    split at h
    · cases h
    · rename_i q
      have ih := digL_bd l _ x h (by omega)
      refine ⟨ih.1, Int.lt_of_lt_of_le ih.2 ?_⟩
      rw [List.length_cons, Nat.pow_succ]
      have hp : (0 : Int) ≤ (10 ^ l.length : Nat) := Int.natCast_nonneg _
      have := Int.mul_le_mul_of_nonneg_right (show 10 * n + ((c.toNat : Int) - 48) + 1 ≤ 10 * (n + 1) by omega) hp
      rw [Int.natCast_mul, Int.mul_comm _ ((10 : Nat) : Int), ← Int.mul_assoc, Int.mul_comm (n + 1)]
      exact this
theorem digF_bd {l : List UInt8} {x : Int} (h : digF l = some x) : 0 ≤ x ∧ x < 1000000000000000000 := by
  unfold digF at h
  split at h
  · cases h
  · have := digL_bd l 0 x h (by omega)
    have hp : (10 : Nat) ^ l.length ≤ 10 ^ 18 := Nat.pow_le_pow_right (by omega) (by omega)
    have e : (10 : Nat) ^ 18 = 1000000000000000000 := by decide
    omega
def rparK (k r : Int) (s : List UInt8) : Option Int := if vT (k * 1048576 + r) = true ∧ fmtS (k * 1048576 + r) = s then some (k * 1048576 + r) else none
def rparD (sg : Int) (s : List UInt8) : Option Int → Option Int → Option Int
  | some a, some b => if 1099511627777 < a then none else rparK (sg * a) b s
  | _, _ => none
def rparU (t : List UInt8) (sg : Int) (s : List UInt8) : Option Int := if t.length < 9 ∨ t[t.length - 8]? ≠ some 46 then none else rparD sg s (digF (t.take (t.length - 8))) (digF (t.drop (t.length - 7)))
/-- What the reference's Parse reads. -/
def rparT (s : List UInt8) : Option Int := if Lib.hasPrefix s [45] then rparU (s.drop 1) (-1) s else rparU s 1 s
def TRel (s : ByteArray) (a b : Value) : Prop := ∃ (t : ByteArray) (sg : Int), a = .string t ∧ b = .int .i64 sg ∧ t.size ≤ 1000 ∧ (sg = 1 ∨ sg = -1) ∧ rparT s.data.toList = rparU t.data.toList sg s.data.toList
theorem pre_head (s : ByteArray) (h : 0 < s.size) : Lib.hasPrefix s.data.toList [45] = decide ((s[0]'h).toNat = 45) := by
  have e : s.data.toList = s[0] :: s.data.toList.drop 1 := by have := drop_cons s 0 h; simpa using this
  rw [e]
  unfold Lib.hasPrefix
  simp only [List.isPrefixOf, Bool.and_true]
  rw [Bool.eq_iff_iff, beq_iff_eq, decide_eq_true_iff]
  constructor
  · intro h; rw [← h]; rfl
  · intro h; exact UInt8.toNat_inj.1 (by rw [h]; rfl)

set_option maxRecDepth 100000 in
set_option maxHeartbeats 8000000 in
theorem rparse_any (s : ByteArray) (hs : s.size ≤ 1000) (w : World) :
    Calls Tryd.prog 28 #[.string s] w (RB w (parV (rparT s.data.toList))) := by
  have hN : ∀ sg, rparU [] sg s.data.toList = none := fun sg => if_pos (.inl (by simp))
  by_cases h0 : 0 < s.size
  · have hp := pre_head s h0
    by_cases h1 : (s[0]'h0).toNat = 45
    · have h1' : (((s[0]'h0).toNat : Int) == 45) = true := by simp; omega
      have hr : rparT s.data.toList = rparU (s.extract 1 s.size).data.toList (-1) s.data.toList := by unfold rparT; rw [hp, decide_eq_true h1, if_pos rfl, Lib.extract_to_end]
      have hz : (s.extract 1 s.size).size ≤ 1000 := by rw [ByteArray.size_extract]; omega
      obtain ⟨t, ht⟩ : ∃ t, s.extract 1 s.size = t := ⟨_, rfl⟩
      rw [ht] at hr hz
      have HT := Lib.hid ht
      rw [hr]
      clear hp h1 hr ht
      have hl : t.data.toList.length = t.size := by simp only [Array.length_toList]; rfl
      unfold rparU
      rw [hl]
      by_cases h9 : t.size < 9
      · rw [if_pos (.inl h9)]
        have h9' : decide ((t.size : Int) < 9) = true := by simp; omega
        go_enter Tryd.func28, Tryd.ntmps28
        go_upto_region 4 with fail
        simp only [HT.out]
        go_wp2
        go_ret2
        exact ⟨rfl, Below.refl _ _⟩
      · obtain ⟨k, hk⟩ : ∃ k, t.size = k + 8 := ⟨t.size - 8, by omega⟩
        have h9' : decide ((t.size : Int) < 9) = false := by simp; omega
        have hkl : k < t.size := by omega
        have hke : t.data.toList[k]? = some (t[k]'hkl) := by rw [List.getElem?_eq_getElem (by rw [hl]; exact hkl)]; rfl
        rw [hk, show k + 8 - 8 = k by omega, show k + 8 - 7 = k + 1 by omega, hke]
        by_cases hd : (t[k]'hkl).toNat = 46
        · have hd' : (((t[k]'hkl).toNat : Int) != 46) = false := by simp; omega
          have hd2 : t[k]'hkl = 46 := UInt8.toNat_inj.1 (by rw [hd]; rfl)
          rw [if_neg (by rw [hd2]; simp; omega)]
          have r1 := digits_any (t.extract 0 k) (by rw [ByteArray.size_extract]; omega)
          have r2 := digits_any (t.extract (k + 1) (k + 8)) (by rw [ByteArray.size_extract]; omega)
          rw [show (t.extract 0 k).data.toList = t.data.toList.take k by rw [ByteArray.data_extract]; simp] at r1
          rw [show (t.extract (k + 1) (k + 8)).data.toList = t.data.toList.drop (k + 1) by rw [← hk]; exact Lib.extract_to_end _ _] at r2
          clear hd hd2 hke
          rcases e1 : digF (t.data.toList.take k) with _ | a
          · rw [e1] at r1
            rw [show ∀ x, rparD (-1) s.data.toList none x = none from fun _ => rfl]
            rcases e2 : digF (t.data.toList.drop (k + 1)) with _ | b
            · rw [e2] at r2
              unfold parV at r1 r2
              dsimp only at r1 r2
              have R1 := Lib.hid r1; have R2 := Lib.hid r2; clear r1 r2 e1 e2 hl
              go_enter Tryd.func28, Tryd.ntmps28
              go_upto_region 4 with fail
              simp only [HT.out]
              go_wp2_with fail
              refine (R1.out _).mono ?_
              rintro e w9 ⟨rfl, rfl⟩
              go_wp2_with fail
              refine (R2.out _).mono ?_
              rintro e w9 ⟨rfl, rfl⟩
              go_wp2
              go_ret2
              exact ⟨rfl, Below.refl _ _⟩
            · rw [e2] at r2
              unfold parV at r1 r2
              dsimp only at r1 r2
              have R1 := Lib.hid r1; have R2 := Lib.hid r2; clear r1 r2 e1 e2 hl
              go_enter Tryd.func28, Tryd.ntmps28
              go_upto_region 4 with fail
              simp only [HT.out]
              go_wp2_with fail
              refine (R1.out _).mono ?_
              rintro e w9 ⟨rfl, rfl⟩
              go_wp2_with fail
              refine (R2.out _).mono ?_
              rintro e w9 ⟨rfl, rfl⟩
              go_wp2
              go_ret2
              exact ⟨rfl, Below.refl _ _⟩
          · rw [e1] at r1
            rcases e2 : digF (t.data.toList.drop (k + 1)) with _ | b
            · rw [e2] at r2
              rw [show rparD (-1) s.data.toList (some a) none = none from rfl]
              unfold parV at r1 r2
              dsimp only at r1 r2
              have R1 := Lib.hid r1; have R2 := Lib.hid r2; clear r1 r2 e1 e2 hl
              go_enter Tryd.func28, Tryd.ntmps28
              go_upto_region 4 with fail
              simp only [HT.out]
              go_wp2_with fail
              refine (R1.out _).mono ?_
              rintro e w9 ⟨rfl, rfl⟩
              go_wp2_with fail
              refine (R2.out _).mono ?_
              rintro e w9 ⟨rfl, rfl⟩
              go_wp2
              go_ret2
              exact ⟨rfl, Below.refl _ _⟩
            · rw [e2] at r2
              obtain ⟨a0, a1⟩ := digF_bd e1
              obtain ⟨b0, b1⟩ := digF_bd e2
              show Calls _ _ _ w (RB w (parV (if 1099511627777 < a then none else rparK ((-1) * a) b s.data.toList)))
              rw [show (-1) * a = (-a) by omega]
              by_cases ha : 1099511627777 < a
              · rw [if_pos ha]
                unfold parV at r1 r2
                dsimp only at r1 r2
                have R1 := Lib.hid r1; have R2 := Lib.hid r2; clear r1 r2 e1 e2 hl
                go_enter Tryd.func28, Tryd.ntmps28
                go_upto_region 4 with fail
                simp only [HT.out]
                go_wp2_with fail
                refine (R1.out _).mono ?_
                rintro e w9 ⟨rfl, rfl⟩
                go_wp2_with fail
                refine (R2.out _).mono ?_
                rintro e w9 ⟨rfl, rfl⟩
                go_wp2
                go_ret2
                exact ⟨rfl, Below.refl _ _⟩
              · rw [if_neg ha]
                have ha' : decide (a > 1099511627777) = false := by simp; omega
                have q1 := rvalid_any ((-a) * 1048576 + b)
                rcases hv : vT ((-a) * 1048576 + b)
                · rw [show rparK (-a) b s.data.toList = none from if_neg (by rw [hv]; simp)]
                  rw [hv] at q1
                  have Q1 := Lib.hid q1; clear q1 hv
                  unfold parV at r1 r2
                  dsimp only at r1 r2
                  have R1 := Lib.hid r1; have R2 := Lib.hid r2; clear r1 r2 e1 e2 hl
                  go_enter Tryd.func28, Tryd.ntmps28
                  go_upto_region 4 with fail
                  simp only [HT.out]
                  go_wp2_with fail
                  refine (R1.out _).mono ?_
                  rintro e w9 ⟨rfl, rfl⟩
                  go_wp2_with fail
                  refine (R2.out _).mono ?_
                  rintro e w9 ⟨rfl, rfl⟩
                  go_wp2_with fail
                  refine (Q1.out _).mono ?_
                  rintro e w9 ⟨rfl, rfl⟩
                  go_wp2
                  go_ret2
                  exact ⟨rfl, Below.refl _ _⟩
                · have q2 := rformat_any ((-a) * 1048576 + b) hv
                  rw [hv] at q1
                  have Q1 := Lib.hid q1; have Q2 := Lib.hid q2; clear q1 q2
                  by_cases hf : fmtS ((-a) * 1048576 + b) = s.data.toList
                  · rw [show rparK (-a) b s.data.toList = some ((-a) * 1048576 + b) from if_pos ⟨hv, hf⟩]
                    have hfb : (fmtS ((-a) * 1048576 + b) == s.toList) = true := by rw [ByteArray.toList_eq, hf]; simp
                    clear hf hv
                    unfold parV at r1 r2
                    dsimp only at r1 r2
                    have R1 := Lib.hid r1; have R2 := Lib.hid r2; clear r1 r2 e1 e2 hl
                    go_enter Tryd.func28, Tryd.ntmps28
                    go_upto_region 4 with fail
                    simp only [HT.out]
                    go_wp2_with fail
                    refine (R1.out _).mono ?_
                    rintro e w9 ⟨rfl, rfl⟩
                    go_wp2_with fail
                    refine (R2.out _).mono ?_
                    rintro e w9 ⟨rfl, rfl⟩
                    go_wp2_with fail
                    refine (Q1.out _).mono ?_
                    rintro e w9 ⟨rfl, rfl⟩
                    go_wp2_with fail
                    refine (Q2.out _).mono ?_
                    rintro e w3 ⟨rfl, K3⟩
                    go_wp2
                    go_ret2
                    exact ⟨rfl, K3⟩
                  · rw [show rparK (-a) b s.data.toList = none from if_neg (fun h => hf h.2)]
                    have hfb : (fmtS ((-a) * 1048576 + b) == s.toList) = false := by rw [ByteArray.toList_eq]; simpa using hf
                    clear hf hv
                    unfold parV at r1 r2
                    dsimp only at r1 r2
                    have R1 := Lib.hid r1; have R2 := Lib.hid r2; clear r1 r2 e1 e2 hl
                    go_enter Tryd.func28, Tryd.ntmps28
                    go_upto_region 4 with fail
                    simp only [HT.out]
                    go_wp2_with fail
                    refine (R1.out _).mono ?_
                    rintro e w9 ⟨rfl, rfl⟩
                    go_wp2_with fail
                    refine (R2.out _).mono ?_
                    rintro e w9 ⟨rfl, rfl⟩
                    go_wp2_with fail
                    refine (Q1.out _).mono ?_
                    rintro e w9 ⟨rfl, rfl⟩
                    go_wp2_with fail
                    refine (Q2.out _).mono ?_
                    rintro e w3 ⟨rfl, K3⟩
                    go_wp2
                    go_ret2
                    exact ⟨rfl, K3⟩
        · have hd' : (((t[k]'hkl).toNat : Int) != 46) = true := by simp; omega
          rw [if_pos (.inr (by intro h; injection h with h; exact hd (by rw [h]; rfl)))]
          clear hke hd
          go_enter Tryd.func28, Tryd.ntmps28
          go_upto_region 4 with fail
          simp only [HT.out]
          go_wp2
          go_ret2
          exact ⟨rfl, Below.refl _ _⟩
    · have h1' : (((s[0]'h0).toNat : Int) == 45) = false := by simp; omega
      have hr : rparT s.data.toList = rparU s.data.toList 1 s.data.toList := by unfold rparT; rw [hp, decide_eq_false h1, if_neg (by decide)]
      rw [hr]
      clear hp h1 hr
      have hl : s.data.toList.length = s.size := by simp only [Array.length_toList]; rfl
      unfold rparU
      rw [hl]
      by_cases h9 : s.size < 9
      · rw [if_pos (.inl h9)]
        have h9' : decide ((s.size : Int) < 9) = true := by simp; omega
        go_enter Tryd.func28, Tryd.ntmps28
        go_wp2
        go_ret2
        exact ⟨rfl, Below.refl _ _⟩
      · obtain ⟨k, hk⟩ : ∃ k, s.size = k + 8 := ⟨s.size - 8, by omega⟩
        have h9' : decide ((s.size : Int) < 9) = false := by simp; omega
        have hkl : k < s.size := by omega
        have hke : s.data.toList[k]? = some (s[k]'hkl) := by rw [List.getElem?_eq_getElem (by rw [hl]; exact hkl)]; rfl
        rw [hk, show k + 8 - 8 = k by omega, show k + 8 - 7 = k + 1 by omega, hke]
        by_cases hd : (s[k]'hkl).toNat = 46
        · have hd' : (((s[k]'hkl).toNat : Int) != 46) = false := by simp; omega
          have hd2 : s[k]'hkl = 46 := UInt8.toNat_inj.1 (by rw [hd]; rfl)
          rw [if_neg (by rw [hd2]; simp; omega)]
          have r1 := digits_any (s.extract 0 k) (by rw [ByteArray.size_extract]; omega)
          have r2 := digits_any (s.extract (k + 1) (k + 8)) (by rw [ByteArray.size_extract]; omega)
          rw [show (s.extract 0 k).data.toList = s.data.toList.take k by rw [ByteArray.data_extract]; simp] at r1
          rw [show (s.extract (k + 1) (k + 8)).data.toList = s.data.toList.drop (k + 1) by rw [← hk]; exact Lib.extract_to_end _ _] at r2
          clear hd hd2 hke
          rcases e1 : digF (s.data.toList.take k) with _ | a
          · rw [e1] at r1
            rw [show ∀ x, rparD 1 s.data.toList none x = none from fun _ => rfl]
            rcases e2 : digF (s.data.toList.drop (k + 1)) with _ | b
            · rw [e2] at r2
              unfold parV at r1 r2
              dsimp only at r1 r2
              have R1 := Lib.hid r1; have R2 := Lib.hid r2; clear r1 r2 e1 e2 hl
              go_enter Tryd.func28, Tryd.ntmps28
              go_wp2_with fail
              refine (R1.out _).mono ?_
              rintro e w9 ⟨rfl, rfl⟩
              go_wp2_with fail
              refine (R2.out _).mono ?_
              rintro e w9 ⟨rfl, rfl⟩
              go_wp2
              go_ret2
              exact ⟨rfl, Below.refl _ _⟩
            · rw [e2] at r2
              unfold parV at r1 r2
              dsimp only at r1 r2
              have R1 := Lib.hid r1; have R2 := Lib.hid r2; clear r1 r2 e1 e2 hl
              go_enter Tryd.func28, Tryd.ntmps28
              go_wp2_with fail
              refine (R1.out _).mono ?_
              rintro e w9 ⟨rfl, rfl⟩
              go_wp2_with fail
              refine (R2.out _).mono ?_
              rintro e w9 ⟨rfl, rfl⟩
              go_wp2
              go_ret2
              exact ⟨rfl, Below.refl _ _⟩
          · rw [e1] at r1
            rcases e2 : digF (s.data.toList.drop (k + 1)) with _ | b
            · rw [e2] at r2
              rw [show rparD 1 s.data.toList (some a) none = none from rfl]
              unfold parV at r1 r2
              dsimp only at r1 r2
              have R1 := Lib.hid r1; have R2 := Lib.hid r2; clear r1 r2 e1 e2 hl
              go_enter Tryd.func28, Tryd.ntmps28
              go_wp2_with fail
              refine (R1.out _).mono ?_
              rintro e w9 ⟨rfl, rfl⟩
              go_wp2_with fail
              refine (R2.out _).mono ?_
              rintro e w9 ⟨rfl, rfl⟩
              go_wp2
              go_ret2
              exact ⟨rfl, Below.refl _ _⟩
            · rw [e2] at r2
              obtain ⟨a0, a1⟩ := digF_bd e1
              obtain ⟨b0, b1⟩ := digF_bd e2
              show Calls _ _ _ w (RB w (parV (if 1099511627777 < a then none else rparK (1 * a) b s.data.toList)))
              rw [show 1 * a = a by omega]
              by_cases ha : 1099511627777 < a
              · rw [if_pos ha]
                unfold parV at r1 r2
                dsimp only at r1 r2
                have R1 := Lib.hid r1; have R2 := Lib.hid r2; clear r1 r2 e1 e2 hl
                go_enter Tryd.func28, Tryd.ntmps28
                go_wp2_with fail
                refine (R1.out _).mono ?_
                rintro e w9 ⟨rfl, rfl⟩
                go_wp2_with fail
                refine (R2.out _).mono ?_
                rintro e w9 ⟨rfl, rfl⟩
                go_wp2
                go_ret2
                exact ⟨rfl, Below.refl _ _⟩
              · rw [if_neg ha]
                have ha' : decide (a > 1099511627777) = false := by simp; omega
                have q1 := rvalid_any (a * 1048576 + b)
                rcases hv : vT (a * 1048576 + b)
                · rw [show rparK a b s.data.toList = none from if_neg (by rw [hv]; simp)]
                  rw [hv] at q1
                  have Q1 := Lib.hid q1; clear q1 hv
                  unfold parV at r1 r2
                  dsimp only at r1 r2
                  have R1 := Lib.hid r1; have R2 := Lib.hid r2; clear r1 r2 e1 e2 hl
                  go_enter Tryd.func28, Tryd.ntmps28
                  go_wp2_with fail
                  refine (R1.out _).mono ?_
                  rintro e w9 ⟨rfl, rfl⟩
                  go_wp2_with fail
                  refine (R2.out _).mono ?_
                  rintro e w9 ⟨rfl, rfl⟩
                  go_wp2_with fail
                  refine (Q1.out _).mono ?_
                  rintro e w9 ⟨rfl, rfl⟩
                  go_wp2
                  go_ret2
                  exact ⟨rfl, Below.refl _ _⟩
                · have q2 := rformat_any (a * 1048576 + b) hv
                  rw [hv] at q1
                  have Q1 := Lib.hid q1; have Q2 := Lib.hid q2; clear q1 q2
                  by_cases hf : fmtS (a * 1048576 + b) = s.data.toList
                  · rw [show rparK a b s.data.toList = some (a * 1048576 + b) from if_pos ⟨hv, hf⟩]
                    have hfb : (fmtS (a * 1048576 + b) == s.toList) = true := by rw [ByteArray.toList_eq, hf]; simp
                    clear hf hv
                    unfold parV at r1 r2
                    dsimp only at r1 r2
                    have R1 := Lib.hid r1; have R2 := Lib.hid r2; clear r1 r2 e1 e2 hl
                    go_enter Tryd.func28, Tryd.ntmps28
                    go_wp2_with fail
                    refine (R1.out _).mono ?_
                    rintro e w9 ⟨rfl, rfl⟩
                    go_wp2_with fail
                    refine (R2.out _).mono ?_
                    rintro e w9 ⟨rfl, rfl⟩
                    go_wp2_with fail
                    refine (Q1.out _).mono ?_
                    rintro e w9 ⟨rfl, rfl⟩
                    go_wp2_with fail
                    refine (Q2.out _).mono ?_
                    rintro e w3 ⟨rfl, K3⟩
                    go_wp2
                    go_ret2
                    exact ⟨rfl, K3⟩
                  · rw [show rparK a b s.data.toList = none from if_neg (fun h => hf h.2)]
                    have hfb : (fmtS (a * 1048576 + b) == s.toList) = false := by rw [ByteArray.toList_eq]; simpa using hf
                    clear hf hv
                    unfold parV at r1 r2
                    dsimp only at r1 r2
                    have R1 := Lib.hid r1; have R2 := Lib.hid r2; clear r1 r2 e1 e2 hl
                    go_enter Tryd.func28, Tryd.ntmps28
                    go_wp2_with fail
                    refine (R1.out _).mono ?_
                    rintro e w9 ⟨rfl, rfl⟩
                    go_wp2_with fail
                    refine (R2.out _).mono ?_
                    rintro e w9 ⟨rfl, rfl⟩
                    go_wp2_with fail
                    refine (Q1.out _).mono ?_
                    rintro e w9 ⟨rfl, rfl⟩
                    go_wp2_with fail
                    refine (Q2.out _).mono ?_
                    rintro e w3 ⟨rfl, K3⟩
                    go_wp2
                    go_ret2
                    exact ⟨rfl, K3⟩
        · have hd' : (((s[k]'hkl).toNat : Int) != 46) = true := by simp; omega
          rw [if_pos (.inr (by intro h; injection h with h; exact hd (by rw [h]; rfl)))]
          clear hke hd
          go_enter Tryd.func28, Tryd.ntmps28
          go_wp2
          go_ret2
          exact ⟨rfl, Below.refl _ _⟩
  · have hr : rparT s.data.toList = none := by
      have e : s.data.toList = [] := by have : s.data.toList.length = 0 := (by simp only [Array.length_toList]; show s.size = 0; omega); exact List.length_eq_zero_iff.1 this
      rw [e]; rfl
    rw [hr]
    have h0' : decide ((s.size : Int) > 0) = false := decide_eq_false (by omega)
    have h9' : decide ((s.size : Int) < 9) = true := decide_eq_true (by omega)
    clear hr
    go_enter Tryd.func28, Tryd.ntmps28
    go_wp2
    go_ret2
    exact ⟨rfl, Below.refl _ _⟩
end Go.Proofs.YtelmcglckkjmfaaDoor
