/- The reference's digits. -/
import Derived.Test.YtelmcglckkjmfaaDoorRFormatB
namespace Go.Proofs.YtelmcglckkjmfaaDoor
open Go.RowKit
set_option linter.unusedSimpArgs false
set_option linter.unusedVariables false

/-- What digits reads. -/
def digL : List UInt8 → Int → Option Int
  | [], n => some n
  | c :: l, n => if c.toNat < 48 ∨ 57 < c.toNat then none else digL l (10 * n + ((c.toNat : Int) - 48))
theorem digL_stop {c : UInt8} {l : List UInt8} {n : Int} (h : c.toNat < 48 ∨ 57 < c.toNat) : digL (c :: l) n = none := by rw [digL, if_pos h]
theorem digL_go {c : UInt8} {l : List UInt8} {n : Int} (h : ¬ (c.toNat < 48 ∨ 57 < c.toNat)) : digL (c :: l) n = digL l (10 * n + ((c.toNat : Int) - 48)) := by rw [digL, if_neg h]
def digF (l : List UInt8) : Option Int := if l.length < 1 ∨ 18 < l.length then none else digL l 0
def GRel (s : ByteArray) (v i : Value) : Prop := ∃ (k : Nat) (m : Int), k ≤ s.size ∧ i = .int .i64 k ∧ v = .int .i64 m ∧ 0 ≤ m ∧ m < (10 ^ k : Nat) ∧ digL (s.data.toList.drop k) m = digL s.data.toList 0

set_option maxRecDepth 100000 in
set_option maxHeartbeats 2000000 in
theorem digits_any (s : ByteArray) (hz : s.size ≤ 1000) (w : World) :
    Calls Tryd.prog 44 #[.string s] w (fun e w' => e = .returned (parV (digF s.data.toList)) ∧ w' = w) := by
  by_cases h1 : s.size < 1
  · rw [show digF s.data.toList = none from if_pos (.inl (by simpa using h1))]
    have h1' : decide ((s.size : Int) < 1) = true := by simp; omega
    go_enter Tryd.func44, Tryd.ntmps44
    go_wp2
    go_ret2
    exact ⟨rfl, rfl⟩
  · by_cases h2 : 18 < s.size
    · rw [show digF s.data.toList = none from if_pos (.inr (by simpa using h2))]
      have h1' : decide ((s.size : Int) < 1) = false := by simp; omega
      go_enter Tryd.func44, Tryd.ntmps44
      go_wp2
      go_ret2
      exact ⟨rfl, rfl⟩
    · rw [show digF s.data.toList = digL s.data.toList 0 from if_neg (by simp only [Array.length_toList]; show ¬ (s.size < 1 ∨ 18 < s.size); omega)]
      have h1' : decide ((s.size : Int) < 1) = false := by simp; omega
      have h2' : decide ((s.size : Int) > 18) = false := by simp; omega
      go_enter Tryd.func44, Tryd.ntmps44
      go_wp2
      go_loop [4, 5] (fun v i => GRel s v i) (fun _ i => s.size - (intOf i).toNat)
      case atStart => exact ⟨0, 0, by omega, rfl, rfl, by omega, by simp, by simp⟩
      case round =>
        obtain ⟨k, m, hk, rfl, rfl, m0, mk, hd⟩ := hrel
        by_cases hlt : k < s.size
        · rw [drop_cons s k hlt] at hd
          have hp : (10 : Nat) ^ k ≤ 10 ^ 17 := Nat.pow_le_pow_right (by omega) (by omega)
          have m1 : m < 100000000000000000 := by have : (10 : Nat) ^ 17 = 100000000000000000 := by decide
                                                 omega
          have mk1 : 10 * m + 9 < (10 ^ (k + 1) : Nat) := by rw [Nat.pow_succ]; omega
          have MK := Lib.hid mk1; clear mk mk1 hp
          by_cases h3 : (s[k]'hlt).toNat < 48
          · rw [digL_stop (.inl h3)] at hd
            have HD := Lib.hid hd; clear hd
            have h3' : decide (((s[k]'hlt).toNat : Int) < 48) = true := by simp; omega
            go_wp2
            go_ret2
            exact ⟨by rw [← HD.out]; rfl, rfl⟩
          · have h3' : decide (((s[k]'hlt).toNat : Int) < 48) = false := by simp; omega
            by_cases h4 : 57 < (s[k]'hlt).toNat
            · rw [digL_stop (.inr h4)] at hd
              have HD := Lib.hid hd; clear hd
              have h4' : decide (((s[k]'hlt).toNat : Int) > 57) = true := by simp; omega
              go_wp2
              go_ret2
              exact ⟨by rw [← HD.out]; rfl, rfl⟩
            · rw [digL_go (by omega)] at hd
              have HD := Lib.hid hd; clear hd
              have h4' : decide (((s[k]'hlt).toNat : Int) > 57) = false := by simp; omega
              have b1 : 48 ≤ ((s[k]'hlt).toNat : Int) := by omega
              have b2 : ((s[k]'hlt).toNat : Int) ≤ 57 := by omega
              go_wp2
              go_round
              case rel => exact ⟨k + 1, 10 * m + (((s[k]'hlt).toNat : Int) - 48), by omega, by go_num, by go_num, by omega, by have := MK.out; omega, HD.out⟩
              case measure => simp [intOf]; omega
        · obtain rfl : k = s.size := by omega
          rw [drop_end s s.size (by omega)] at hd
          have HD := Lib.hid hd; clear hd
          go_wp2
          go_ret2
          exact ⟨by rw [← HD.out]; rfl, rfl⟩
end Go.Proofs.YtelmcglckkjmfaaDoor
