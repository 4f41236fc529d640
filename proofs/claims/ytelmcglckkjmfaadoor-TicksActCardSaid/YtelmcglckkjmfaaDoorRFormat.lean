/- The reference's decimal and Format. -/
import Derived.Test.YtelmcglckkjmfaaDoorRTicks
import Derived.Test.YtelmcglckkjmfaaDoorParseP
namespace Go.Proofs.YtelmcglckkjmfaaDoor
open Go.RowKit
set_option linter.unusedSimpArgs false
set_option linter.unusedVariables false

/-- What decimal writes ahead of what is there. -/
def decGo (v n : Nat) (out : List UInt8) : List UInt8 := if 0 < v ∨ 0 < n then decGo (v / 10) (n - 1) (UInt8.ofNat (48 + v % 10) :: out) else out
termination_by v + n
decreasing_by omega
theorem decGo_go {v n : Nat} {out : List UInt8} (h : 0 < v ∨ 0 < n) : decGo v n out = decGo (v / 10) (n - 1) (UInt8.ofNat (48 + v % 10) :: out) := by rw [decGo, if_pos h]
theorem decGo_end {out : List UInt8} : decGo 0 0 out = out := by rw [decGo, if_neg (by omega)]
theorem decGo_app (v n : Nat) : ∀ out, decGo v n out = decGo v n [] ++ out := by
  induction h : v + n using Nat.strongRecOn generalizing v n with
  | ind k ih =>
    intro out
    by_cases hp : 0 < v ∨ 0 < n
    · rw [decGo_go hp, decGo_go hp (out := []), ih (v / 10 + (n - 1)) (by omega) (v / 10) (n - 1) rfl (_ :: out), ih (v / 10 + (n - 1)) (by omega) (v / 10) (n - 1) rfl [_]]
      simp
    · obtain rfl : v = 0 := by omega
      obtain rfl : n = 0 := by omega
      rw [decGo_end, decGo_end]; rfl
theorem decGo_zero (v : Nat) (h : 0 < v) : decGo v 0 [] = Lib.decDigits v := by
  induction v using Nat.strongRecOn with
  | ind v ih =>
    rw [decGo_go (.inl h), decGo_app]
    unfold Lib.decDigits
    split
    · rw [Nat.div_eq_of_lt (by assumption), Nat.mod_eq_of_lt (by assumption), decGo_end]; rfl
    · rw [ih (v / 10) (by omega) (by omega)]
theorem decDigits_pos (u : Nat) : 1 ≤ (Lib.decDigits u).length := by unfold Lib.decDigits; split <;> simp
theorem repeat_snoc (k : Nat) : Lib.repeatL [48] k ++ [48] = Lib.repeatL [48] (k + 1) := by
  induction k with
  | zero => rfl
  | succ k ih => rw [Lib.repeatL, List.append_assoc, ih]; rfl
theorem decGo_pad (n : Nat) : ∀ v, decGo v (n + 1) [] = Lib.repeatL [48] (n + 1 - (Lib.decDigits v).length) ++ Lib.decDigits v := by
  induction n with
  | zero =>
    intro v
    rw [decGo_go (.inr (by omega)), decGo_app]
    have := decDigits_pos v
    rw [show 0 + 1 - (Lib.decDigits v).length = 0 by omega]
    by_cases hv : v < 10
    · rw [Nat.div_eq_of_lt hv, Nat.mod_eq_of_lt hv, decGo_end, Lib.decDigits, dif_pos hv]; rfl
    · rw [show 0 + 1 - 1 = 0 by omega, decGo_zero _ (by omega)]
      conv => rhs; rw [Lib.decDigits, dif_neg hv]
      rfl
  | succ n ih =>
    intro v
    rw [decGo_go (.inr (by omega)), decGo_app, show n + 1 + 1 - 1 = n + 1 by omega, ih]
    by_cases hv : v < 10
    · rw [Nat.div_eq_of_lt hv, Nat.mod_eq_of_lt hv, show Lib.decDigits 0 = [48] by decide +kernel, show Lib.decDigits v = [UInt8.ofNat (48 + v)] by rw [Lib.decDigits, dif_pos hv], List.length_singleton, List.length_singleton, repeat_snoc]
      rfl
    · conv => rhs; rw [Lib.decDigits, dif_neg hv]
      rw [List.length_append, List.length_singleton, show n + 1 + 1 - ((Lib.decDigits (v / 10)).length + 1) = n + 1 - (Lib.decDigits (v / 10)).length by omega, List.append_assoc]
def DRel (v0 n0 : Nat) (w : World) (v n o : Value) (wr : World) : Prop := ∃ (v' k : Nat) (m : Int) (out : List UInt8), v = .int .i64 v' ∧ n = .int .i64 m ∧ o = .string ⟨out.toArray⟩ ∧ k ≤ 20 ∧ v' < 10 ^ k ∧ v' ≤ 1152921504606846976 ∧ (k : Int) - 20 ≤ m ∧ m ≤ n0 ∧ out.length + k + m.toNat ≤ 20 + n0 ∧
  decGo v' m.toNat out = decGo v0 n0 [] ∧ Below w.heap.size w wr

set_option maxRecDepth 100000 in
set_option maxHeartbeats 4000000 in
theorem decimal_any (v0 n0 : Nat) (hv : v0 ≤ 1152921504606846976) (hn : n0 ≤ 10) (w : World) :
    Calls Tryd.prog 45 #[.int .i64 v0, .int .i64 n0] w (RB w (.string ⟨(decGo v0 n0 []).toArray⟩)) := by
  go_enter Tryd.func45, Tryd.ntmps45
  go_wp2
  go_loopw [0, 1, 5] (fun v n o wr => DRel v0 n0 w v n o wr) (fun v n _ _ => (intOf v).toNat + (intOf n).toNat)
  case atStart => exact ⟨v0, 20, n0, [], rfl, rfl, rfl, by omega, by omega, hv, by omega, by omega, by simp, by simp, Below.refl _ _⟩
  case round =>
    obtain ⟨v', k, m, out, rfl, rfl, rfl, hk, hvk, hv', hm, hm2, hl, hd, hB⟩ := hrel
    have hsz := hB.size
    by_cases hg : 0 < v' ∨ 0 < m
    · rw [decGo_go (by omega)] at hd
      have hol : out.length ≤ 30 := by omega
      have HD := Lib.hid hd; clear hd
      have c1 : 48 ≤ 48 + (v' : Int) % 10 := by omega
      have c2 : 48 + (v' : Int) % 10 ≤ 57 := by omega
      obtain ⟨d, hd⟩ : ∃ d : UInt8, d = UInt8.ofNat (48 + v' % 10) := ⟨_, rfl⟩
      have hdn : (48 + (v' : Int) % 10) = (d.toNat : Int) := by rw [hd]; simp; omega
      have ek : (convert 64 9 (.slice (some ⟨wr.heap.size, 0, none⟩) 1 1)).run Tryd.prog (wr.alloc (.cells #[.int .u8 (48 + (v' : Int) % 10)] 5)) = .ok (.string ⟨#[d]⟩) (wr.alloc (.cells #[.int .u8 (48 + (v' : Int) % 10)] 5)) := by
        rw [hdn]
        exact run_convert_bytes_back (P := Tryd.prog) (wr.alloc (.cells #[.int .u8 (d.toNat : Int)] 5)) 64 9 5 ⟨wr.heap.size, 0, none⟩ 1 [d] (by kernel_rfl) (by kernel_rfl) (by kernel_rfl) (fun j hj => by
          obtain rfl : j = 0 := by simpa using hj
          exact (Blk.new wr _ _).cell 0)
      have HDD := Lib.hid hd; clear hd hdn
      by_cases hv0 : 0 < v'
      · obtain ⟨k', rfl⟩ : ∃ k', k = k' + 1 := by
          cases k with
          | zero => simp at hvk; omega
          | succ k' => exact ⟨k', rfl⟩
        have hpk : v' / 10 < 10 ^ k' := by rw [Nat.pow_succ] at hvk; omega
        have HPK := Lib.hid hpk; clear hpk hvk
        go_wp2
        go_roundw
        case rel => exact ⟨v' / 10, k', m - 1, d :: out, congrArg (Value.int .i64) (by omega), rfl, congrArg Value.string (by apply ByteArray.ext; simp), by omega, HPK.out, by omega, by omega, by omega, by simp; omega, by rw [show (m - 1).toNat = m.toNat - 1 by omega, HDD.out]; exact HD.out, hB.alloc hsz _⟩
        case measure => simp [intOf]; omega
      · obtain rfl : v' = 0 := by omega
        have hm0 : 0 < m := by omega
        have ek2 := ek
        rw [show (48 + ((0 : Nat) : Int) % 10) = 48 by decide] at ek2
        have HPK := Lib.hid hvk; clear hvk
        go_wp2
        go_roundw
        case rel => exact ⟨0 / 10, k, m - 1, d :: out, congrArg (Value.int .i64) (by omega), rfl, congrArg Value.string (by apply ByteArray.ext; simp), by omega, by simpa using HPK.out, by omega, by omega, by omega, by simp; omega, by rw [show (m - 1).toNat = m.toNat - 1 by omega, HDD.out]; exact HD.out, hB.alloc hsz _⟩
        case measure => simp [intOf]; omega
    · obtain rfl : v' = 0 := by omega
      have hm0 : m.toNat = 0 := by omega
      rw [hm0, decGo_end] at hd
      have HD := Lib.hid hd; clear hd
      have hm' : decide (m > 0) = false := by simp; omega
      go_wp2
      go_ret
      exact ⟨by rw [HD.out]; rfl, hB⟩
end Go.Proofs.YtelmcglckkjmfaaDoor
