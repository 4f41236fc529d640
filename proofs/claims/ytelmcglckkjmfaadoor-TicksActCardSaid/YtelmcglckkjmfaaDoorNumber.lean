/- ticks.number: the number that digits tell. -/
import Derived.Test.YtelmcglckkjmfaaDoorKnown10
import Derived.Laws.RangeString
import Derived.Laws.RangeAny
namespace Go.Proofs.YtelmcglckkjmfaaDoor
open Go.RowKit
set_option linter.unusedSimpArgs false
set_option linter.unusedVariables false

/-- What number reads. -/
def numL : List UInt8 → Int → Int
  | [], n => n
  | c :: l, n => if c.toNat < 48 ∨ 57 < c.toNat ∨ 72057594037927936 < n then n else numL l (10 * n + ((c.toNat : Int) - 48))
theorem numL_stop {c : UInt8} {l : List UInt8} {n : Int} (h : c.toNat < 48 ∨ 57 < c.toNat ∨ 72057594037927936 < n) : numL (c :: l) n = n := by rw [numL, if_pos h]
theorem numL_go {c : UInt8} {l : List UInt8} {n : Int} (h : ¬ (c.toNat < 48 ∨ 57 < c.toNat ∨ 72057594037927936 < n)) : numL (c :: l) n = numL l (10 * n + ((c.toNat : Int) - 48)) := by rw [numL, if_neg h]
theorem drop_cons (s : ByteArray) (p : Nat) (h : p < s.size) : s.data.toList.drop p = s[p] :: s.data.toList.drop (p + 1) := by
  rw [List.drop_eq_getElem_cons (by simpa using h)]; rfl
theorem drop_end (s : ByteArray) (p : Nat) (h : ¬ p < s.size) : s.data.toList.drop p = [] := by
  rw [List.drop_eq_nil_iff]; simp only [Array.length_toList]; show s.size ≤ p; omega
theorem below_iter (w : World) (s : ByteArray) (p : Nat) : Below w.heap.size w (w.iter s p) := (Below.refl _ _).alloc (Nat.le_refl _) _
def NRel (s : ByteArray) (w : World) (n : Value) (w' : World) : Prop := ∃ (p : Nat) (m : Int), w' = w.iter s p ∧ p ≤ s.size ∧ n = .int .i64 m ∧ 0 ≤ m ∧ m ≤ 720575940379279369 ∧ numL (s.data.toList.drop p) m = numL s.data.toList 0

set_option maxRecDepth 100000 in
set_option maxHeartbeats 2000000 in
theorem number_any (s : ByteArray) (w : World) :
    Calls Tryd.prog 41 #[.string s] w (RB w (.int .i64 (numL s.data.toList 0))) := by
  go_enter Tryd.func41, Tryd.ntmps41
  go_wp2
  go_loopw [3] (fun n w' => NRel s w n w') (fun _ w' => s.size - w'.iterPos w.heap.size)
  case atStart => exact ⟨0, 0, rfl, by omega, rfl, by omega, by omega, by simp⟩
  case round =>
    obtain ⟨pos, m, rfl, hps, rfl, m0, m1, hn⟩ := hrel
    by_cases hp : pos < s.size
    · rw [drop_cons s pos hp] at hn
      by_cases ha : (s[pos]'hp).toNat < 128
      · have hnx : ∀ ty, (Instr.next (.pointer (some ⟨w.heap.size, 0, none⟩)) true ty).run Tryd.prog (w.iter s pos) = _ := fun ty => run_next_ascii w s pos ty hp ha
        generalize s[pos]'hp = c at *
        by_cases h1 : c.toNat < 48
        · rw [numL_stop (.inl h1)] at hn
          have HN := Lib.hid hn; clear hn
          have h1' : decide ((c.toNat : Int) < 48) = true := by simp; omega
          go_wp2
          go_ret
          exact ⟨ret_int HN.out, below_iter _ _ _⟩
        · have h1' : decide ((c.toNat : Int) < 48) = false := by simp; omega
          by_cases h2 : 57 < c.toNat
          · rw [numL_stop (.inr (.inl h2))] at hn
            have HN := Lib.hid hn; clear hn
            have h2' : decide ((c.toNat : Int) > 57) = true := by simp; omega
            go_wp2
            go_ret
            exact ⟨ret_int HN.out, below_iter _ _ _⟩
          · have h2' : decide ((c.toNat : Int) > 57) = false := by simp; omega
            by_cases h3 : 72057594037927936 < m
            · rw [numL_stop (.inr (.inr h3))] at hn
              have HN := Lib.hid hn; clear hn
              go_wp2
              go_ret
              exact ⟨ret_int HN.out, below_iter _ _ _⟩
            · rw [numL_go (by omega)] at hn
              have HN := Lib.hid hn; clear hn
              have b1 : 48 ≤ (c.toNat : Int) := by omega
              have b2 : (c.toNat : Int) ≤ 57 := by omega
              go_wp2
              go_roundw
              case rel => exact ⟨pos + 1, 10 * m + ((c.toNat : Int) - 48), rfl, by omega, by go_num, by omega, by omega, HN.out⟩
              case measure => simp; omega
      · have hnx : ∀ ty, (Instr.next (.pointer (some ⟨w.heap.size, 0, none⟩)) true ty).run Tryd.prog (w.iter s pos) = _ := fun ty => run_next_any w s pos ty hp
        have hh := (decode_high s pos hp (by omega)).1
        rw [numL_stop (.inr (.inl (by omega)))] at hn
        have HN := Lib.hid hn; clear hn
        generalize (Utf8.decode s pos).1 = r at *
        generalize (Utf8.decode s pos).2 = wd at *
        have h1' : decide ((r : Int) < 48) = false := by simp; omega
        have h2' : decide ((r : Int) > 57) = true := by simp; omega
        go_wp2
        go_ret
        exact ⟨ret_int HN.out, below_iter _ _ _⟩
    · rw [drop_end s pos hp] at hn
      have hnx : ∀ ty, (Instr.next (.pointer (some ⟨w.heap.size, 0, none⟩)) true ty).run Tryd.prog (w.iter s pos) = _ := fun ty => run_next_end w s pos ty hp
      have HN := Lib.hid hn; clear hn
      go_wp2
      go_ret
      exact ⟨ret_int HN.out, below_iter _ _ _⟩
end Go.Proofs.YtelmcglckkjmfaaDoor
