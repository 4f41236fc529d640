/- A tape of which it is known that its numbers lie below a bound. -/
import Derived.BigQuiet
import Derived.Deep.QuietTactic
import Derived.Test.YtlfkkfdolnkjfaaJ15
namespace Go.Proofs.Ytlfkkfdolnkjfaa
open Go.RowKit

def TapeB (m : Nat) (w : World) (b : Nat) : Prop := m ≤ b ∧ ∃ (g off len cap k : Nat) (A : Option Addr) (zs : List Int), w.cell? ⟨b, 0, none⟩ = some (.slice A len cap) ∧ w.cell? ⟨b, 1, none⟩ = some (.int .i64 k) ∧ w.frozen? ⟨b, 1, none⟩ = false ∧ k ≤ len ∧
  len ≤ 9223372036854775807 ∧ (k < len → A = some ⟨g, off, none⟩ ∧ g < m ∧ ∀ j, j < len → w.cell? ⟨g, off + j, none⟩ = some (.int .i64 (zs.getD j 0)) ∧ IntIn (zs.getD j 0))
theorem TapeB.lt {m : Nat} {w : World} {b : Nat} (h : TapeB m w b) : b < w.heap.size := by
  obtain ⟨-, g, off, len, cap, k, A, zs, h0, _⟩ := h
  exact World.block_lt_of_cell? w _ h0
theorem TapeB.kept {m : Nat} {w w' : World} {b : Nat} (h : TapeB m w b) (hb : ∀ k, k < m ∨ k = b → w'.heap[k]? = w.heap[k]?) : TapeB m w' b := by
  obtain ⟨hm, g, off, len, cap, k, A, zs, h0, h1, hz, hk, hl, hs⟩ := h
  refine ⟨hm, g, off, len, cap, k, A, zs, (World.cell?_of_block (hb b (.inr rfl))).trans h0, (World.cell?_of_block (hb b (.inr rfl))).trans h1, (World.frozen?_of_block (a := ⟨b, 1, none⟩) (hb b (.inr rfl))).trans hz, hk, hl, fun hlt => ?_⟩
  obtain ⟨e, hg, hs⟩ := hs hlt
  exact ⟨e, hg, fun j hj => ⟨(World.cell?_of_block (hb g (.inl hg))).trans (hs j hj).1, (hs j hj).2⟩⟩
theorem TapeB.below {m : Nat} {w w' : World} {b : Nat} (h : TapeB m w b) (hb : Below w.heap.size w w') : TapeB m w' b :=
  h.kept fun k hk => hb.block k (by have := h.lt; have := h.1; omega)
theorem TapeB.set {m : Nat} {w : World} {b : Nat} (h : TapeB m w b) {a : Addr} (ha : m ≤ a.block) (hb : a.block ≠ b) (v : Value) : TapeB m (w.setCell a v) b :=
  h.kept fun k hk => Below.heap_setCell w a v k (by rcases hk with hk | hk <;> omega)
set_option maxHeartbeats 1000000 in
theorem next_anyB (m b : Nat) (w : World) (h : TapeB m w b) : Calls Try.prog 73 #[.pointer (some ⟨b, 0, none⟩)] w fun e w' => ∃ v, e = .returned (.int .i64 v) ∧ IntIn v ∧ TapeB m w' b ∧ w.grownBy w' (some b) := by
  obtain ⟨hmb, g, off, len, cap, k, A, zs, h0, h1, hz, hk, hl, hs⟩ := id h
  have hbs := World.block_lt_of_cell? w _ h0
  have H := Lib.hid h; clear h
  by_cases hlt : k < len
  · obtain ⟨rfl, hg, hs'⟩ := hs hlt
    have c := (hs' k hlt).1
    have hin := (hs' k hlt).2
    have HS := Lib.hid hs'
    clear hs' hs
    generalize zs.getD k 0 = v at c hin
    go_enter Try.func73, Try.ntmps73
    go_wp2_with fail
    go_quiet (fail)
    go_wp2_with fail
    go_quiet (fail)
    go_wp2
    go_ret
    refine ⟨v, rfl, hin, ⟨hmb, g, off, len, cap, k + 1, _, zs, by simp [go_sem, h0], by simp [go_sem, h1], by simp [go_sem, hz], by omega, hl, fun _ => ⟨rfl, hg, fun j hj => ⟨?_, (HS.out j hj).2⟩⟩⟩, grown_put w _ _ ⟨b, 1, none⟩ _⟩
    have c := (HS.out j hj).1
    have hg' : g ≠ b := by omega
    simp [go_sem, c, hg']
  · clear hs
    go_enter Try.func73, Try.ntmps73
    go_wp2_with fail
    go_quiet (fail)
    go_wp2
    go_ret
    exact ⟨0, rfl, by unfold IntIn; omega, H.out.below (below_drewN (Below.refl _ _) _), grown_drewN _ _ _⟩
theorem int_anyB (m b : Nat) (n : Int) (w : World) (h : TapeB m w b) (hn : 1 ≤ n) (hn2 : n ≤ 9223372036854775807) : Calls Try.prog 28 #[.pointer (some ⟨b, 0, none⟩), .int .i64 n] w fun e w' => ∃ v, e = .returned (.int .i64 v) ∧ 0 ≤ v ∧ v < n ∧ TapeB m w' b ∧ w.grownBy w' (some b) := by
  have H := Lib.hid h; clear h
  go_enter Try.func28, Try.ntmps28
  go_wp2_with fail
  refine (next_anyB m b _ H.out).mono ?_
  rintro e w1 ⟨v, rfl, hv, ht, hg⟩
  have HT := Lib.hid ht; clear ht
  have m1 := Int.emod_nonneg v (b := n) (by omega)
  have m2 := Int.emod_lt_of_pos v (b := n) (by omega)
  go_wp2_with fail
  refine (within_any v n _ hn hn2).mono ?_
  rintro e w2 ⟨rfl, rfl⟩
  go_wp2
  go_ret
  exact ⟨_, rfl, m1, m2, HT.out, hg⟩
theorem new_anyB (A : Option Addr) (len cap : Nat) (zs : List Int) (w0 w : World) (h : IntsAt w0 A len zs) (hb : Below w0.heap.size w0 w) : Calls Try.prog 14 #[.slice A len cap] w fun e w' => e = .returned (.pointer (some ⟨w.heap.size, 0, none⟩)) ∧ TapeB w0.heap.size w' w.heap.size ∧ Below w.heap.size w w' := by
  have H := Lib.hid h; have HB := Lib.hid hb; clear h hb
  go_enter Try.func14, Try.ntmps14
  go_wp2
  go_ret
  refine ⟨rfl, ?_, (Below.refl _ _).alloc (Nat.le_refl _) _⟩
  obtain ⟨hl, hl2, hz, hA⟩ := H.out
  have hsz := HB.out.size
  by_cases hn : 0 < len
  · obtain ⟨g, off, rfl, hg, hc⟩ := hA hn
    refine ⟨hsz, g, off, len, cap, 0, _, zs, by simp [go_sem], by simp [go_sem], by simp [go_sem], by omega, by omega, fun _ => ⟨rfl, by omega, fun j hj => ⟨?_, hz _ ?_⟩⟩⟩
    · exact cell_below ((Below.refl _ _).alloc (Nat.le_refl _) _) ((HB.out.cell (p := ⟨g, off + j, none⟩) hg).trans (hc j hj))
    · rw [List.getD_eq_getElem?_getD, List.getElem?_eq_getElem (by omega)]
      simp
  · exact ⟨hsz, 0, 0, len, cap, 0, A, zs, by simp [go_sem], by simp [go_sem], by simp [go_sem], by omega, by omega, by omega⟩
end Go.Proofs.Ytlfkkfdolnkjfaa
