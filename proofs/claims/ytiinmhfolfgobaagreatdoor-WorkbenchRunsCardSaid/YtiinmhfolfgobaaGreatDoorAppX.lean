/- append onto a row of one's own, exactly: it grows into a new block, or into the room that is there. -/
import Derived.Deep.AppendLies
import Derived.Deep.Upon
import Derived.Test.YtiinmhfolfgobaaGreatDoorJ4
set_option linter.unusedVariables false
set_option linter.unusedSimpArgs false
namespace Go.Proofs.YtiinmhfolfgobaaGreatDoor
open Go Go.RowKit
theorem src_empty {P : Program} {w : World} {t e : TypeId} (ht : P.underlying t = some (.slice e)) (size : Nat) (A : Option Addr) (c : Nat) : Src P size t (.slice A 0 c) 0 [] w :=
  { kind := .inl ⟨e, ht⟩
    len := fun w' => by simp [Builtin.lenOf]
    cells := by cases A <;> simp [Builtin.firstCells, loadCells, loadCellsFrom]
    cellsD := by cases A <;> simp [Builtin.firstCells, loadCells, loadCellsFrom]
    newsLen := by simp
    one := by simp }
theorem append_exact {P : Program} {w : World} (base : Nat) (t ty e : TypeId) (i : TypeInfo) (z : Value) (size bytes : Nat) (ht : P.underlying t = some (.slice e)) (hi : P.info? e = some i) (hz : i.zero = some z)
    (hsize : i.size = size) (hby : i.bytes = bytes) (hzs : z.cells.size = size) (hsz : 0 < size)
    (v : Value) (n : Nat) (xs : List Value) (hown : w.ownsRow base e size v n xs)
    (A : Option Addr) (m c : Nat) (news : List Value) (hl : news.length = m * size) (hsrc : 0 < m → ∃ ad, A = some ad ∧ ∀ j u, news[j]? = some u → w.cell? (ad.add j) = some u) (h1 : ∀ u ∈ news, u.oneCell' = true)
    (h63 : n + m ≤ maxLen) (hbytes : (n + m) * bytes ≤ 140737488355328) (hbase : base ≤ w.heap.size) :
    ∃ A' c' w', (Builtin.append_ #[t, t] ty #[v, .slice A m c]).run P w = .ok (.slice A' (n + m) c') w' ∧ w'.ownsRow base e size (.slice A' (n + m) c') (n + m) (xs ++ news) ∧
      (w.grownBy w' none ∨ ∃ g cap, v = .slice (some ⟨g, 0, none⟩) n cap ∧ 0 < m ∧ n + m ≤ cap ∧ w.grownBy w' (some g)) ∧ (m = 0 → (.slice A' (n + m) c' : Value) = v) := by
  by_cases hm : m = 0
  · subst hm
    have hn : news = [] := List.eq_nil_of_length_eq_zero (by simpa using hl)
    subst hn
    obtain ⟨A0, c0, rfl, hle⟩ : ∃ A0 c0, v = .slice A0 n c0 ∧ n ≤ c0 := by
      rcases hown.2 with ⟨e1, e2⟩ | ⟨g, cap, cur, e1, _, _, hnc, _⟩
      · exact ⟨none, 0, by rw [e1, e2], Yo⟩
      · exact ⟨_, cap, e1, hnc⟩
    exact ⟨A0, c0, w, run_append_nothing w t t ty e i ht hi A0 n c0 hle _ (src_empty ht _ A c), by rw [List.append_nil]; exact hown, .inl ⟨rfl, rfl, rfl, Nat.le_refl _, fun _ _ _ => rfl⟩, fun _ => rfl⟩
  · obtain ⟨ad, rfl, hnews⟩ := hsrc Yo
    obtain ⟨v', w', hr, h2, h3, _, _⟩ := run_append_own_at (P := P) (w := w) base t ty e i z size bytes ht hi hz hsize hby hzs hsz v n xs hown ad m c news hl hnews h1 h63 hbytes hbase
    obtain ⟨g', c', rfl, _, _⟩ := h2.form Yo
    refine ⟨_, c', w', hr, h2, ?_, fun h => absurd h hm⟩
    rcases hown.2 with ⟨e1, e2⟩ | ⟨g, cap, cur, e1, _, _, hnc, _⟩
    · subst e1; exact .inl h3
    · subst e1
      by_cases hroom : n + m ≤ cap
      · exact .inr ⟨g, cap, rfl, Yo, hroom, h3⟩
      · left
        subst hsize
        subst hby
        have holds : ∀ j u, xs[j]? = some u → w.cell? ((⟨g, 0, none⟩ : Addr).add j) = some u := hown.cells (g := g) rfl
        have hr2 := run_append_grow (P := P) (w := w) t ty e i z ht hi hz ⟨g, 0, none⟩ n cap xs hown.1 holds ad m c news hl hnews Yo (by simp only [maxLen] at h63; omega) (growslice_fits Yo hbytes)
        rw [hr] at hr2
        injection hr2 with _ e3
        rw [e3]
        exact ⟨rfl, rfl, rfl, by simp, fun k hk _ => heap_alloc_old w.drew _ k hk⟩
theorem wp_append_exact {P : Program} {w : World} {o : Oper} {a : Act} {K : Act → World → Prop} {Q : Exit → Act → World → Prop} (s x : Operand) (t : TypeId)
    (ho : o.op = .call { callee := .builtin .append, args := #[s, x], argTypes := #[t, t] })
    (base : Nat) (e : TypeId) (i : TypeInfo) (z : Value) (size bytes : Nat) (ht : P.underlying t = some (.slice e)) (hi : P.info? e = some i) (hz : i.zero = some z)
    (hsize : i.size = size) (hby : i.bytes = bytes) (hzs : z.cells.size = size) (hsz : 0 < size)
    (v : Value) (n : Nat) (xs : List Value) (hs : a.eval s = v) (hown : w.ownsRow base e size v n xs)
    (A : Option Addr) (m c : Nat) (news : List Value) (hx : a.eval x = .slice A m c) (hl : news.length = m * size) (hsrc : 0 < m → ∃ ad, A = some ad ∧ ∀ j u, news[j]? = some u → w.cell? (ad.add j) = some u) (h1 : ∀ u ∈ news, u.oneCell' = true)
    (h63 : n + m ≤ maxLen) (hbytes : (n + m) * bytes ≤ 140737488355328) (hbase : base ≤ w.heap.size)
    (h : ∀ A' c' w', w'.ownsRow base e size (.slice A' (n + m) c') (n + m) (xs ++ news) → (w.grownBy w' none ∨ ∃ g cap, v = .slice (some ⟨g, 0, none⟩) n cap ∧ 0 < m ∧ n + m ≤ cap ∧ w.grownBy w' (some g)) → (m = 0 → (.slice A' (n + m) c' : Value) = v) → K (a.put o.dst (.slice A' (n + m) c')) w') : o.wp P a w K Q := by
  obtain ⟨A', c', w', hr, h2, h3, h4⟩ := append_exact (P := P) (w := w) base t o.type e i z size bytes ht hi hz hsize hby hzs hsz v n xs hown A m c news hl hsrc h1 h63 hbytes hbase
  unfold Oper.wp execOp
  simp only [ho, resolve, invoke, builtin, Sem.run_bind, Sem.run_pure, Result.andThen_ok, List.map_toArray, lm1, lm0, hs, hx, hr]
  exact h A' c' w' h2 h3 h4
end Go.Proofs.YtiinmhfolfgobaaGreatDoor
