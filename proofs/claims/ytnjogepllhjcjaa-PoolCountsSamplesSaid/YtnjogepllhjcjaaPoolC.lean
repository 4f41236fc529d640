/- Walks: the reference's choose, Choose, Risk; the sanity check. -/
import Derived.Test.YtnjogepllhjcjaaPoolB
import Derived.Deep.RegionHeld3
import Derived.Deep.AppendLies
namespace Go.Proofs.Ytnjogepllhjcjaa
open Go.RowKit

theorem known36_any (w : World) :
    Calls Try.prog 17 #[] w fun e w' => e = .returned (.bool true) ∧ Below w.heap.size w w' := by
  have e1 : chooseN 5 2 = (10, 0) := by decide
  have e2 : riskN 5 2 3 1 = (3, 10, 0) := by decide
  go_enter Try.func17, Try.ntmps17
  go_wp2_with (first | (go_at_call 13; refine (choose_any _ _ _).mono ?_; rintro e w1 ⟨rfl, hb1⟩) | (go_at_call 15; refine (risk_any _ _ _ _ _).mono ?_; rintro e w2 ⟨rfl, hb2⟩))
  go_ret
  exact ⟨rfl, hb1.trans (hb2.mono hb1.size)⟩

/-- The row of the reference: i + 1 numbers of the triangle. -/
def triRow (i : Nat) : List Value := (List.range (i + 1)).map fun m => Value.int .i64 (bin i m)
/-- The next row, its first j numbers. -/
def triNext (i j : Nat) : List Value := (List.range j).map fun m => Value.int .i64 (bin (i + 1) m)
theorem triRow_len (i : Nat) : (triRow i).length = i + 1 := by simp [triRow]
theorem triRow_at (i m : Nat) (h : m < i + 1) : (triRow i)[m]? = some (.int .i64 (bin i m)) := by simp [triRow, h]
theorem triNext_snoc (i j : Nat) : triNext i j ++ [.int .i64 (bin (i + 1) j)] = triNext i (j + 1) := by simp [triNext, List.range_succ]
theorem triNext_end (i : Nat) : triNext i (i + 1) ++ [.int .i64 1] = triRow (i + 1) := by
  have h : bin (i + 1) (i + 1) = 1 := bin_self (i + 1)
  have e := triNext_snoc i (i + 1)
  rw [h] at e
  exact e
theorem triNext_one (i : Nat) : triNext i 1 = [.int .i64 1] := by simp [triNext, bin_zero]
theorem triRow_zero : triRow 0 = [.int .i64 1] := by simp [triRow, bin_zero]

/-- What an owned row gives at one place. -/
theorem owns_cell {w : World} {base : Nat} {e : TypeId} {n g cap : Nat} {xs : List Value} (h : w.ownsRow base e 1 (.slice (some ⟨g, 0, none⟩) n cap) n xs) (m : Nat) (v : Value) (hm : xs[m]? = some v) :
    w.cell? ⟨g, m, none⟩ = some v := by
  have := h.cells (g := g) rfl m v hm
  have hadd : (⟨g, 0, none⟩ : Addr).add m = ⟨g, m, none⟩ := by unfold Addr.add; split <;> simp_all
  rwa [hadd] at this

theorem owns_lt {w : World} {base : Nat} {e : TypeId} {n g cap : Nat} {xs : List Value} (h : w.ownsRow base e 1 (.slice (some ⟨g, 0, none⟩) n cap) n xs) : g < w.heap.size :=
  (h.lt g rfl).2
theorem owns_base {w : World} {base : Nat} {e : TypeId} {n g cap : Nat} {xs : List Value} (h : w.ownsRow base e 1 (.slice (some ⟨g, 0, none⟩) n cap) n xs) : base ≤ g :=
  (h.lt g rfl).1
/-- A literal slice of one number. -/
theorem owns_lit {w : World} {base : Nat} {e : TypeId} (x : Value) (hb : base ≤ w.heap.size) :
    (w.alloc (.cells #[x] e)).ownsRow base e 1 (.slice (some ⟨w.heap.size, 0, none⟩) 1 1) 1 [x] :=
  ⟨rfl, .inr ⟨w.heap.size, 1, #[x], rfl, hb, heap_alloc_new w _, Nat.le_refl _, by unfold maxLen; omega, rfl, rfl⟩⟩
/-- Behind an append to another row. -/
theorem owns_far {w w' : World} {base : Nat} {e : TypeId} {n g cap g' : Nat} {xs : List Value} (h : w.ownsRow base e 1 (.slice (some ⟨g, 0, none⟩) n cap) n xs)
    (hg : w.grownBy w' (some g')) (hne : g' ≠ g) : w'.ownsRow base e 1 (.slice (some ⟨g, 0, none⟩) n cap) n xs :=
  h.kept hg (.inr (by simp [Value.ownBlock]; omega))

/-- An append lies apart from another row. -/
theorem lies_ne {g' gg H g n cap : Nat} (hat : (Value.slice (some ⟨g', 0, none⟩) n cap).ownBlock = some gg ∨ gg = H) (h1 : g' ≠ g) (h2 : g < H) : gg ≠ g := by
  rcases hat with h | h
  · simp [Value.ownBlock] at h; omega
  · omega
/-- The rounds' relations, behind names. -/
def OuterRel (w : World) (n : Nat) (r i : Value) (wr : World) : Prop :=
  ∃ q g cap : Nat, q ≤ n ∧ i = .int .i64 q ∧ r = .slice (some ⟨g, 0, none⟩) (q + 1) cap ∧ wr.ownsRow w.heap.size 3 1 (.slice (some ⟨g, 0, none⟩) (q + 1) cap) (q + 1) (triRow q) ∧ Below w.heap.size w wr
def InnerRel (w : World) (q g cap : Nat) (nx j : Value) (wx : World) : Prop :=
  ∃ p g' cap' : Nat, p ≤ q ∧ j = .int .i64 ((p : Int) + 1) ∧ nx = .slice (some ⟨g', 0, none⟩) (p + 1) cap' ∧ wx.ownsRow w.heap.size 3 1 (.slice (some ⟨g', 0, none⟩) (p + 1) cap') (p + 1) (triNext q (p + 1)) ∧
    wx.ownsRow w.heap.size 3 1 (.slice (some ⟨g, 0, none⟩) (q + 1) cap) (q + 1) (triRow q) ∧ g' ≠ g ∧ Below w.heap.size w wx

set_option maxRecDepth 100000 in
set_option maxHeartbeats 1000000 in
theorem rchoose_any (n k : Int) (w : World) (hn0 : 0 ≤ n) (hn : n ≤ 60) :
    Calls Try.prog 40 #[.int .i64 n, .int .i64 k] w fun e w' => e = .returned (.int .i64 (setsN n k)) ∧ Below w.heap.size w w' := by
  obtain ⟨n, rfl⟩ := Int.eq_ofNat_of_zero_le hn0
  obtain ⟨i0, hi, hz0, hz1, hz2⟩ := info_parts infoInt
  go_enter Try.func40, Try.ntmps40
  go_wp2
  go_loopw [5, 6] (fun r i wr => OuterRel w n r i wr) (fun _ i _ => (n - intOf i).toNat)
  case atStart => exact ⟨0, w.heap.size, 1, by omega, rfl, rfl, by rw [triRow_zero]; exact owns_lit _ (Nat.le_refl _), (Below.refl _ _).alloc (Nat.le_refl _) _⟩
  case round =>
    obtain ⟨q, g, cap, hq, rfl, rfl, hown, hbel⟩ := hrel
    by_cases hlt : q < n
    · go_wp2
      have hB := hbel.size
      have hg := owns_lt hown
      obtain ⟨wo, rfl⟩ : ∃ wo : World, wo = wr := ⟨_, rfl⟩
      go_loopw [7, 8] (fun nx j wx => InnerRel w q g cap nx j wx) (fun _ j _ => (q + 1 - intOf j).toNat)
      case atStart => exact ⟨0, wo.heap.size, 1, by omega, rfl, rfl, by rw [triNext_one]; exact owns_lit _ hB, hown.alloc _, by omega, hbel.alloc hB _⟩
      case round =>
        obtain ⟨p, g', cap', hp, rfl, rfl, hown', hrow, hne, hbelx⟩ := hrel
        by_cases hlp : p + 1 < q + 1
        · have hB1 := hbelx.size
          have c1 := owns_cell hrow p _ (triRow_at q p (by omega))
          have c2 := owns_cell hrow (p + 1) _ (triRow_at q (p + 1) (by omega))
          have b1 := bin_60 (q + 1) (p + 1) (by omega)
          have b2 : (bin q p : Int) + (bin q (p + 1) : Int) = bin (q + 1) (p + 1) := by rw [bin_succ]; omega
          have e1 : IntKind.i64.wrap ((bin q p : Int) + (bin q (p + 1) : Int)) = bin (q + 1) (p + 1) := by rw [b2]; exact IntWalk.i64_in _ (by omega)
          have e2 : IntKind.i64.wrap (p : Int) = p := IntWalk.i64_in _ (by omega)
          have e3 : ((p : Int) + 1).toNat = p + 1 := by omega
          have p0 : (0 : Int) ≤ (p : Int) := by omega
          have p1 : (0 : Int) ≤ (p : Int) + 1 := by omega
          have p2 : (p : Int) + 1 < (q : Int) + 1 := by omega
          have p3 : (p : Int) < (q : Int) + 1 := by omega
          have hg' := owns_lt hown'
          have hgx := owns_lt hrow
          clear b1 b2
          go_wp2
          go_region_held3 (fun w' => w'.cell? ⟨g, p, none⟩ = some (.int .i64 (bin q p)) ∧ w'.cell? ⟨g, p + 1, none⟩ = some (.int .i64 (bin q (p + 1))))
            (first | go_keep | (go_split_ands; refine ⟨?_, ?_⟩ <;> (rw [hgrow.cell_far _ (by simp; omega) (by simp [Value.ownBlock]; omega)]; assumption)))
            ((refine step_append_lies _ (by rfl) _ _ _ (by rfl) w.heap.size 3 i0 _ 1 8 Try.underlying23 hi hz0 hz1 hz2 rfl (by omega) _ (p + 1) (triNext q (p + 1)) (by rfl) ((hown'.alloc _).drew) ⟨wr.heap.size, 0, none⟩ 1 1 [.int .i64 (bin (q + 1) (p + 1))] (by rfl) (by rfl) (World.news_of_block (cs := #[.int .i64 (bin (q + 1) (p + 1))]) (t := 3) (fr := (0, 0)) (heap_alloc_new wr _)) (by simp [Value.oneCell']) (by omega) (by unfold maxLen; omega) (by omega) (by simp; omega) (wr.heap.size + 1) (by simp) ?_; intro gg cap2 w1 hown1 hgrow hat hlt2)) 
          have R : w1.ownsRow w.heap.size 3 1 (.slice (some ⟨gg, 0, none⟩) (p + 1 + 1) cap2) (p + 1 + 1) (triNext q (p + 1 + 1)) := by rw [← triNext_snoc]; exact hown1
          have R2 := owns_far (hrow.alloc (.cells #[.int .i64 (bin (q + 1) (p + 1))] 3)).drew hgrow hne
          have R3 : gg ≠ g := lies_ne hat hne (by omega)
          have R4 : Below w.heap.size w w1 := ((hbelx.alloc hB1 (.cells #[.int .i64 (bin (q + 1) (p + 1))] 3)).drew).grown hgrow (by simp; omega) (fun k hk => by simp [Value.ownBlock] at hk; have := owns_base hown'; omega)
          clear hown1 hgrow hat hrow hown'
          go_wp2
          go_roundw
          case rel => exact ⟨p + 1, gg, cap2, by omega, by go_num, rfl, R, R2, R3, R4⟩
          case measure => simp [intOf]; omega
        · obtain rfl : q = p := by omega
          have hB1 := hbelx.size
          have hg' := owns_lt hown'
          go_wp2_with (at_builtin; refine wpList_append_lies _ rfl _ _ _ rfl w.heap.size 3 i0 _ 1 8 Try.underlying23 hi hz0 hz1 hz2 rfl (by omega) (.slice (some ⟨g', 0, none⟩) (q + 1) cap') (q + 1) (triNext q (q + 1)) rfl (hown'.alloc _) ⟨wr.heap.size, 0, none⟩ 1 1 [.int .i64 1] rfl rfl (World.news_of_block (cs := #[.int .i64 1]) (t := 3) (fr := (0, 0)) (heap_alloc_new wr _)) (by simp [Value.oneCell']) (by omega) (by unfold maxLen; omega) (by omega) (by simp; omega) (wr.heap.size + 1) (by simp) ?_; intro gg cap2 w1 hown1 hgrow hat hlt2)
          have R : w1.ownsRow w.heap.size 3 1 (.slice (some ⟨gg, 0, none⟩) (q + 1 + 1) cap2) (q + 1 + 1) (triRow (q + 1)) := by rw [← triNext_end]; exact hown1
          have R4 : Below w.heap.size w w1 := (hbelx.alloc hB1 (.cells #[.int .i64 1] 3)).grown hgrow (by simp; omega) (fun k hk => by simp [Value.ownBlock] at hk; have := owns_base hown'; omega)
          clear hown1 hgrow hat hrow hown'
          go_wp2
          go_roundw
          case rel => exact ⟨q + 1, gg, cap2, by omega, by go_num, rfl, R, R4⟩
          case measure => simp [intOf]; omega
    · obtain rfl : q = n := by omega
      by_cases hk : k < 0
      · have E1 := Lib.hid (setsN_out (q : Int) k (.inl hk))
        go_wp2
        go_ret
        exact ⟨by rw [E1.out]; rfl, hbel⟩
      by_cases hk2 : (q : Int) < k
      · have E1 := Lib.hid (setsN_out (q : Int) k (.inr hk2))
        have hk' : decide (k < 0) = false := by simpa using hk
        go_wp2
        go_ret
        exact ⟨by rw [E1.out]; rfl, hbel⟩
      · obtain ⟨k, rfl⟩ := Int.eq_ofNat_of_zero_le (show 0 ≤ k by omega)
        have E1 := Lib.hid (setsN_in q k (by omega))
        have c1 := owns_cell hown k _ (triRow_at q k (by omega))
        have hk' : decide ((k : Int) < 0) = false := by simp
        have hk2' : decide (q < k) = false := by simp; omega
        go_wp2
        go_ret
        exact ⟨by rw [E1.out]; rfl, hbel⟩
end Go.Proofs.Ytnjogepllhjcjaa
