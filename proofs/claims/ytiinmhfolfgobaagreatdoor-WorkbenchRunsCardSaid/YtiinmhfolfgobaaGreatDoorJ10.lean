/- Lemmas. -/
import Derived.Deep.AppendLies
import Derived.OwnWalk
import Derived.MapKept
import Derived.Maps.Own
import Derived.Test.YtiinmhfolfgobaaGreatDoorJ9
set_option linter.unusedVariables false
set_option linter.unusedSimpArgs false
namespace Go.Proofs.YtiinmhfolfgobaaGreatDoor
open Go.RowKit
def GB (b : Nat) (w w' : World) : Prop := w.grownBy w' (some b)
theorem GB.refl (b : Nat) (w : World) : GB b w w := ⟨rfl, rfl, rfl, Nat.le_refl _, fun _ _ _ => rfl⟩
theorem GB.trans {b : Nat} {a c d : World} (h : GB b a c) (k : GB b c d) : GB b a d := grown_trans h k
theorem GB.alloc {b : Nat} {w w' : World} (h : GB b w w') (o : Obj) : GB b w (w'.alloc o) := h.trans (grown_below (Yl.alloc (Nat.le_refl _) _))
theorem GB.drew {b : Nat} {w w' : World} (h : GB b w w') : GB b w w'.drew := h.trans (grown_below Yl.drew)
theorem GB.drewN {b : Nat} {w w' : World} (h : GB b w w') (n : Nat) : GB b w (w'.drewN n) := h.trans (grown_drewN _ _ _)
theorem GB.setCell {b : Nat} {w w' : World} {p : Addr} (h : GB b w w') (hp : w.heap.size ≤ p.block) (v : Value) : GB b w (w'.setCell p v) :=
 ⟨h.os, h.tape, h.output, by simp [World.setCell]; exact h.size, fun k hk hn => (Below.heap_setCell _ _ _ _ Yo).trans (h.block k hk hn)⟩
theorem GB.call {b : Nat} {w a c : World} (hb : Below a.heap.size a c) (h : GB b w a) : GB b w c := h.trans (grown_below hb)
theorem GB.tap {b : Nat} {w a c : World} (hg : a.grownBy c (some b)) (h : GB b w a) : GB b w c := h.trans hg
theorem Past.gb {b : Nat} {X : List Nat} {w a c : World} (h : GB b w a) (hp : Past X a c) (hX : ∀ k ∈ X, k = b ∨ w.heap.size ≤ k) : GB b w c :=
 ⟨hp.2.1.trans h.os, hp.2.2.1.trans h.tape, hp.2.2.2.1.trans h.output, Nat.le_trans h.size hp.1, fun k hk hn => (hp.2.2.2.2 k (Nat.lt_of_lt_of_le hk h.size) (fun hm => (hX k hm).elim (fun e => hn (by rw [e])) (fun e => absurd hk Yo))).trans (h.block k hk hn)⟩
theorem Past.own {X : List Nat} {w w' : World} {base : Nat} {e : TypeId} {size : Nat} {v : Value} {n : Nat} {xs : List Value} (hp : Past X w w') (h : w.ownsRow base e size v n xs) (hn : ∀ k, v.ownBlock = some k → k ∉ X) : w'.ownsRow base e size v n xs := by
 refine ⟨h.1, ?_⟩
 rcases h.2 with hq | ⟨g, cap, cur, rfl, hb, hgg, rest⟩
 ·exact .inl hq
 ·refine .inr ⟨g, cap, cur, rfl, hb, ?_, rest⟩
  rw [hp.2.2.2.2 g (Array.getElem?_eq_some_iff.1 hgg).1 (hn g rfl)]
  exact hgg
theorem Past.cell {X : List Nat} {w w' : World} {p : Addr} {v : Value} (h : Past X w w') (hn : p.block ∉ X) (hc : w.cell? p = some v) : w'.cell? p = some v :=
 (World.cell?_of_block (h.2.2.2.2 p.block (World.block_lt_of_cell? w p hc) hn)).trans hc
theorem calm_op {P : Program} {o : Oper} {a : Act} {w : World} {K : Act → World → Prop} {Q : Exit → Act → World → Prop} {b : Bool} {X : Prop} (hb : b = true) (h : o.wp P a w K Q) : if b = true then Oper.wp P o a w K Q else X := by rw [if_pos hb]; exact h
def setAll (w : World) (g : Nat) : Nat → List Value → World
 | _, [] => w
 | i, v :: l => setAll (w.setCell ⟨g, i, none⟩ v) g (i + 1) l
def setArr (cs : Array Value) : Nat → List Value → Array Value
 | _, [] => cs
 | i, v :: l => setArr (cs.setIfInBounds i v) (i + 1) l
theorem setAll_past {X : List Nat} {W : World} {g : Nat} (hg : W.heap.size ≤ g) : ∀ (l : List Value) (i : Nat) (w : World), Past X W w → Past X W (setAll w g i l)
 | [], _, _, h => h
 | _ :: l, i, w, h => setAll_past hg l (i + 1) _ (h.far hg _)
theorem setAll_far {g q : Nat} {t : TypeId} {cs : Array Value} (hg : q ≠ g) : ∀ (l : List Value) (i : Nat) (w : World), Blk w q t cs → Blk (setAll w g i l) q t cs
 | [], _, _, h => h
 | _ :: l, i, w, h => setAll_far hg l (i + 1) _ (h.far hg _)
theorem setAll_blk {g : Nat} {t : TypeId} : ∀ (l : List Value) (i : Nat) (w : World) (cs : Array Value), Blk w g t cs → Blk (setAll w g i l) g t (setArr cs i l)
 | [], _, _, _, h => h
 | _ :: l, i, w, cs, h => setAll_blk l (i + 1) _ _ (h.set_ i _)
theorem setAll_size {g : Nat} : ∀ (l : List Value) (i : Nat) (w : World), (setAll w g i l).heap.size = w.heap.size
 | [], _, _ => rfl
 | v :: l, i, w => (setAll_size l (i + 1) _).trans (by simp [World.setCell])
theorem Past.setIn {X : List Nat} {W w : World} {a : Addr} (h : Past X W w) (ha : a.block ∈ X) (v : Value) : Past X W (w.setCell a v) := h.trans (Past.set ha v)
theorem Past.allocs {X : List Nat} {W w : World} (h : Past X W w) (o : Obj) : Past X W (w.alloc o) := h.trans (Past.alloc _ _ _)
theorem Past.drewN {X : List Nat} {W w : World} (h : Past X W w) (n : Nat) : Past X W (w.drewN n) := h
theorem pa1 {X : List Nat} {w w' : World} (h : Past X w w' := by (repeat' (first | (with_reducible (show Past _ _ _; assumption)) | (with_reducible exact Past.refl _ _) | (with_reducible refine Past.drew ?_) | (with_reducible refine Past.drewN ?_ _) | (with_reducible refine Past.allocs ?_ _) | (with_reducible refine' Past.setIn ?_ ?_ _; rotate_left 1; (focus (simp; done))) | (with_reducible refine' Past.far ?_ ?_ _; rotate_left 1; (first | omega | (simp <;> omega)))))) : Past X w w' := h
theorem Yt {w : World} {b : Nat} (h : TapeAt w b := by (repeat' (first | (with_reducible (show TapeAt _ _; exact RowKit.Hid.out (by assumption))) | (with_reducible refine' TapeAt.alloc ?_ _) | (with_reducible refine' TapeAt.drew ?_) | (with_reducible refine' TapeAt.drewN ?_ _) | (with_reducible refine' TapeAt.set ?_ ?_ _))) <;> (first | omega | (simp <;> omega))) : TapeAt w b := h
theorem Yg {b : Nat} {w w' : World} (h : GB b w w' := by (repeat' (first | (with_reducible (show GB _ _ _; assumption)) | (with_reducible exact GB.refl _ _) | (with_reducible refine GB.setCell ?_ ?_ _) | (with_reducible refine GB.alloc ?_ _) | (with_reducible refine GB.drew ?_) | (with_reducible refine GB.drewN ?_ _))) <;> (first | omega | (simp <;> omega))) : GB b w w' := h
def strV (k : List UInt8) : Value := .string ⟨k.toArray⟩
def MapIs (w : World) (m : Nat) (l : List (List UInt8 × Value)) : Prop := ∃ (es : Array MapEntry) (clock : Nat), w.heap[m]? = some (.map es clock) ∧ es.toList.map (fun e => (e.key, e.val)) = l.map (fun x => (strV x.1, x.2))
theorem MapIs.below {w w' : World} {m : Nat} {l : List (List UInt8 × Value)} (h : MapIs w m l) (hb : Below w.heap.size w w') : MapIs w' m l := by
 obtain ⟨es, c, e, h⟩ := h
 exact ⟨es, c, (hb.block m (Array.getElem?_eq_some_iff.1 e).1).trans e, h⟩
theorem MapIs.lt {w : World} {m : Nat} {l : List (List UInt8 × Value)} (h : MapIs w m l) : m < w.heap.size := by
 obtain ⟨es, c, e, h⟩ := h
 exact (Array.getElem?_eq_some_iff.1 e).1
theorem MapIs.new (w : World) : MapIs (w.alloc (.map #[] 0)) w.heap.size [] := ⟨#[], 0, heap_alloc_new w _, rfl⟩
theorem str_beq (x k : List UInt8) : ((⟨x.toArray⟩ : ByteArray) == ⟨k.toArray⟩) = (x == k) := by
 show (x.toArray == k.toArray) = _
 simp
theorem findNow_is (k : List UInt8) : ∀ (es : List MapEntry) (l : List (List UInt8 × Value)) (i : Nat), es.map (fun e => (e.key, e.val)) = l.map (fun x => (strV x.1, x.2)) →
  ∃ r, Instr.findNow .string (strV k) es i = some r ∧ r.map (·.2) = (l.find? (fun x => k == x.1)).map (·.2)
 | [], [], _, _ => ⟨none, rfl, rfl⟩
 | [], _ :: _, _, h => by simp at h
 | _ :: _, [], _, h => by simp at h
 | e :: es, x :: l, i, h => by
  simp only [lm1, List.cons.injEq, Prod.mk.injEq] at h
  obtain ⟨⟨h1, h2⟩, h3⟩ := h
  unfold Instr.findNow
  rw [h1]
  have hs : Instr.sameNow .string (strV k) (strV x.1) = some (k == x.1) := by
   show some ((⟨k.toArray⟩ : ByteArray) == ⟨x.1.toArray⟩) = _
   rw [str_beq]
  rw [hs]
  by_cases hk : k = x.1
  ·rw [beq_iff_eq.2 hk]
   exact ⟨_, rfl, by rw [List.find?_cons_of_pos (by simpa using hk)]; simp [h2]⟩
  ·rw [beq_eq_false_iff_ne.2 hk]
   obtain ⟨r, hr, hr2⟩ := findNow_is k es l (i + 1) h3
   exact ⟨r, hr, by rw [List.find?_cons_of_neg (by simpa using hk)]; exact hr2⟩
section
variable {P : Program}
theorem run_checkKey_string {k : TypeId} (hk : P.underlying k = some .string) (b : Bool) (s : ByteArray) (w : World) : (Instr.checkKey b 10000 k (.string s)).run P w = .ok () w := by
 unfold Instr.checkKey
 simp [run_underlying hk]
theorem run_findKey_string {k : TypeId} (hk : P.underlying k = some .string) (s : List UInt8) (es : List MapEntry) (l : List (List UInt8 × Value)) (w : World) (h : es.map (fun e => (e.key, e.val)) = l.map (fun x => (strV x.1, x.2))) :
  ∃ r, (Instr.findKey k (strV s) es).run P w = .ok r w ∧ r.map (·.2) = (l.find? (fun x => s == x.1)).map (·.2) := by
 obtain ⟨r, h1, h2⟩ := findNow_is s es l 0 h
 refine ⟨r, ?_, h2⟩
 unfold Instr.findKey
 simp [run_underlying hk, h1]
theorem run_mapPut {t k e : TypeId} (ht : P.underlying t = some (.map k e)) (hk : P.underlying k = some .string) {w : World} {m : Nat} {l : List (List UInt8 × Value)} (h : MapIs w m l) (s : List UInt8) (v : Value) (hs : l.find? (fun x => s == x.1) = none) :
  ∃ w', (Instr.mapUpdate t (.map (some m)) (strV s) v).run P w = .ok () w' ∧ MapIs w' m (l ++ [(s, v)]) ∧ w.grownBy w' (some m) := by
 obtain ⟨es, clock, hb, he⟩ := h
 obtain ⟨r, hr, hr2⟩ := run_findKey_string hk s es.toList l w he
 rw [hs] at hr2
 obtain rfl : r = none := by cases r with
  | none => rfl
  | some x => simp at hr2
 refine ⟨{ w with heap := w.heap.setIfInBounds m (.map (es.push { key := strV s, val := v, born := clock }) (clock + 1)) }, ?_, ⟨es.push { key := strV s, val := v, born := clock }, clock + 1, ?_, ?_⟩, ?_⟩
 ·unfold Instr.mapUpdate
  have hc := run_checkKey_string (P := P) hk false ⟨s.toArray⟩ w
  simp only [Sem.run_bind, run_underlying ht, Result.andThen_ok, run_getObj_map w m es clock hb]
  rw [show strV s = .string ⟨s.toArray⟩ from rfl, hc]
  simp only [Result.andThen_ok]
  rw [← show strV s = .string ⟨s.toArray⟩ from rfl, hr]
  simp only [Result.andThen_ok]
  simp [setObj, Sem.run, hb]
 ·rw [Array.getElem?_setIfInBounds_self, if_pos (Array.getElem?_eq_some_iff.1 hb).1]
 ·simp [he]
 ·exact ⟨rfl, rfl, rfl, by simp, fun k hk1 hk2 => by
   rw [Array.getElem?_setIfInBounds_ne (fun e => hk2 (by rw [e]))]⟩
theorem run_mapLook {t k e : TypeId} (ht : P.underlying t = some (.map k e)) (hk : P.underlying k = some .string) {w : World} {m : Nat} {l : List (List UInt8 × Value)} (h : MapIs w m l) (s : List UInt8) (v : Value) (hs : (l.find? (fun x => s == x.1)).map (·.2) = some v) :
  (Instr.lookup t (.map (some m)) (strV s) true).run P w = .ok (.tuple #[v, .bool true]) w := by
 obtain ⟨es, clock, hb, he⟩ := h
 obtain ⟨r, hr, hr2⟩ := run_findKey_string hk s es.toList l w he
 rw [hs] at hr2
 obtain ⟨x, rfl, hx⟩ : ∃ x, r = some x ∧ x.2 = v := by cases r with
  | none => simp at hr2
  | some x => exact ⟨x, rfl, by simpa using hr2⟩
 unfold Instr.lookup
 have hc := run_checkKey_string (P := P) hk es.isEmpty ⟨s.toArray⟩ w
 simp only [Sem.run_bind, run_underlying ht, Result.andThen_ok, run_getObj_map w m es clock hb]
 rw [show strV s = .string ⟨s.toArray⟩ from rfl]
 simp only [Sem.run_pure, Result.andThen_ok, hc]
 rw [← show strV s = .string ⟨s.toArray⟩ from rfl]
 simp [hr, hx]
theorem run_mapMiss {t k e : TypeId} (ht : P.underlying t = some (.map k e)) (hk : P.underlying k = some .string) {w : World} {m : Nat} {l : List (List UInt8 × Value)} (h : MapIs w m l) (s : List UInt8) (z : Value) (hz : (zeroValue e).run P w = .ok z w) (hs : l.find? (fun x => s == x.1) = none) :
  (Instr.lookup t (.map (some m)) (strV s) true).run P w = .ok (.tuple #[z, .bool false]) w := by
 obtain ⟨es, clock, hb, he⟩ := h
 obtain ⟨r, hr, hr2⟩ := run_findKey_string hk s es.toList l w he
 rw [hs] at hr2
 obtain rfl : r = none := by cases r with
  | none => rfl
  | some x => simp at hr2
 unfold Instr.lookup
 have hc := run_checkKey_string (P := P) hk es.isEmpty ⟨s.toArray⟩ w
 simp only [Sem.run_bind, run_underlying ht, Result.andThen_ok, run_getObj_map w m es clock hb]
 rw [show strV s = .string ⟨s.toArray⟩ from rfl]
 simp only [Sem.run_pure, Result.andThen_ok, hc]
 rw [← show strV s = .string ⟨s.toArray⟩ from rfl]
 simp [hr, hz]
theorem wpList_insert {ops : Array Oper} {rest : List Oper} {o : Oper} {a : Act} {w : World} {Q : Exit → Act → World → Prop} (hg : o.guard = none) (mo x v : Operand) (t : TypeId) (hop : o.op = Op.insert t mo x v)
  {k e : TypeId} (ht : P.underlying t = some (.map k e)) (hk : P.underlying k = some .string) {m : Nat} {l : List (List UInt8 × Value)} (hm : a.eval mo = .map (some m)) (h : MapIs w m l) (s : List UInt8) (hx : a.eval x = strV s) (val : Value) (hv : a.eval v = val) (hs : l.find? (fun x => s == x.1) = none)
  (hK : ∀ w', MapIs w' m (l ++ [(s, val)]) → w.grownBy w' (some m) → wpList P ops Q rest (a.put o.dst undef) w') : wpList P ops Q (o :: rest) a w := by
 refine wpList_plain hg fun K' hK' => ?_
 obtain ⟨w', hrun, r1, r2⟩ := run_mapPut ht hk h s val hs
 unfold Oper.wp
 simp [execOp, hop, hm, hx, hv, hrun, Result.andThen]
 exact hK' _ _ (hK w' r1 r2)
end
end Go.Proofs.YtiinmhfolfgobaaGreatDoor
