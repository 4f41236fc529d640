/- Lemmas. -/
import Derived.Laws.Externs
import Derived.Lib.AppendStr
import Derived.Lib.Builder
import Derived.Lib.UnsafeStr
import Derived.Shelf.RegionOpenPlain
import Derived.Deep.LoopGhost
import Derived.Shelf.Abstract
import Derived.Test.YtiinmhfolfgobaaGreatDoorJ10
import Derived.Test.YtiinmhfolfgobaaGreatDoorJ7
set_option linter.unusedVariables false
set_option linter.unusedSimpArgs false
namespace Go.Proofs.YtiinmhfolfgobaaGreatDoor
open Go.RowKit Go.Lib
set_option maxHeartbeats 16000000
set_option maxRecDepth 100000
def PastT (B : Nat) (Ts : List TypeId) (w w' : World) : Prop := w.heap.size ≤ w'.heap.size ∧ w'.os = w.os ∧ w'.tape = w.tape ∧ w'.output = w.output ∧
 ∀ k, k < w.heap.size → (k < B ∨ ∀ cs t fz, w.heap[k]? = some (.cells cs t fz) → t ∉ Ts) → w'.heap[k]? = w.heap[k]?
theorem PastT.refl (B : Nat) (Ts : List TypeId) (w : World) : PastT B Ts w w := ⟨Nat.le_refl _, rfl, rfl, rfl, fun _ _ _ => rfl⟩
theorem PastT.trans {B : Nat} {Ts : List TypeId} {a b c : World} (h : PastT B Ts a b) (k : PastT B Ts b c) : PastT B Ts a c :=
 ⟨Nat.le_trans h.1 k.1, k.2.1.trans h.2.1, k.2.2.1.trans h.2.2.1, k.2.2.2.1.trans h.2.2.2.1, fun q hq hn => by
  have e := h.2.2.2.2 q hq hn
  exact (k.2.2.2.2 q (Nat.lt_of_lt_of_le hq h.1) (hn.imp id fun f cs t fz hc => f cs t fz (e ▸ hc))).trans e⟩
theorem PastT.mono {B : Nat} {Ts Us : List TypeId} {w w' : World} (h : PastT B Ts w w') (hs : ∀ t ∈ Ts, t ∈ Us) : PastT B Us w w' :=
 ⟨h.1, h.2.1, h.2.2.1, h.2.2.2.1, fun k hk hn => h.2.2.2.2 k hk (hn.imp id fun f cs t fz hc ht => f cs t fz hc (hs t ht))⟩
theorem PastT.below {B : Nat} {Ts : List TypeId} {w w' : World} (h : Below w.heap.size w w') : PastT B Ts w w' := ⟨h.size, h.os, h.tape, h.output, fun k hk _ => h.block k hk⟩
theorem PastT.toBelow {B : Nat} {Ts : List TypeId} {w w' : World} (h : PastT B Ts w w') (hB : B ≤ w.heap.size) : Below B w w' := ⟨h.2.1, h.2.2.1, h.2.2.2.1, h.1, fun k hk => h.2.2.2.2 k (Nat.lt_of_lt_of_le hk hB) (.inl hk)⟩
theorem PastT.blk {B : Nat} {Ts : List TypeId} {w w' : World} {g : Nat} {t : TypeId} {cs : Array Value} (h : PastT B Ts w w') (hb : Blk w g t cs) (hn : t ∉ Ts) : Blk w' g t cs :=
 (h.2.2.2.2 g hb.lt (.inr fun cs' t' fz hc => by rw [show w.heap[g]? = _ from hb] at hc; injection hc with hc; injection hc with _ e _; exact e ▸ hn)).trans hb
theorem PastT.of_past {B : Nat} {X : List Nat} {Ts : List TypeId} {w w' : World} (h : Past X w w') (hX : ∀ k ∈ X, B ≤ k ∧ ∃ cs t fz, w.heap[k]? = some (.cells cs t fz) ∧ t ∈ Ts) : PastT B Ts w w' :=
 ⟨h.1, h.2.1, h.2.2.1, h.2.2.2.1, fun k hk hn => h.2.2.2.2 k hk fun hm => by
  obtain ⟨hb, cs, t, fz, hc, ht⟩ := hX k hm
  rcases hn with h1 | h1
  ·omega
  ·exact h1 cs t fz hc ht⟩
theorem PastT.grown {B : Nat} {Ts : List TypeId} {w w' : World} {r : Option Nat} (h : w.grownBy w' r) (hr : ∀ k, r = some k → B ≤ k ∧ ∃ cs t fz, w.heap[k]? = some (.cells cs t fz) ∧ t ∈ Ts) : PastT B Ts w w' := by
 cases r with
 | none => exact ⟨h.size, h.os, h.tape, h.output, fun k hk _ => h.block k hk Ys⟩
 | some q => exact .of_past (X := [q]) ⟨h.size, h.os, h.tape, h.output, fun k hk hn => h.block k hk (fun e => by injection e with e; simp [e] at hn)⟩ (fun k hk => hr k (by simp at hk; rw [hk]))
theorem ptrBuilder : (Tryz.prog.info? 74).map (·.size) = some 2 := by kernel_rfl
theorem liesBuilder : liesAt Tryz.prog Tryz.prog.depth 76 (12 / Tryz.prog.cellsOf 76) 10 74 1 = true := by kernel_rfl
theorem infoU8 : (Tryz.prog.info? 5).map (fun i => (i.zero, i.size, i.bytes)) = some (some (.int .u8 0), 1, 1) := by kernel_rfl
theorem ccheck_used (g : Nat) (x0 x1 x2 x3 x4 x5 x6 x7 x8 x9 v : Value) (w : World) (h : Blk w g 76 #[x0, x1, x2, x3, x4, x5, x6, x7, x8, x9, .pointer (some ⟨g, 10, none⟩), v]) :
  Calls Tryz.prog 195 #[.pointer (some ⟨g, 10, none⟩)] w (fun e w' => e = .returned (.tuple #[]) ∧ w' = w) := by
 obtain ⟨jB, hjB, hjs⟩ := Option.map_eq_some_iff.1 ptrBuilder
 have c0 := h.cell 10
 go_enter Tryz.func195, Tryz.ntmps195
 go_wp2
 rw [Lib.run_neq_ptr_same w _ Tryz.underlying71 hjB]
 go_wp2
 go_end0
 exact ⟨rfl, rfl⟩
theorem ccheck_fresh (g : Nat) (x0 x1 x2 x3 x4 x5 x6 x7 x8 x9 v : Value) (w : World) (h : Blk w g 76 #[x0, x1, x2, x3, x4, x5, x6, x7, x8, x9, .pointer none, v]) :
  Calls Tryz.prog 195 #[.pointer (some ⟨g, 10, none⟩)] w (fun e w' => e = .returned (.tuple #[]) ∧ w' = w.setCell ⟨g, 10, none⟩ (.pointer (some ⟨g, 10, none⟩))) := by
 obtain ⟨jB, hjB, hjs⟩ := Option.map_eq_some_iff.1 ptrBuilder
 have c0 := h.cell 10
 have f0 := h.frozen 10
 have hsh : w.shape? g = some (76, 12) := by unfold World.shape?; rw [show w.heap[g]? = _ from h]; rfl
 go_enter Tryz.func195, Tryz.ntmps195
 go_wp2
 rw [Lib.run_to_unsafe w ⟨g, 10, none⟩ Tryz.underlying71 Tryz.underlying236 hjB (by rw [hjs]; decide) hsh (show (10 : Nat) < 12 by decide)]
 simp only [Result.andThen]
 rw [Oper.upon_value]
 go_wp2
 rw [run_callFunc_extern Tryz.func222 Yr Yr Yr (e := Extern.AbiNoEscape.same) Yr]
 rw [Lib.run_noEscape]
 simp only [Result.andThen]
 rw [Oper.upon_value]
 go_wp2
 rw [Lib.run_from_unsafe w ⟨g, 10, none⟩ Tryz.underlying236 Tryz.underlying71 hjB hsh liesBuilder]
 simp only [Result.andThen]
 rw [Oper.upon_value]
 go_wp2
 go_end0
 exact ⟨rfl, rfl⟩
theorem ccheck_any (g : Nat) (x0 x1 x2 x3 x4 x5 x6 x7 x8 x9 p v : Value) (w : World) (h : Blk w g 76 #[x0, x1, x2, x3, x4, x5, x6, x7, x8, x9, p, v]) (hp : p = .pointer none ∨ p = .pointer (some ⟨g, 10, none⟩)) :
  Calls Tryz.prog 195 #[.pointer (some ⟨g, 10, none⟩)] w (fun e w' => e = .returned (.tuple #[]) ∧ Blk w' g 76 #[x0, x1, x2, x3, x4, x5, x6, x7, x8, x9, .pointer (some ⟨g, 10, none⟩), v] ∧ Past [g] w w') := by
 rcases hp with rfl | rfl
 ·refine (ccheck_fresh g x0 x1 x2 x3 x4 x5 x6 x7 x8 x9 v w h).mono ?_
  rintro e w' ⟨rfl, rfl⟩
  exact ⟨rfl, h.put rfl, Past.set Ys _⟩
 ·refine (ccheck_used g x0 x1 x2 x3 x4 x5 x6 x7 x8 x9 v w h).mono ?_
  rintro e w' ⟨rfl, rfl⟩
  exact ⟨rfl, h, Past.refl _ _⟩
def BufAt (B : Nat) (w : World) (v : Value) (l : List UInt8) : Prop := w.ownsRow B 5 1 v l.length (byteCells l) ∧ (l = [] → v = .slice none 0 0)
theorem BufAt.row {B : Nat} {w : World} {v : Value} {l : List UInt8} (h : BufAt B w v l) : ∀ k, v.ownBlock = some k → B ≤ k ∧ ∃ cs t fz, w.heap[k]? = some (.cells cs t fz) ∧ t ∈ [5] := by
 intro k hk
 rcases h.1.2 with ⟨rfl, _⟩ | ⟨g, cap, cur, rfl, hb, hg, _⟩
 ·simp [Value.ownBlock] at hk
 ·simp [Value.ownBlock] at hk
  subst hk
  exact ⟨hb, _, _, _, hg, by simp⟩
theorem BufAt.ne {B : Nat} {w : World} {v : Value} {l : List UInt8} {g : Nat} {t : TypeId} {cs : Array Value} (h : BufAt B w v l) (hb : Blk w g t cs) (ht : t ≠ 5) : v.ownBlock ≠ some g := by
 intro e
 obtain ⟨_, cs', t', fz, hc, hm⟩ := h.row g e
 rw [show w.heap[g]? = _ from hb] at hc
 injection hc with hc; injection hc with _ e2 _
 simp at hm
 exact ht (e2.trans hm)
theorem BufAt.past {B : Nat} {w w' : World} {v : Value} {l : List UInt8} {X : List Nat} (h : BufAt B w v l) (hp : Past X w w') (hX : ∀ k ∈ X, ∃ t cs, Blk w k t cs ∧ t ≠ 5) : BufAt B w' v l :=
 ⟨Past.own hp h.1 fun k hk hm => by obtain ⟨t, cs, hb, ht⟩ := hX k hm; exact h.ne hb ht hk, h.2⟩
theorem BufAt.pastT {B : Nat} {w w' : World} {v : Value} {l : List UInt8} {Ts : List TypeId} (h : BufAt B w v l) (hp : PastT B Ts w w') (hT : 5 ∉ Ts) : BufAt B w' v l := by
 refine ⟨⟨h.1.1, ?_⟩, h.2⟩
 rcases h.1.2 with h1 | ⟨g, cap, cur, rfl, hb, hg, r⟩
 ·exact .inl h1
 ·exact .inr ⟨g, cap, cur, rfl, hb, hp.blk (g := g) hg hT, r⟩
theorem BufAt.nil (B : Nat) (w : World) : BufAt B w (.slice none 0 0) [] := ⟨World.ownsRow_nil _ _ _ _, fun _ => rfl⟩
theorem wstr_any (B g : Nat) (x0 x1 x2 x3 x4 x5 x6 x7 x8 x9 p v : Value) (l : List UInt8) (s : ByteArray) (w : World) (h : Blk w g 76 #[x0, x1, x2, x3, x4, x5, x6, x7, x8, x9, p, v]) (hp : p = .pointer none ∨ p = .pointer (some ⟨g, 10, none⟩)) (hv : BufAt B w v l) (hB : B ≤ g) (hl : l.length + s.size ≤ 1000000) :
  Calls Tryz.prog 165 #[.pointer (some ⟨g, 10, none⟩), .string s] w (fun e w' => e = .returned (.tuple #[.int .i64 s.size, .nilIface]) ∧ ∃ v', Blk w' g 76 #[x0, x1, x2, x3, x4, x5, x6, x7, x8, x9, .pointer (some ⟨g, 10, none⟩), v'] ∧ BufAt B w' v' (l ++ s.data.toList) ∧ PastT B [5, 76] w w') := by
 obtain ⟨i0, hi, hz0, hz1, hz2⟩ := info_parts infoU8
 have hgl := h.lt
 go_enter Tryz.func165, Tryz.ntmps165
 go_wp2_with fail
 refine (ccheck_any g x0 x1 x2 x3 x4 x5 x6 x7 x8 x9 p v _ h hp).mono ?_
 rintro e w1 ⟨rfl, h1, hq⟩
 have hv1 : BufAt B w1 v l := hv.past hq (fun k hk => by simp at hk; subst hk; exact ⟨_, _, h, by decide⟩)
 have hT1 : PastT B [5, 76] w w1 := .of_past hq (fun k hk => by simp at hk; subst hk; exact ⟨hB, _, _, _, h, by simp⟩)
 have hown := hv1.1
 have c11 := h1.cell 11
 have hz : B ≤ w1.heap.size := by have := hq.1; omega
 go_wp2_with (at_builtin; refine Lib.wpList_append_own_string _ rfl _ _ 72 9 rfl B 5 i0 Tryz.underlying72 Tryz.underlying9 hi hz0 hz1 hz2 _ _ _ rfl hown s rfl ?c3 ?c4 ?c5 ?_)
 case c3 => unfold maxLen; omega
 case c4 => omega
 case c5 => exact hz
 intro v' w2 hown' hgrow hnil
 have hne := hv1.ne h1 Yd
 have h2 : Blk w2 g 76 #[x0, x1, x2, x3, x4, x5, x6, x7, x8, x9, .pointer (some ⟨g, 10, none⟩), v] := (hgrow.block g h1.lt (fun e => hne e.symm)).trans h1
 have f11 := h2.frozen 11
 have c112 := h2.cell 11
 have hT2 : PastT B [5, 76] w1 w2 := .grown hgrow (fun k hk => by obtain ⟨a, cs, t, fz, b, d⟩ := hv1.row k hk; exact ⟨a, cs, t, fz, b, by simp at d; simp [d]⟩)
 obtain ⟨ao, n', cap, rfl⟩ : ∃ ao n' cap, v' = .slice ao n' cap := by
  rcases hown'.2 with ⟨hv, _⟩ | ⟨g, cap, cur, hv, _⟩
  ·exact ⟨_, _, _, hv⟩
  ·exact ⟨_, _, _, hv⟩
 go_wp2
 go_ret2
 have h3 : Blk (w2.setCell ⟨g, 11, none⟩ (.slice ao n' cap)) g 76 #[x0, x1, x2, x3, x4, x5, x6, x7, x8, x9, .pointer (some ⟨g, 10, none⟩), .slice ao n' cap] := h2.put rfl
 have hb2 : BufAt B w2 (.slice ao n' cap) (l ++ s.data.toList) := by
  refine ⟨?_, ?_⟩
  ·rw [byteCells_append, lla]; exact hown'
  ·intro e
   obtain ⟨e1, e2⟩ := List.append_eq_nil_iff.1 e
   exact hnil.2 ⟨hv1.2 e1, by obtain ⟨⟨ls⟩⟩ := s; simp at e2; subst e2; rfl⟩
 have hq3 : Past [g] w2 (w2.setCell ⟨g, 11, none⟩ (.slice ao n' cap)) := Past.set Ys _
 exact ⟨rfl, _, h3, hb2.past hq3 (fun k hk => by simp at hk; subst hk; exact ⟨_, _, h2, by decide⟩), hT1.trans (hT2.trans (.of_past hq3 (fun k hk => by simp at hk; subst hk; exact ⟨hB, _, _, _, h2, by simp⟩)))⟩
theorem bstr_any (B g : Nat) (x0 x1 x2 x3 x4 x5 x6 x7 x8 x9 p v : Value) (l : List UInt8) (w : World) (h : Blk w g 76 #[x0, x1, x2, x3, x4, x5, x6, x7, x8, x9, p, v]) (hv : BufAt B w v l) (hB : B ≤ g) (hl : l.length ≤ 1000000) :
  Calls Tryz.prog 34 #[.pointer (some ⟨g, 10, none⟩)] w (fun e w' => e = .returned (.string ⟨l.toArray⟩) ∧ Below B w w') := by
 by_cases hl0 : l = []
 ·obtain rfl := hv.2 hl0
  subst hl0
  have hUS := fun W : World => Lib.run_unsafeString_none (P := Tryz.prog) W 117 3 9 none
  have c1 : w.drew.cell? ⟨g, 11, none⟩ = some (.slice none 0 0) := h.cell 11
  have hSD : (Builtin.unsafeSliceData_ #[72] 117 #[.slice none 0 0]).run Tryz.prog w.drew = .ok (.pointer none) w.drew := rfl
  clear hv
  have mixed : Tryz.prog.follows .mixedOrders = true := by kernel_rfl
  go_enter Tryz.func34, Tryz.ntmps34
  go_wp2
  go_region_o
  all_goals (go_wp2; go_ret; exact ⟨rfl, Below.drew (Below.refl B w)⟩)
 ·have hl1 : l.length ≠ 0 := by simpa using hl0
  have hown := hv.1
  obtain ⟨gb, cap, cur, rfl, hbg, hg, hnc, hcm, hcs, htake⟩ : ∃ gb cap cur, v = .slice (some ⟨gb, 0, none⟩) l.length cap ∧ B ≤ gb ∧ w.heap[gb]? = some (.cells cur 5 (0, 0)) ∧ l.length ≤ cap ∧ cap ≤ maxLen ∧ cur.size = cap * 1 ∧ cur.toList.take (l.length * 1) = byteCells l := by
   rcases hown.2 with ⟨_, hz⟩ | ⟨g, cap, cur, hv, r⟩
   ·exact absurd hz hl1
   ·exact ⟨g, cap, cur, hv, r⟩
  have c1 : w.drew.cell? ⟨g, 11, none⟩ = some (.slice (some ⟨gb, 0, none⟩) l.length cap) := h.cell 11
  have hSD : (Builtin.unsafeSliceData_ #[72] 117 #[.slice (some ⟨gb, 0, none⟩) l.length cap]).run Tryz.prog w.drew = .ok (.pointer (some ⟨gb, 0, none⟩)) w.drew :=
   Lib.run_unsafeSliceData_row _ _ _ _ _ _ Yo
  have hUS : (Builtin.unsafeString_ #[117, 3] 9 #[.pointer (some ⟨gb, 0, none⟩), .int .i64 l.length]).run Tryz.prog w.drew = .ok (.string ⟨l.toArray⟩) (w.drew.freeze ⟨gb, 0, none⟩ l.length) := by
   refine Lib.run_unsafeString_row w.drew 117 3 9 5 Tryz.underlying117 Yr gb cur.size (by have hg' : w.drew.heap[gb]? = some (.cells cur 5 (0, 0)) := hg; simp [World.shape?, hg']) l hl0 Yo Yo ?_
   intro j x hx
   exact hown.cells (g := gb) rfl j (.int .u8 x.toNat) (by simp [byteCells, hx])
  clear hv hown htake hcs hcm hnc hl
  have mixed : Tryz.prog.follows .mixedOrders = true := by kernel_rfl
  go_enter Tryz.func34, Tryz.ntmps34
  go_wp2
  go_region_o
  all_goals (go_wp2; go_ret; exact ⟨rfl, Lib.below_freeze (Below.drew (Below.refl B w)) (p := ⟨gb, 0, none⟩) hbg _⟩)
end Go.Proofs.YtiinmhfolfgobaaGreatDoor
namespace Go.Proofs.YtiinmhfolfgobaaGreatDoor
open Go.RowKit
def vT (t : Int) : Bool := decide (-1152921504606846976 ≤ t ∧ t ≤ 1152921504606846976)
theorem vT_true {t : Int} : vT t = true ↔ -1152921504606846976 ≤ t ∧ t ≤ 1152921504606846976 := by simp [vT]
theorem vT_false {t : Int} : vT t = false ↔ t < -1152921504606846976 ∨ 1152921504606846976 < t := by simp [vT]; omega
def vS (lo hi : Int) : Bool := vT lo && vT hi && decide (lo ≤ hi)
theorem vS_true {lo hi : Int} : vS lo hi = true ↔ (-1152921504606846976 ≤ lo ∧ lo ≤ hi ∧ hi ≤ 1152921504606846976) := by simp [vS, vT]; omega
theorem tvalid_any (t : Int) (w : World) : Calls Tryz.prog 47 #[.int .i64 t] w fun e w' => e = .returned (.bool (vT t)) ∧ w = w' := by
 by_cases h1 : -1152921504606846976 ≤ t
 ·by_cases h2 : t ≤ 1152921504606846976
  ·rw [vT_true.2 ⟨h1, h2⟩]
   go_enter Tryz.func47, Tryz.ntmps47
   go_wp2; go_ret; exact ⟨rfl, rfl⟩
  ·rw [vT_false.2 (.inr Yo)]
   go_enter Tryz.func47, Tryz.ntmps47
   go_wp2; go_ret; exact ⟨rfl, rfl⟩
 ·rw [vT_false.2 (.inl Yo)]
  go_enter Tryz.func47, Tryz.ntmps47
  go_wp2; go_ret; exact ⟨rfl, rfl⟩
theorem rvalid_any (t : Int) (w : World) : Calls Tryz.prog 40 #[.int .i64 t] w fun e w' => e = .returned (.bool (vT t)) ∧ w = w' := by
 by_cases h1 : -1152921504606846976 ≤ t
 ·by_cases h2 : t ≤ 1152921504606846976
  ·rw [vT_true.2 ⟨h1, h2⟩]
   go_enter Tryz.func40, Tryz.ntmps40
   go_wp2; go_ret; exact ⟨rfl, rfl⟩
  ·rw [vT_false.2 (.inr Yo)]
   go_enter Tryz.func40, Tryz.ntmps40
   go_wp2; go_ret; exact ⟨rfl, rfl⟩
 ·rw [vT_false.2 (.inl Yo)]
  go_enter Tryz.func40, Tryz.ntmps40
  go_wp2; go_ret; exact ⟨rfl, rfl⟩
theorem svalid_any (lo hi : Int) (w : World) : Calls Tryz.prog 50 #[.agg #[.int .i64 lo, .int .i64 hi]] w fun e w' => e = .returned (.bool (vS lo hi)) ∧ w' = w.alloc (.cells #[.int .i64 lo, .int .i64 hi] 40) := by
 have hs : vS lo hi = (vT lo && vT hi && decide (lo ≤ hi)) := rfl
 rcases h1 : vT lo
 ·rw [hs, h1]
  go_enter Tryz.func50, Tryz.ntmps50
  go_wp2_with (go_at_call 47; refine (tvalid_any _ _).mono ?_; rintro e w1 ⟨rfl, rfl⟩)
  go_ret; exact ⟨rfl, rfl⟩
 ·rcases h2 : vT hi
  ·rw [hs, h1, h2]
   go_enter Tryz.func50, Tryz.ntmps50
   go_wp2_with (go_at_call 47; refine (tvalid_any _ _).mono ?_; rintro e w1 ⟨rfl, rfl⟩)
   go_ret; exact ⟨rfl, rfl⟩
  ·rw [hs, h1, h2]
   go_enter Tryz.func50, Tryz.ntmps50
   go_wp2_with (go_at_call 47; refine (tvalid_any _ _).mono ?_; rintro e w1 ⟨rfl, rfl⟩)
   go_ret; exact ⟨by simp, rfl⟩
theorem rsvalid_any (lo hi : Int) (w : World) : Calls Tryz.prog 65 #[.agg #[.int .i64 lo, .int .i64 hi]] w fun e w' => e = .returned (.bool (vS lo hi)) ∧ w' = w.alloc (.cells #[.int .i64 lo, .int .i64 hi] 40) := by
 have hs : vS lo hi = (vT lo && vT hi && decide (lo ≤ hi)) := rfl
 rcases h1 : vT lo
 ·rw [hs, h1]
  go_enter Tryz.func65, Tryz.ntmps65
  go_wp2_with (go_at_call 40; refine (rvalid_any _ _).mono ?_; rintro e w1 ⟨rfl, rfl⟩)
  go_ret; exact ⟨rfl, rfl⟩
 ·rcases h2 : vT hi
  ·rw [hs, h1, h2]
   go_enter Tryz.func65, Tryz.ntmps65
   go_wp2_with (go_at_call 40; refine (rvalid_any _ _).mono ?_; rintro e w1 ⟨rfl, rfl⟩)
   go_ret; exact ⟨rfl, rfl⟩
  ·rw [hs, h1, h2]
   go_enter Tryz.func65, Tryz.ntmps65
   go_wp2_with (go_at_call 40; refine (rvalid_any _ _).mono ?_; rintro e w1 ⟨rfl, rfl⟩)
   go_ret; exact ⟨by simp, rfl⟩
def wid (lo hi : Int) : Int := if vS lo hi then hi - lo else 0
theorem width_any (lo hi : Int) (w : World) : Calls Tryz.prog 196 #[.agg #[.int .i64 lo, .int .i64 hi]] w fun e w' => e = .returned (.int .i64 (wid lo hi)) ∧ Below w.heap.size w w' := by
 rcases h : vS lo hi
 ·have e1 : wid lo hi = 0 := by unfold wid; rw [h]; rfl
  rw [e1]
  go_enter Tryz.func196, Tryz.ntmps196
  go_wp2_with (go_at_call 50; refine (svalid_any _ _ _).mono ?_; rintro e w1 ⟨rfl, rfl⟩)
  go_ret; exact ⟨rfl, ((Below.refl _ _).alloc (Nat.le_refl _) _).alloc Ys _⟩
 ·have e1 : wid lo hi = hi - lo := by unfold wid; rw [h]; rfl
  have b := vS_true.1 h
  rw [e1]
  go_enter Tryz.func196, Tryz.ntmps196
  go_wp2_with (go_at_call 50; refine (svalid_any _ _ _).mono ?_; rintro e w1 ⟨rfl, rfl⟩)
  go_ret; exact ⟨rfl, ((Below.refl _ _).alloc (Nat.le_refl _) _).alloc Ys _⟩
theorem rwidth_any (lo hi : Int) (w : World) : Calls Tryz.prog 187 #[.agg #[.int .i64 lo, .int .i64 hi]] w fun e w' => e = .returned (.int .i64 (wid lo hi)) ∧ Below w.heap.size w w' := by
 rcases h : vS lo hi
 ·have e1 : wid lo hi = 0 := by unfold wid; rw [h]; rfl
  rw [e1]
  go_enter Tryz.func187, Tryz.ntmps187
  go_wp2_with (go_at_call 65; refine (rsvalid_any _ _ _).mono ?_; rintro e w1 ⟨rfl, rfl⟩)
  go_ret; exact ⟨rfl, ((Below.refl _ _).alloc (Nat.le_refl _) _).alloc Ys _⟩
 ·have e1 : wid lo hi = hi - lo := by unfold wid; rw [h]; rfl
  have b := vS_true.1 h
  rw [e1]
  go_enter Tryz.func187, Tryz.ntmps187
  go_wp2_with (go_at_call 65; refine (rsvalid_any _ _ _).mono ?_; rintro e w1 ⟨rfl, rfl⟩)
  go_ret; exact ⟨rfl, ((Below.refl _ _).alloc (Nat.le_refl _) _).alloc Ys _⟩
theorem wdown_any (a b c : Int) (w : World) (ha : 0 ≤ a) (ha1 : a ≤ 9223372036854775807) (hb : 0 ≤ b) (hb1 : b ≤ 9223372036854775807) (hc : 0 < c) (hc1 : c ≤ 9223372036854775807) (hq : a * b / c ≤ 9223372036854775807) :
  Calls Tryz.prog 168 #[.int .i64 a, .int .i64 b, .int .i64 c] w fun e w' => e = .returned (.int .i64 (a * b / c)) ∧ ∃ n, w' = w.drewN n := by
 have p0 : 0 ≤ a * b := Int.mul_nonneg ha hb
 have q0 : 0 ≤ a * b / c := Int.ediv_nonneg p0 Yo
 have p1 : a * b < (a * b / c + 1) * c := by
  have := Int.lt_ediv_add_one_mul_self (a * b) hc
  exact this
 have p2 : (a * b / c + 1) * c ≤ 9223372036854775808 * c := Int.mul_le_mul_of_nonneg_right Yo Yo
 have p3 : a * b / 18446744073709551616 < c := by omega
 have p4 : 0 ≤ a * b / 18446744073709551616 := by omega
 have p5 : 0 ≤ a * b % 18446744073709551616 ∧ a * b % 18446744073709551616 < 18446744073709551616 := by omega
 have p6 : a * b / 18446744073709551616 * 18446744073709551616 + a * b % 18446744073709551616 = a * b := by omega
 have H6 := Yh p6; clear p6
 clear p1 p2
 go_enter Tryz.func168, Tryz.ntmps168
 go_wp2_with fail
 refine (mul64_any a b ha hb Yo Yo _).mono ?_
 rintro e w1 ⟨rfl, rfl⟩
 go_wp2_with fail
 refine (div64_any _ _ c p4 p3 p5.1 p5.2 Yo _).mono ?_
 rintro e w1 ⟨rfl, n, rfl⟩
 rw [H6.out]
 go_wp2
 go_ret
 exact ⟨rfl, n, rfl⟩
set_option maxHeartbeats 8000000
def mkS (lo hi : Int) : Value := if vS lo hi then .tuple #[.agg #[.int .i64 lo, .int .i64 hi], .int .i64 0] else .tuple #[.agg #[.int .i64 0, .int .i64 0], .int .i64 4]
theorem mkS_ok {lo hi : Int} (h : vS lo hi = true) : mkS lo hi = .tuple #[.agg #[.int .i64 lo, .int .i64 hi], .int .i64 0] := by unfold mkS; rw [if_pos h]
theorem mkS_no {lo hi : Int} (h : vS lo hi = false) : mkS lo hi = .tuple #[.agg #[.int .i64 0, .int .i64 0], .int .i64 4] := by unfold mkS; rw [if_neg (by rw [h]; simp)]
theorem mkS_form (lo hi : Int) : ∃ x y e, mkS lo hi = .tuple #[.agg #[.int .i64 x, .int .i64 y], .int .i64 e] := by
 unfold mkS; split <;> exact ⟨_, _, _, rfl⟩
def hdB (lo hi t : Int) : Bool := vS lo hi && (decide (lo ≤ t) && decide (t ≤ hi))
def mtB (a b c d : Int) : Bool := vS a b && (vS c d && decide (max a c ≤ min b d))
def mtLo (a b c d : Int) : Int := if mtB a b c d then max a c else 0
def mtHi (a b c d : Int) : Int := if mtB a b c d then min b d else 0
theorem mtLo_yes {a b c d : Int} (h : mtB a b c d = true) : mtLo a b c d = max a c := by unfold mtLo; rw [if_pos h]
theorem mtHi_yes {a b c d : Int} (h : mtB a b c d = true) : mtHi a b c d = min b d := by unfold mtHi; rw [if_pos h]
theorem mtLo_no {a b c d : Int} (h : mtB a b c d = false) : mtLo a b c d = 0 := by unfold mtLo; rw [if_neg (by rw [h]; simp)]
theorem mtHi_no {a b c d : Int} (h : mtB a b c d = false) : mtHi a b c d = 0 := by unfold mtHi; rw [if_neg (by rw [h]; simp)]
def opV (ok in_ : Bool) (lo hi : Int) : Value := if ok then (if in_ then mkS lo hi else .tuple #[.agg #[.int .i64 0, .int .i64 0], .int .i64 4]) else .tuple #[.agg #[.int .i64 0, .int .i64 0], .int .i64 3]
theorem opV_3 {in_ : Bool} {lo hi : Int} : opV false in_ lo hi = .tuple #[.agg #[.int .i64 0, .int .i64 0], .int .i64 3] := rfl
theorem opV_4 {lo hi : Int} : opV true false lo hi = .tuple #[.agg #[.int .i64 0, .int .i64 0], .int .i64 4] := rfl
theorem opV_ok {lo hi : Int} : opV true true lo hi = mkS lo hi := rfl
theorem opV_form (ok in_ : Bool) (lo hi : Int) : ∃ x y e, opV ok in_ lo hi = .tuple #[.agg #[.int .i64 x, .int .i64 y], .int .i64 e] := by
 cases ok
 ·exact ⟨_, _, _, rfl⟩
 ·cases in_
  ·exact ⟨_, _, _, rfl⟩
  ·exact mkS_form lo hi
theorem rholds_all (lo hi t : Int) (w : World) :
  Calls Tryz.prog 262 #[.agg #[.int .i64 lo, .int .i64 hi], .int .i64 t] w (RB w (.bool (hdB lo hi t))) := by
 rcases h : vS lo hi
 ·rw [show hdB lo hi t = false by simp [hdB, h]]
  go_enter Tryz.func262, Tryz.ntmps262
  go_wp2_with fail
  refine (rsvalid_any _ _ _).mono ?_
  rintro e wq1 ⟨rfl, rfl⟩
  rw [h]
  go_wp2
  go_ret
  exact ⟨rfl, bl0⟩
 ·by_cases h1 : lo ≤ t
  ·by_cases h2 : t ≤ hi
   ·rw [show hdB lo hi t = true by simp [hdB, h, h1, h2]]
    go_enter Tryz.func262, Tryz.ntmps262
    go_wp2_with fail
    refine (rsvalid_any _ _ _).mono ?_
    rintro e wq2 ⟨rfl, rfl⟩
    rw [h]
    go_wp2
    go_ret
    exact ⟨rfl, bl0⟩
   ·rw [show hdB lo hi t = false by simp [hdB, h, h1, h2]]
    have q2 : decide (t ≤ hi) = false := by simpa using h2
    go_enter Tryz.func262, Tryz.ntmps262
    go_wp2_with fail
    refine (rsvalid_any _ _ _).mono ?_
    rintro e wq3 ⟨rfl, rfl⟩
    rw [h]
    go_wp2
    go_ret
    exact ⟨rfl, bl0⟩
  ·rw [show hdB lo hi t = false by simp [hdB, h, h1]]
   go_enter Tryz.func262, Tryz.ntmps262
   go_wp2_with fail
   refine (rsvalid_any _ _ _).mono ?_
   rintro e wq4 ⟨rfl, rfl⟩
   rw [h]
   go_wp2
   go_ret
   exact ⟨rfl, bl0⟩
theorem rmeet_all (a b c d : Int) (w : World) :
  Calls Tryz.prog 149 #[.agg #[.int .i64 a, .int .i64 b], .agg #[.int .i64 c, .int .i64 d]] w (RB w (.tuple #[.agg #[.int .i64 (mtLo a b c d), .int .i64 (mtHi a b c d)], .bool (mtB a b c d)])) := by
 rcases h : vS a b
 ·have hm : mtB a b c d = false := by simp [mtB, h]
  rw [mtLo_no hm, mtHi_no hm, hm]
  go_enter Tryz.func149, Tryz.ntmps149
  go_wp2_with fail
  refine (rsvalid_any _ _ _).mono ?_
  rintro e wq1 ⟨rfl, rfl⟩
  rw [h]
  go_wp2
  exact Yb (v := .tuple #[.agg #[.int .i64 0, .int .i64 0], .bool false]) (by simp [results, Tryz.results149, go_sem, *]) rfl ⟨rfl, bl0⟩
 rcases h' : vS c d
 ·have hm : mtB a b c d = false := by simp [mtB, h']
  rw [mtLo_no hm, mtHi_no hm, hm]
  go_enter Tryz.func149, Tryz.ntmps149
  go_wp2_with fail
  refine (rsvalid_any _ _ _).mono ?_
  rintro e wq2 ⟨rfl, rfl⟩
  rw [h]
  go_wp2_with fail
  refine (rsvalid_any _ _ _).mono ?_
  rintro e wq3 ⟨rfl, rfl⟩
  rw [h']
  go_wp2
  exact Yb (v := .tuple #[.agg #[.int .i64 0, .int .i64 0], .bool false]) (by simp [results, Tryz.results149, go_sem, *]) rfl ⟨rfl, bl0⟩
 by_cases h1 : min b d < max a c
 ·have hm : mtB a b c d = false := by simp only [mtB, h, h', Bool.true_and, decide_eq_false_iff_not]; omega
  rw [mtLo_no hm, mtHi_no hm, hm]
  have h2 : decide (min b d < max a c) = true := by simpa using h1
  clear h1 hm
  go_enter Tryz.func149, Tryz.ntmps149
  go_wp2_with fail
  refine (rsvalid_any _ _ _).mono ?_
  rintro e wq4 ⟨rfl, rfl⟩
  rw [h]
  go_wp2_with fail
  refine (rsvalid_any _ _ _).mono ?_
  rintro e wq5 ⟨rfl, rfl⟩
  rw [h']
  go_wp2
  exact Yb (v := .tuple #[.agg #[.int .i64 0, .int .i64 0], .bool false]) (by simp [results, Tryz.results149, go_sem, *]) rfl ⟨rfl, bl0⟩
 ·have hm : mtB a b c d = true := by simp only [mtB, h, h', Bool.true_and, decide_eq_true_eq]; omega
  rw [mtLo_yes hm, mtHi_yes hm, hm]
  have h2 : decide (min b d < max a c) = false := by simpa using h1
  clear h1 hm
  have hmx : ∃ x, max a c = x := ⟨_, rfl⟩
  have hmn : ∃ x, min b d = x := ⟨_, rfl⟩
  go_enter Tryz.func149, Tryz.ntmps149
  go_wp2_with fail
  refine (rsvalid_any _ _ _).mono ?_
  rintro e wq6 ⟨rfl, rfl⟩
  rw [h]
  go_wp2_with fail
  refine (rsvalid_any _ _ _).mono ?_
  rintro e wq7 ⟨rfl, rfl⟩
  rw [h']
  go_wp2
  exact Yb (v := .tuple #[.agg #[.int .i64 (max a c), .int .i64 (min b d)], .bool true]) (by simp [results, Tryz.results149, go_sem, *]) rfl ⟨rfl, bl0⟩
theorem rmade_all (lo hi : Int) (w : World) :
  Calls Tryz.prog 103 #[.int .i64 lo, .int .i64 hi] w (RB w (mkS lo hi)) := by
 rcases hv : vS lo hi
 ·rw [mkS_no hv]
  go_enter Tryz.func103, Tryz.ntmps103
  go_wp2_with fail
  refine (rsvalid_any _ _ _).mono ?_
  rintro e wq1 ⟨rfl, rfl⟩
  rw [hv]
  go_wp2
  exact Yb (v := .tuple #[.agg #[.int .i64 0, .int .i64 0], .int .i64 4]) (by simp [results, Tryz.results103, go_sem, *]) rfl ⟨rfl, bl0⟩
 ·rw [mkS_ok hv]
  go_enter Tryz.func103, Tryz.ntmps103
  go_wp2_with fail
  refine (rsvalid_any _ _ _).mono ?_
  rintro e wq2 ⟨rfl, rfl⟩
  rw [hv]
  go_wp2
  exact Yb (v := .tuple #[.agg #[.int .i64 lo, .int .i64 hi], .int .i64 0]) (by simp [results, Tryz.results103, go_sem, *]) rfl ⟨rfl, bl0⟩
theorem radd_all (a b c d : Int) (w : World) :
  Calls Tryz.prog 67 #[.agg #[.int .i64 a, .int .i64 b], .agg #[.int .i64 c, .int .i64 d]] w (RB w (opV (vS a b && vS c d) true (a + c) (b + d))) := by
 rcases h : vS a b
 ·rw [show (false && vS c d) = false from rfl, opV_3]
  go_enter Tryz.func67, Tryz.ntmps67
  go_wp2_with fail
  refine (rsvalid_any _ _ _).mono ?_
  rintro e wq1 ⟨rfl, rfl⟩
  rw [h]
  go_wp2
  exact Yb (v := .tuple #[.agg #[.int .i64 0, .int .i64 0], .int .i64 3]) (by simp [results, Tryz.results67, go_sem, *]) rfl ⟨rfl, bl0⟩
 rcases h' : vS c d
 ·rw [show (true && false) = false from rfl, opV_3]
  go_enter Tryz.func67, Tryz.ntmps67
  go_wp2_with fail
  refine (rsvalid_any _ _ _).mono ?_
  rintro e wq2 ⟨rfl, rfl⟩
  rw [h]
  go_wp2_with fail
  refine (rsvalid_any _ _ _).mono ?_
  rintro e wq3 ⟨rfl, rfl⟩
  rw [h']
  go_wp2
  exact Yb (v := .tuple #[.agg #[.int .i64 0, .int .i64 0], .int .i64 3]) (by simp [results, Tryz.results67, go_sem, *]) rfl ⟨rfl, bl0⟩
 ·rw [show (true && true) = true from rfl, opV_ok]
  obtain ⟨x1, x2, x3⟩ := vS_true.1 h
  obtain ⟨y1, y2, y3⟩ := vS_true.1 h'
  obtain ⟨x, y, e, hv⟩ := mkS_form (a + c) (b + d)
  have Q := Yh (rmade_all (a + c) (b + d))
  rw [hv] at Q ⊢
  clear hv
  have H1 := Yh h; clear h
  have H2 := Yh h'; clear h'
  go_enter Tryz.func67, Tryz.ntmps67
  go_wp2_with fail
  refine (rsvalid_any _ _ _).mono ?_
  rintro e wq1 ⟨rfl, rfl⟩
  rw [H1.out]
  go_wp2_with fail
  refine (rsvalid_any _ _ _).mono ?_
  rintro e wq2 ⟨rfl, rfl⟩
  rw [H2.out]
  go_wp2_with fail
  refine (Q.out _).mono ?_
  rintro e w1 ⟨rfl, hb1⟩
  have K1 : Below w.heap.size w w1 := Yc hb1 bl0
  have Z1 := K1.size
  have b1_2 := Yk (g := w.heap.size + 2) hb1 bn0
  (try simp only [lst, ls0, ls1] at b1_2)
  clear hb1
  obtain ⟨c1_2, f1_2, l1_2, e1_2, k1_2⟩ := Yf b1_2
  go_wp2
  exact Yb (v := .tuple #[.agg #[.int .i64 x, .int .i64 y], .int .i64 e]) (by simp [results, Tryz.results67, go_sem, *]) rfl ⟨rfl, bl1⟩
theorem iholds_all (lo hi t : Int) (w : World) :
  Calls Tryz.prog 25 #[.agg #[.int .i64 lo, .int .i64 hi], .int .i64 t] w (RB w (.bool (hdB lo hi t))) := by
 rcases h : vS lo hi
 ·rw [show hdB lo hi t = false by simp [hdB, h]]
  go_enter Tryz.func25, Tryz.ntmps25
  go_wp2_with fail
  refine (svalid_any _ _ _).mono ?_
  rintro e wq1 ⟨rfl, rfl⟩
  rw [h]
  go_wp2
  go_ret
  exact ⟨rfl, bl0⟩
 ·by_cases h1 : lo ≤ t
  ·by_cases h2 : t ≤ hi
   ·rw [show hdB lo hi t = true by simp [hdB, h, h1, h2]]
    go_enter Tryz.func25, Tryz.ntmps25
    go_wp2_with fail
    refine (svalid_any _ _ _).mono ?_
    rintro e wq2 ⟨rfl, rfl⟩
    rw [h]
    go_wp2
    go_ret
    exact ⟨rfl, bl0⟩
   ·rw [show hdB lo hi t = false by simp [hdB, h, h1, h2]]
    have q2 : decide (t ≤ hi) = false := by simpa using h2
    go_enter Tryz.func25, Tryz.ntmps25
    go_wp2_with fail
    refine (svalid_any _ _ _).mono ?_
    rintro e wq3 ⟨rfl, rfl⟩
    rw [h]
    go_wp2
    go_ret
    exact ⟨rfl, bl0⟩
  ·rw [show hdB lo hi t = false by simp [hdB, h, h1]]
   go_enter Tryz.func25, Tryz.ntmps25
   go_wp2_with fail
   refine (svalid_any _ _ _).mono ?_
   rintro e wq4 ⟨rfl, rfl⟩
   rw [h]
   go_wp2
   go_ret
   exact ⟨rfl, bl0⟩
theorem imeet_all (a b c d : Int) (w : World) :
  Calls Tryz.prog 51 #[.agg #[.int .i64 a, .int .i64 b], .agg #[.int .i64 c, .int .i64 d]] w (RB w (.tuple #[.agg #[.int .i64 (mtLo a b c d), .int .i64 (mtHi a b c d)], .bool (mtB a b c d)])) := by
 rcases h : vS a b
 ·have hm : mtB a b c d = false := by simp [mtB, h]
  rw [mtLo_no hm, mtHi_no hm, hm]
  go_enter Tryz.func51, Tryz.ntmps51
  go_wp2_with fail
  refine (svalid_any _ _ _).mono ?_
  rintro e wq1 ⟨rfl, rfl⟩
  rw [h]
  go_wp2
  exact Yb (v := .tuple #[.agg #[.int .i64 0, .int .i64 0], .bool false]) (by simp [results, Tryz.results51, go_sem, *]) rfl ⟨rfl, bl0⟩
 rcases h' : vS c d
 ·have hm : mtB a b c d = false := by simp [mtB, h']
  rw [mtLo_no hm, mtHi_no hm, hm]
  go_enter Tryz.func51, Tryz.ntmps51
  go_wp2_with fail
  refine (svalid_any _ _ _).mono ?_
  rintro e wq2 ⟨rfl, rfl⟩
  rw [h]
  go_wp2_with fail
  refine (svalid_any _ _ _).mono ?_
  rintro e wq3 ⟨rfl, rfl⟩
  rw [h']
  go_wp2
  exact Yb (v := .tuple #[.agg #[.int .i64 0, .int .i64 0], .bool false]) (by simp [results, Tryz.results51, go_sem, *]) rfl ⟨rfl, bl0⟩
 have hv1 := vS_true.1 h; have hv2 := vS_true.1 h'
 have hmx : vS (max a c) (min b d) = decide (max a c ≤ min b d) := by
  rw [Bool.eq_iff_iff, vS_true, decide_eq_true_eq]; omega
 rcases hm : mtB a b c d
 ·have h2 : vS (max a c) (min b d) = false := by rw [hmx]; simpa [mtB, h, h'] using hm
  rw [mtLo_no hm, mtHi_no hm]
  have H := Yh h; have H' := Yh h'; have H2 := Yh h2; clear h h' h2 hm hmx hv1 hv2
  go_enter Tryz.func51, Tryz.ntmps51
  go_wp2_with fail
  refine (svalid_any _ _ _).mono ?_
  rintro e wq1 ⟨rfl, rfl⟩
  rw [H.out]
  go_wp2_with fail
  refine (svalid_any _ _ _).mono ?_
  rintro e wq2 ⟨rfl, rfl⟩
  rw [H'.out]
  go_wp2_with fail
  refine (svalid_any _ _ _).mono ?_
  rintro e wq3 ⟨rfl, rfl⟩
  rw [H2.out]
  go_wp2
  exact Yb (v := .tuple #[.agg #[.int .i64 0, .int .i64 0], .bool false]) (by simp [results, Tryz.results51, go_sem, *]) rfl ⟨rfl, bl0⟩
 ·have h2 : vS (max a c) (min b d) = true := by rw [hmx]; simpa [mtB, h, h'] using hm
  rw [mtLo_yes hm, mtHi_yes hm]
  have H := Yh h; have H' := Yh h'; have H2 := Yh h2; clear h h' h2 hm hmx hv1 hv2
  go_enter Tryz.func51, Tryz.ntmps51
  go_wp2_with fail
  refine (svalid_any _ _ _).mono ?_
  rintro e wq1 ⟨rfl, rfl⟩
  rw [H.out]
  go_wp2_with fail
  refine (svalid_any _ _ _).mono ?_
  rintro e wq2 ⟨rfl, rfl⟩
  rw [H'.out]
  go_wp2_with fail
  refine (svalid_any _ _ _).mono ?_
  rintro e wq3 ⟨rfl, rfl⟩
  rw [H2.out]
  go_wp2
  exact Yb (v := .tuple #[.agg #[.int .i64 (max a c), .int .i64 (min b d)], .bool true]) (by simp [results, Tryz.results51, go_sem, *]) rfl ⟨rfl, bl0⟩
def SpansAt (w : World) (A : Option Addr) (len : Nat) (zs : List (Int × Int)) : Prop :=
 zs.length = len ∧ len ≤ 9223372036854775807 ∧ (0 < len → ∃ b off, A = some ⟨b, off, none⟩ ∧ b < w.heap.size ∧ ∀ j, j < len → w.cell? ⟨b, off + j * 2, none⟩ = some (.int .i64 (zs.getD j (0, 0)).1) ∧ w.cell? ⟨b, off + j * 2 + 1, none⟩ = some (.int .i64 (zs.getD j (0, 0)).2))
theorem SpansAt.below {w w' : World} {A : Option Addr} {len : Nat} {zs : List (Int × Int)} (h : SpansAt w A len zs) (hb : Below w.heap.size w w') : SpansAt w' A len zs := by
 obtain ⟨h1, h2, h3⟩ := h
 refine ⟨h1, h2, fun hl => ?_⟩
 obtain ⟨b, off, rfl, hlt, hc⟩ := h3 hl
 exact ⟨b, off, rfl, Nat.lt_of_lt_of_le hlt hb.size, fun j hj => ⟨cell_below hb (hc j hj).1, cell_below hb (hc j hj).2⟩⟩
theorem SpansAt.alloc {w : World} {A : Option Addr} {len : Nat} {zs : List (Int × Int)} (h : SpansAt w A len zs) (o : Obj) : SpansAt (w.alloc o) A len zs := h.below (Yl.alloc (Nat.le_refl _) _)
def anyS (p : Int → Int → Bool) (zs : List (Int × Int)) : Bool := zs.any fun z => p z.1 z.2
theorem anyS_false {p : Int → Int → Bool} {zs : List (Int × Int)} : anyS p zs = false ↔ ∀ j, j < zs.length → p (zs.getD j (0, 0)).1 (zs.getD j (0, 0)).2 = false := by
 unfold anyS
 rw [List.any_eq_false]
 constructor
 ·intro h j hj
  have := h (zs.getD j (0, 0)) (by rw [Y8, Y9 hj]; simp)
  simpa using this
 ·intro h z hz
  obtain ⟨j, hj, rfl⟩ := List.getElem_of_mem hz
  have := h j hj
  rw [Y8, Y9 hj] at this
  simpa using this
def IdxR (w : World) (b : Bool) (e : Ending) (w' : World) : Prop := ∃ v : Int, e = .returned (.int .i64 v) ∧ decide (0 ≤ v) = b ∧ Below w.heap.size w w'
theorem IdxR.mk {w w' : World} {b : Bool} {v : Int} (h : decide (0 ≤ v) = b) (hb : Below w.heap.size w w') : IdxR w b (.returned (.int .i64 v)) w' := ⟨v, rfl, h, hb⟩
def IdxRel (w : World) (p : Int → Int → Bool) (zs : List (Int × Int)) (len : Nat) (G : Nat) (i : Value) (wr : World) : Prop := ∃ q : Nat, q ≤ len ∧ G = len - q ∧ i = .int .i64 q ∧ (∀ j, j < q → p (zs.getD j (0, 0)).1 (zs.getD j (0, 0)).2 = false) ∧ Below w.heap.size w wr
theorem idxS (k : FuncId) (ek : ∀ args w, (callFunc k args).run Tryz.prog w = .ok (.enter k args) w) (p : Int → Int → Bool) (hk : ∀ lo hi w, Calls Tryz.prog k #[.agg #[.int .i64 lo, .int .i64 hi]] w (RB w (.bool (p lo hi)))) (A : Option Addr) (len cap : Nat) (zs : List (Int × Int)) (w : World) (h : SpansAt w A len zs) :
  Calls Tryz.prog 214 #[.slice A len cap, .func (.func k) #[] #[]] w (IdxR w (anyS p zs)) := by
 have HK := Yh hk; clear hk
 have H := Yh h
 have hl := h.2.1
 have hz := h.1
 clear h
 go_enter Tryz.func214, Tryz.ntmps214
 go_wp2
 go_loopg [8] len (fun G i wr => IdxRel w p zs len G i wr)
 case atStart => exact ⟨0, Yo, Yo, rfl, Yo, Below.refl _ _⟩
 case round =>
  obtain ⟨q, hq, rfl, rfl, hall, hbel⟩ := hrel
  have HA := Yh hall; clear hall
  by_cases hlt : q < len
  ·obtain ⟨b, off, rfl, hb, hc⟩ := H.out.2.2 Yo
   obtain ⟨c0, c1⟩ := hc q hlt
   have c0 := (hbel.cell (p := ⟨b, off + q * 2, none⟩) hb).trans c0
   have c1 := (hbel.cell (p := ⟨b, off + q * 2 + 1, none⟩) hb).trans c1
   clear hc
   generalize hzz : zs.getD q (0, 0) = z at c0 c1
   have HZ := Yh hzz; clear hzz
   obtain ⟨x, y⟩ := z
   dsimp only at c0 c1
   have r := HK.out x y
   rcases hp : p x y
   ·rw [hp] at r
    have R := Yh r; clear r
    go_wp2_with fail
    refine (R.out _).mono ?_
    rintro e w1 ⟨rfl, hb1⟩
    have K1 := Yc hb1 hbel
    go_wp2
    go_roundg (len - (q + 1))
    case measure => omega
    case rel =>
     refine ⟨q + 1, Yo, Yo, by go_num, fun j hj => ?_, K1⟩
     by_cases e : j = q
     ·subst e; rw [HZ.out]; exact hp
     ·exact HA.out j Yo
   ·rw [hp] at r
    have R := Yh r; clear r
    go_wp2_with fail
    refine (R.out _).mono ?_
    rintro e w1 ⟨rfl, hb1⟩
    have K1 := Yc hb1 hbel
    go_wp2
    go_ret
    refine IdxR.mk ?_ K1
    rcases ha : anyS p zs
    ·have := anyS_false.1 ha q Yo
     rw [HZ.out] at this; rw [this] at hp; cases hp
    ·simp
  ·obtain rfl : q = len := by omega
   go_wp2
   go_ret
   refine IdxR.mk ?_ hbel
   rw [anyS_false.2 (fun j hj => HA.out j Yo)]
   rfl
theorem contS (k : FuncId) (ek : ∀ args w, (callFunc k args).run Tryz.prog w = .ok (.enter k args) w) (p : Int → Int → Bool) (hk : ∀ lo hi w, Calls Tryz.prog k #[.agg #[.int .i64 lo, .int .i64 hi]] w (RB w (.bool (p lo hi)))) (A : Option Addr) (len cap : Nat) (zs : List (Int × Int)) (w : World) (h : SpansAt w A len zs) :
  Calls Tryz.prog 183 #[.slice A len cap, .func (.func k) #[] #[]] w (RB w (.bool (anyS p zs))) := by
 have R := Yh (idxS k ek p hk A len cap zs w h); clear hk h
 go_enter Tryz.func183, Tryz.ntmps183
 go_wp2_with fail
 refine R.out.mono ?_
 rintro e w1 ⟨v, rfl, hv, hb⟩
 rw [← hv]
 go_wp2
 go_ret
 exact ⟨rfl, hb⟩
def badS (zs : List (Int × Int)) : Bool := anyS (fun lo hi => !vS lo hi) zs
theorem notvalid_all (lo hi : Int) (w : World) :
  Calls Tryz.prog 184 #[.agg #[.int .i64 lo, .int .i64 hi]] w (RB w (.bool (!vS lo hi))) := by
 go_enter Tryz.func184, Tryz.ntmps184
 go_wp2_with fail
 refine (svalid_any _ _ _).mono ?_
 rintro e wq1 ⟨rfl, rfl⟩
 go_wp2
 go_ret
 exact ⟨rfl, bl0⟩
theorem result_bad (f : Value) (A : Option Addr) (len cap : Nat) (zs : List (Int × Int)) (hb : badS zs = true) (w : World) (h : SpansAt w A len zs) :
  Calls Tryz.prog 145 #[f, .slice A len cap] w (RB w (.tuple #[.agg #[.int .i64 0, .int .i64 0], .int .i64 3])) := by
 have r := contS 184 (enters_of Tryz.func184 Yr rfl) (fun lo hi => !vS lo hi) notvalid_all A len cap zs
 unfold badS at hb
 rw [hb] at r
 have R := Yh r; clear r hb
 have H := Yh h; clear h
 go_enter Tryz.func145, Tryz.ntmps145
 go_wp2_with fail
 refine (R.out _ (H.out.alloc _)).mono ?_
 rintro e w1 ⟨rfl, hb1⟩
 have K1 : Below w.heap.size w w1 := Yc hb1 bl0
 have Z1 := K1.size
 have b1_0 := Yk (g := w.heap.size) hb1 bn0
 (try simp only [lst, ls0, ls1] at b1_0)
 clear hb1
 obtain ⟨c1_0, f1_0, l1_0, e1_0, k1_0⟩ := Yf b1_0
 go_wp2
 exact Yb (v := .tuple #[.agg #[.int .i64 0, .int .i64 0], .int .i64 3]) (by simp [results, Tryz.results145, go_sem, *]) rfl ⟨rfl, bl1⟩
theorem result_ok (k : FuncId) (ek : ∀ args w, (callFunc k args).run Tryz.prog w = .ok (.enter k args) w) (caps : Array Value) (x y : Int) (A : Option Addr) (len cap : Nat) (zs : List (Int × Int)) (hb : badS zs = false) (w : World) (h : SpansAt w A len zs) (hk : ∀ w', Below w.heap.size w w' → Calls Tryz.prog k caps w' (RB w' (.agg #[.int .i64 x, .int .i64 y]))) :
  Calls Tryz.prog 145 #[.func (.func k) #[] caps, .slice A len cap] w (RB w (mkS x y)) := by
 have r := contS 184 (enters_of Tryz.func184 Yr rfl) (fun lo hi => !vS lo hi) notvalid_all A len cap zs
 unfold badS at hb
 rw [hb] at r
 have R := Yh r; clear r hb
 have H := Yh h; clear h
 have HK := Yh hk; clear hk
 rcases hv : vS x y
 ·rw [mkS_no hv]
  go_enter Tryz.func145, Tryz.ntmps145
  go_wp2_with fail
  refine (R.out _ (H.out.alloc _)).mono ?_
  rintro e w1 ⟨rfl, hb1⟩
  have K1 : Below w.heap.size w w1 := Yc hb1 bl0
  have Z1 := K1.size
  have b1_0 := Yk (g := w.heap.size) hb1 bn0
  (try simp only [lst, ls0, ls1] at b1_0)
  clear hb1
  obtain ⟨c1_0, f1_0, l1_0, e1_0, k1_0⟩ := Yf b1_0
  go_wp2_with fail
  refine (HK.out _ K1).mono ?_
  rintro e w2 ⟨rfl, hb2⟩
  have K2 : Below w.heap.size w w2 := Yc hb2 bl1
  have Z2 := K2.size
  have b1_0' := Yk (g := w.heap.size) hb2 bn1
  (try simp only [lst, ls0, ls1] at b1_0')
  clear hb2 K1
  clear b1_0 c1_0 f1_0 l1_0 e1_0 k1_0; have b1_0 := b1_0'; clear b1_0'
  obtain ⟨c1_0, f1_0, l1_0, e1_0, k1_0⟩ := Yf b1_0
  go_wp2_with fail
  refine (svalid_any _ _ _).mono ?_
  rintro e wq1 ⟨rfl, rfl⟩
  rw [hv]
  go_wp2
  exact Yb (v := .tuple #[.agg #[.int .i64 0, .int .i64 0], .int .i64 4]) (by simp [results, Tryz.results145, go_sem, *]) rfl ⟨rfl, bl1⟩
 ·rw [mkS_ok hv]
  go_enter Tryz.func145, Tryz.ntmps145
  go_wp2_with fail
  refine (R.out _ (H.out.alloc _)).mono ?_
  rintro e w1 ⟨rfl, hb1⟩
  have K1 : Below w.heap.size w w1 := Yc hb1 bl0
  have Z1 := K1.size
  have b1_0 := Yk (g := w.heap.size) hb1 bn0
  (try simp only [lst, ls0, ls1] at b1_0)
  clear hb1
  obtain ⟨c1_0, f1_0, l1_0, e1_0, k1_0⟩ := Yf b1_0
  go_wp2_with fail
  refine (HK.out _ K1).mono ?_
  rintro e w2 ⟨rfl, hb2⟩
  have K2 : Below w.heap.size w w2 := Yc hb2 bl1
  have Z2 := K2.size
  have b1_0' := Yk (g := w.heap.size) hb2 bn1
  (try simp only [lst, ls0, ls1] at b1_0')
  clear hb2 K1
  clear b1_0 c1_0 f1_0 l1_0 e1_0 k1_0; have b1_0 := b1_0'; clear b1_0'
  obtain ⟨c1_0, f1_0, l1_0, e1_0, k1_0⟩ := Yf b1_0
  go_wp2_with fail
  refine (svalid_any _ _ _).mono ?_
  rintro e wq1 ⟨rfl, rfl⟩
  rw [hv]
  go_wp2
  exact Yb (v := .tuple #[.agg #[.int .i64 x, .int .i64 y], .int .i64 0]) (by simp [results, Tryz.results145, go_sem, *]) rfl ⟨rfl, bl1⟩
theorem take_snocC {α : Type} (d : α) (zs : List α) {k : Nat} (h : k < zs.length) : zs.take (k + 1) = zs.take k ++ [zs.getD k d] := by
 rw [List.take_succ_eq_append_getElem h, Y8, Y9 h]; rfl
end Go.Proofs.YtiinmhfolfgobaaGreatDoor
