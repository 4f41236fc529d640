/- The walk of the law SteerReads: it returns true, and writes nothing that was there. -/
import Derived.Test.YtnjogepllhjcjaaSteerF
import Derived.Test.YtnjogepllhjcjaaFrame
namespace Go.Proofs.Ytnjogepllhjcjaa
open Go.RowKit

set_option maxRecDepth 100000 in
set_option maxHeartbeats 4000000 in
theorem steerReads_core (aim rate : Int) (set held : Bool) (at_ shown t lo hi ai : Int) (w : World) :
    Calls Try.prog 5 #[.agg #[.int .i64 aim, .int .i64 rate, .bool set, .bool held, .int .i64 at_, .int .i64 shown], .int .i64 t, .agg #[.int .i64 lo, .int .i64 hi], .int .i64 ai] w (RetBelow w (.bool true)) := by
  obtain ⟨a0, a1, a2, a3, a4, a5, E, _, r1, r2⟩ := reads_letters aim rate set held at_ shown t lo hi
  have R1 := Lib.hid r1; clear r1
  have R2 := Lib.hid r2; clear r2
  go_enter Try.func5, Try.ntmps5
  go_wp2_with fail
  refine (R1.out _).mono ?_
  rintro e w1 ⟨rfl, hb1⟩
  obtain ⟨hc1, hf1⟩ := bcell hb1
  have hz1 := hb1.size
  simp at hz1
  have z10 : w.heap.size < w1.heap.size := by omega
  have z11 : w.heap.size + 1 < w1.heap.size := by omega
  go_wp2_with fail
  refine (R2.out _).mono ?_
  rintro e w2 ⟨rfl, hb2⟩
  obtain ⟨hc2, hf2⟩ := bcell hb2
  have hz2 := hb2.size
  simp at hz2
  have z20 : w.heap.size < w2.heap.size := by omega
  have z21 : w.heap.size + 1 < w2.heap.size := by omega
  have z22 : w1.heap.size < w2.heap.size := by omega
  go_wp2_with fail
  refine (target_any lo hi ai _).mono ?_
  rintro e w3 ⟨rfl, hb3⟩
  obtain ⟨hc3, hf3⟩ := bcell hb3
  have hz3 := hb3.size
  simp at hz3
  have z30 : w.heap.size < w3.heap.size := by omega
  have z31 : w.heap.size + 1 < w3.heap.size := by omega
  have z32 : w1.heap.size < w3.heap.size := by omega
  have z33 : w2.heap.size < w3.heap.size := by omega
  go_wp2_with fail
  refine (rtarget_any lo hi ai _).mono ?_
  rintro e w4 ⟨rfl, hb4⟩
  obtain ⟨hc4, hf4⟩ := bcell hb4
  go_wp2_with fail
  have z40 : w.heap.size < w4.heap.size := by have := hb4.size; omega
  have hB : Below w.heap.size w w4 := by
    have k1 : Below w.heap.size w w1 := kept_call hb1 ((((Below.refl w.heap.size w).alloc (Nat.le_refl _) _)).alloc (by simp) _)
    have k2 : Below w.heap.size w w2 := kept_call hb2 (by (repeat' (first | (with_reducible exact k1) | (with_reducible refine Below.setCell ?_ ?_ _) | (with_reducible refine Below.alloc ?_ ?_ _))) <;> (first | omega | (simp <;> omega)))
    have k3 : Below w.heap.size w w3 := kept_call hb3 (by (repeat' (first | (with_reducible exact k2) | (with_reducible refine Below.setCell ?_ ?_ _) | (with_reducible refine Below.alloc ?_ ?_ _))) <;> (first | omega | (simp <;> omega)))
    exact kept_call hb4 k3
  have cS : w4.cell? ⟨w.heap.size, 0, none⟩ = some (.int .i64 aim) ∧ w4.cell? ⟨w.heap.size, 1, none⟩ = some (.int .i64 rate) ∧ w4.cell? ⟨w.heap.size, 2, none⟩ = some (.bool set) ∧ w4.cell? ⟨w.heap.size, 3, none⟩ = some (.bool held) ∧ w4.cell? ⟨w.heap.size, 4, none⟩ = some (.int .i64 at_) ∧ w4.cell? ⟨w.heap.size, 5, none⟩ = some (.int .i64 shown) ∧ w4.cell? ⟨w1.heap.size, 0, none⟩ = some (.int .i64 a0) ∧ w4.cell? ⟨w1.heap.size, 1, none⟩ = some (.int .i64 a1) ∧ w4.cell? ⟨w1.heap.size, 2, none⟩ = some (.bool a2) ∧ w4.cell? ⟨w1.heap.size, 3, none⟩ = some (.bool a3) ∧ w4.cell? ⟨w1.heap.size, 4, none⟩ = some (.int .i64 a4) ∧ w4.cell? ⟨w1.heap.size, 5, none⟩ = some (.int .i64 a5) ∧ w4.cell? ⟨w2.heap.size, 0, none⟩ = some (.int .i64 a0) ∧ w4.cell? ⟨w2.heap.size, 1, none⟩ = some (.int .i64 a1) ∧ w4.cell? ⟨w2.heap.size, 2, none⟩ = some (.bool a2) ∧ w4.cell? ⟨w2.heap.size, 3, none⟩ = some (.bool a3) ∧ w4.cell? ⟨w2.heap.size, 4, none⟩ = some (.int .i64 a4) ∧ w4.cell? ⟨w2.heap.size, 5, none⟩ = some (.int .i64 a5) := by
    refine ⟨?_, ?_, ?_, ?_, ?_, ?_, ?_, ?_, ?_, ?_, ?_, ?_, ?_, ?_, ?_, ?_, ?_, ?_⟩ <;> simp [go_sem, hc1, hc2, hc3, hc4, z10, z11, z20, z21, z22, z30, z31, z32, z33]
  clear hc1 hc2 hc3 hc4 hf1 hf2 hf3 hf4 hb1 hb2 hb3 hb4
  go_split_ands
  go_region_held3 (fun w' => w'.cell? ⟨w.heap.size, 0, none⟩ = some (.int .i64 aim) ∧ w'.cell? ⟨w.heap.size, 1, none⟩ = some (.int .i64 rate) ∧ w'.cell? ⟨w.heap.size, 2, none⟩ = some (.bool set) ∧ w'.cell? ⟨w.heap.size, 3, none⟩ = some (.bool held) ∧ w'.cell? ⟨w.heap.size, 4, none⟩ = some (.int .i64 at_) ∧ w'.cell? ⟨w.heap.size, 5, none⟩ = some (.int .i64 shown) ∧ w'.cell? ⟨w1.heap.size, 0, none⟩ = some (.int .i64 a0) ∧ w'.cell? ⟨w1.heap.size, 1, none⟩ = some (.int .i64 a1) ∧ w'.cell? ⟨w1.heap.size, 2, none⟩ = some (.bool a2) ∧ w'.cell? ⟨w1.heap.size, 3, none⟩ = some (.bool a3) ∧ w'.cell? ⟨w1.heap.size, 4, none⟩ = some (.int .i64 a4) ∧ w'.cell? ⟨w1.heap.size, 5, none⟩ = some (.int .i64 a5) ∧ w'.cell? ⟨w2.heap.size, 0, none⟩ = some (.int .i64 a0) ∧ w'.cell? ⟨w2.heap.size, 1, none⟩ = some (.int .i64 a1) ∧ w'.cell? ⟨w2.heap.size, 2, none⟩ = some (.bool a2) ∧ w'.cell? ⟨w2.heap.size, 3, none⟩ = some (.bool a3) ∧ w'.cell? ⟨w2.heap.size, 4, none⟩ = some (.int .i64 a4) ∧ w'.cell? ⟨w2.heap.size, 5, none⟩ = some (.int .i64 a5) ∧ Below w4.heap.size w4 w')
    ((go_split_ands; refine ⟨?_, ?_, ?_, ?_, ?_, ?_, ?_, ?_, ?_, ?_, ?_, ?_, ?_, ?_, ?_, ?_, ?_, ?_, ?_⟩ <;> first | exact cell_below hb (by assumption) | exact kept_call hb (by assumption) | (simp only [World.cell?_drew]; assumption) | exact (Below.refl _ _).drew | exact Below.drew (by assumption)))
    (first | (go_at_call 22; refine (known38_any _).mono ?_; rintro e w' ⟨rfl, hb⟩) | (go_at_call 23; refine (scheck_any _ _ _ _ _ _ _).mono ?_; rintro e w' ⟨rfl, hq⟩; have hb := below_a hq; clear hq) | (go_at_call 24; refine (rscheck_any _ _ _ _ _ _ _).mono ?_; rintro e w' ⟨rfl, hq⟩; have hb := below_a hq; clear hq))
  have R : Below w4.heap.size w4 w' := by go_split_ands; assumption
  go_wp2
  go_ret
  exact ⟨rfl, kept_call R hB⟩
theorem steerReads_walk (aim rate : Int) (set held : Bool) (at_ shown : Int) (_ : IntIn aim) (_ : IntIn rate) (_ : IntIn at_) (_ : IntIn shown) (t : Int) (_ : IntIn t) (lo hi : Int) (_ : IntIn lo) (_ : IntIn hi) (ai : Int) (_ : IntIn ai) (w : World) :
    Walked 5 #[.agg #[.int .i64 aim, .int .i64 rate, .bool set, .bool held, .int .i64 at_, .int .i64 shown], .int .i64 t, .agg #[.int .i64 lo, .int .i64 hi], .int .i64 ai] w :=
  steerReads_core aim rate set held at_ shown t lo hi ai w
end Go.Proofs.Ytnjogepllhjcjaa
