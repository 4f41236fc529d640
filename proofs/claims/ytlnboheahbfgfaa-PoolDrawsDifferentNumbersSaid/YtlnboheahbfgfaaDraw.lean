/- Random bytes; the numbers drawn, in both worlds. -/
import Derived.Test.YtlnboheahbfgfaaSha7
import Derived.Test.YtlnboheahbfgfaaPoolP
import Derived.Test.YtlnboheahbfgfaaCalmP
import Derived.Test.YtlnboheahbfgfaaFrame
import Derived.Lib.SmallJoins
namespace Go.Proofs.Ytlnboheahbfgfaa
open Go.RowKit
set_option linter.unusedSimpArgs false
set_option linter.unusedVariables false

/-- What Random gives. -/
def randS (v : Int) : List Int := shaS ([99, 97, 115, 101] ++ putB (IntKind.u64.wrap v) 8)
theorem shaS_len (bs : List Int) : (shaS bs).length = 32 := by unfold shaS; rw [outQ_len]
theorem shaS_in (bs : List Int) : InB (shaS bs) := by unfold shaS; exact outQ_in _ _
theorem u64_in (v : Int) : 0 ≤ IntKind.u64.wrap v ∧ IntKind.u64.wrap v < 18446744073709551616 := by
  simp [IntKind.wrap, IntKind.bits, IntKind.signed]; omega
set_option maxRecDepth 100000 in
set_option maxHeartbeats 2000000 in
theorem random_any (v : Int) (w : World) : Calls Try.prog 9 #[.int .i64 v, .int .i64 32] w (FinR w (randS v)) := by
  obtain ⟨R, hR⟩ : ∃ R, randS v = R := ⟨_, rfl⟩
  rw [hR]
  obtain ⟨u, hu⟩ : ∃ u, IntKind.u64.wrap v = u := ⟨_, rfl⟩
  have hu0 := u64_in v
  rw [hu] at hu0
  obtain ⟨bs, hbs⟩ : ∃ bs, [99, 97, 115, 101] ++ putB u 8 = bs := ⟨_, rfl⟩
  have hl : bs.length = 12 := by rw [← hbs, List.length_append, putB_length]; rfl
  have hin : InB bs := by rw [← hbs]; exact InB.app (fun x hx => by simp at hx; omega) (putB_in _ _)
  have HRR := Lib.hid (show ∃ f, f = shaS ∧ f bs = R from ⟨_, rfl, by rw [← hR, ← hbs, ← hu]; rfl⟩)
  have HL := Lib.hid hl; have HIN := Lib.hid hin; have HBS := Lib.hid hbs
  clear hR hl hin hbs
  have hcv := Go.Joins.run_convert_bytes_const_at (P := Try.prog) w 22 5 #[.int .u8 99, .int .u8 97, .int .u8 115, .int .u8 101] 4 4 w.heap.size rfl Try.underlying22 (by rfl)
  have h00 : BySl (w.alloc (.cells #[.int .u8 99, .int .u8 97, .int .u8 115, .int .u8 101] 5 (4, 5))) w.heap.size 0 [99, 97, 115, 101] :=
    ⟨by simp, fun j hj => by
      rw [Nat.zero_add, Go.Joins.cell_alloc_mark_at w _ _ _ _ j rfl]
      have hj4 : j < 4 := hj
      obtain rfl | rfl | rfl | rfl : j = 0 ∨ j = 1 ∨ j = 2 ∨ j = 3 := by omega
      all_goals rfl⟩
  have H00 := Lib.hid h00; clear h00
  go_enter Try.func9, Try.ntmps9
  go_wp2_with fail
  refine (rput_any u 8 hu0.1 hu0.2 (by decide) (by decide) _).mono ?_
  rintro e w1 ⟨g1, rfl, hg1, hl1, hby, hb1⟩
  have K1 : Below w.heap.size w w1 := kept_call hb1 ((Below.refl _ _).alloc (Nat.le_refl _) _)
  have H0 := Lib.hid (H00.out.below hb1); have H1 := Lib.hid hby.sl; have HK1 := Lib.hid K1; have Z1 := K1.size
  clear hby hb1 K1 hcv H00
  go_wp2_with fail
  refine (rjoin_any _ 2 2 [[99, 97, 115, 101], putB u 8] rfl (by intro p hp; simp only [List.mem_cons, List.not_mem_nil, or_false] at hp; rcases hp with rfl | rfl <;> simp [putB_length]) (by simp) bs (by rw [← HBS.out]; simp) (by rw [HL.out]; decide) (by simp) _ (parts2 (Blk.new _ _ _) rfl (H0.out.below ((Below.refl _ _).alloc (Nat.le_refl _) _)) (putB_length _ _) (H1.out.below ((Below.refl _ _).alloc (Nat.le_refl _) _)))).mono ?_
  rintro e w2 ⟨g2, c2, rfl, hg2, hl2, hrow, hb2⟩
  obtain ⟨gz, cz, ez, -, -, hat⟩ := hrow.form (by rw [HL.out]; decide)
  obtain rfl : g2 = gz := by injection ez with ez; simpa using ez
  rw [HL.out]
  have K2 : Below w.heap.size w w2 := kept_call hb2 (HK1.out.alloc (by omega) _)
  have HAT := Lib.hid hat.sl; have HK2 := Lib.hid K2; have Z2 := K2.size
  clear hrow ez hat hb2 K2 H0 H1 HK1
  go_wp2_with fail
  refine (rsum_any g2 0 _ 12 bs HL.out (by decide) (by decide) HIN.out _ HAT.out).mono ?_
  rintro e w3 ⟨g3, c3, rfl, hc3, hg3, hl3, hat, hb3⟩
  rw [show shaS bs = R from by obtain ⟨f, rfl, h⟩ := HRR.out; exact h] at hat
  have HR3 := Lib.hid hat; have HK3 := Lib.hid (kept_call hb3 HK2.out)
  clear hat hb3 HAT HK2
  have hc4 : (32 : Int) ≤ (c3 : Int) := by omega
  go_wp2
  go_ret
  exact ⟨g3, c3, rfl, hc3, by omega, hl3, HR3.out, HK3.out⟩
end Go.Proofs.Ytlnboheahbfgfaa
