/- The walk of the law PoolCountsSamples: it returns true, and writes nothing that was there. -/
import Derived.Test.YtnjogepllhjcjaaPoolC
import Derived.Test.YtnjogepllhjcjaaPlainB
import Derived.Test.YtnjogepllhjcjaaFrame
namespace Go.Proofs.Ytnjogepllhjcjaa
open Go.RowKit

/-- The counters behind m sets; within a set behind i elements. -/
def CntRel (w : World) (n bad : Nat) (k f : Int) (ov al s : Value) (wr : World) : Prop :=
  ∃ m : Nat, (m : Int) ≤ 2 ^ n ∧ s = .int .i64 m ∧ ov = .int .i64 (overTo n bad k f m) ∧ al = .int .i64 (allTo n k m) ∧ w = wr
def BitRel (w : World) (n bad m : Nat) (sz li i : Value) (wr : World) : Prop :=
  ∃ j : Nat, j ≤ n ∧ i = .int .i64 j ∧ sz = .int .i64 (szTo m j) ∧ li = .int .i64 (liTo bad m j) ∧ w = wr

set_option maxRecDepth 100000 in
set_option maxHeartbeats 1000000 in
theorem poolSamples_walk (n0 : Int) (_ : IntIn n0) (k0 : Int) (_ : IntIn k0) (bad0 : Int) (_ : IntIn bad0) (f0 : Int) (_ : IntIn f0) (w : World) :
    Calls Try.prog 4 #[.int .i64 n0, .int .i64 k0, .int .i64 bad0, .int .i64 f0] w fun e w' => e = .returned (.bool true) ∧ Below w.heap.size w w' := by
  have m1 := Int.emod_nonneg n0 (show (10 : Int) ≠ 0 by decide)
  have m1' := Int.emod_lt_of_pos n0 (show (0 : Int) < 10 by decide)
  have m4 := Int.emod_nonneg f0 (show (6 : Int) ≠ 0 by decide)
  have m4' := Int.emod_lt_of_pos f0 (show (0 : Int) < 6 by decide)
  have m2 := Int.emod_nonneg k0 (show n0 % 10 + 1 ≠ 0 by omega)
  have m2' := Int.emod_lt_of_pos k0 (show (0 : Int) < n0 % 10 + 1 by omega)
  have m3 := Int.emod_nonneg bad0 (show n0 % 10 + 1 ≠ 0 by omega)
  have m3' := Int.emod_lt_of_pos bad0 (show (0 : Int) < n0 % 10 + 1 by omega)
  go_enter Try.func4, Try.ntmps4
  go_wp2_with (go_at_call 12; refine (within_any _ _ _ (by omega) (by omega)).mono ?_; rintro e w1 ⟨rfl, rfl⟩)
  generalize hn : n0 % 10 = n at *
  generalize hk : k0 % (n + 1) = k at *
  generalize hb : bad0 % (n + 1) = bad at *
  generalize hf : f0 % 6 = f at *
  clear hn hk hb hf
  obtain ⟨n, rfl⟩ := Int.eq_ofNat_of_zero_le m1
  obtain ⟨bad, rfl⟩ := Int.eq_ofNat_of_zero_le m3
  have hn : 2 ^ n ≤ 512 := Nat.pow_le_pow_right (n := 2) (i := n) (j := 9) (by decide) (by omega)
  have hcast : ((2 ^ n : Nat) : Int) = 2 ^ n := by simp
  have hp1 : (2 : Int) ^ n ≤ 512 := by omega
  have hp0 : (0 : Int) ≤ 2 ^ n := Int.le_of_lt (Int.pow_pos (by decide))
  have Hcast := Lib.hid hcast; clear hcast hn
  go_loopw [9, 10, 11] (fun ov al s wr => CntRel w n bad k f ov al s wr) (fun _ _ s _ => (((2 : Int) ^ n - intOf s).toNat : Nat))
  case atStart => exact ⟨0, hp0, rfl, rfl, rfl, rfl⟩
  case round =>
    obtain ⟨m, hm, rfl, rfl, rfl, rfl⟩ := hrel
    obtain ⟨o1, o2⟩ := overTo_le n bad k f m
    obtain ⟨a1, a2⟩ := allTo_le n k m
    by_cases hlt : (m : Int) < 2 ^ n
    · go_wp2
      go_loopw [12, 13, 14] (fun sz li i wx => BitRel w n bad m sz li i wx) (fun _ _ i _ => (n - intOf i).toNat)
      case atStart => exact ⟨0, Nat.zero_le _, rfl, rfl, rfl, rfl⟩
      case round =>
        obtain ⟨j, hj, rfl, rfl, rfl, rfl⟩ := hrel
        have s1 := szTo_le m j
        have l1 := liTo_le bad m j
        by_cases hjn : j < n
        · have hb2 := bitAt_lt m j
          have hb1 : bits .and .i64 ((m : Int) / 2 ^ j) 1 = (bitAt m j : Int) := by
            have := i64_mask ((m : Int) / 2 ^ j) 1 (by decide)
            rw [show ((2 : Int) ^ 1 - 1) = 1 from rfl, show ((2 : Int) ^ 1) = 2 from rfl] at this
            rw [this]; simp [bitAt]
          have S1 : szTo m (j + 1) = szTo m j + bitAt m j := rfl
          have L1 : liTo bad m (j + 1) = liTo bad m j + if j < bad then bitAt m j else 0 := rfl
          by_cases hbit : bitAt m j = 1
          · rw [hbit] at hb1 S1 L1
            have HS := Lib.hid S1; have HL := Lib.hid L1
            clear hbit S1 L1 hb2
            by_cases hjb : j < bad
            · rw [if_pos hjb] at HL
              go_wp2
              go_roundw
              case rel => exact ⟨j + 1, by omega, by go_num, by rw [HS.out]; go_num, by rw [HL.out]; go_num, rfl⟩
              case measure => simp [intOf]; omega
            · rw [if_neg hjb] at HL
              go_wp2
              go_roundw
              case rel => exact ⟨j + 1, by omega, by go_num, by rw [HS.out]; go_num, by rw [HL.out]; go_num, rfl⟩
              case measure => simp [intOf]; omega
          · have hbit0 : bitAt m j = 0 := by omega
            rw [hbit0] at hb1 S1 L1
            have HS := Lib.hid S1
            have HL : Hid (liTo bad m (j + 1) = liTo bad m j) := by show _ = _; rw [L1]; split <;> rfl
            clear hbit hbit0 S1 L1 hb2
            go_wp2
            go_roundw
            case rel => exact ⟨j + 1, by omega, by go_num, by rw [HS.out]; go_num, by rw [HL.out], rfl⟩
            case measure => simp [intOf]; omega
        · obtain rfl : j = n := by omega
          have A1 : allTo j k (m + 1) = allTo j k m + if (szTo m j : Int) = k then 1 else 0 := rfl
          have O1 : overTo j bad k f (m + 1) = overTo j bad k f m + if (szTo m j : Int) = k ∧ f < liTo bad m j then 1 else 0 := rfl
          by_cases hsz : (szTo m j : Int) = k
          · by_cases hli : f < liTo bad m j
            · rw [if_pos hsz] at A1
              rw [if_pos ⟨hsz, hli⟩] at O1
              have HA := Lib.hid A1; have HO := Lib.hid O1
              clear A1 O1
              go_wp2
              go_roundw
              case rel => exact ⟨m + 1, by omega, by go_num, by rw [HO.out], by rw [HA.out], rfl⟩
              case measure => simp [intOf]; omega
            · rw [if_pos hsz] at A1
              rw [if_neg (fun h => hli h.2)] at O1
              have HA := Lib.hid A1; have HO := Lib.hid O1
              clear A1 O1
              go_wp2
              go_roundw
              case rel => exact ⟨m + 1, by omega, by go_num, by rw [HO.out]; go_num, by rw [HA.out], rfl⟩
              case measure => simp [intOf]; omega
          · rw [if_neg hsz] at A1
            rw [if_neg (fun h => hsz h.1)] at O1
            have HA := Lib.hid A1; have HO := Lib.hid O1
            clear A1 O1
            go_wp2
            go_roundw
            case rel => exact ⟨m + 1, by omega, by go_num, by rw [HO.out]; go_num, by rw [HA.out]; go_num, rfl⟩
            case measure => simp [intOf]; omega
    · obtain rfl : m = 2 ^ n := by have := Hcast.out; omega
      rw [allTo_is, overTo_is n bad k f (by omega) m2]
      have r1 : riskN n bad k f = (sumTo (limb n bad k f) (k + 1).toNat, setsN n k, 0) := by unfold riskN; rw [if_neg (by unfold RiskBad; omega)]
      have r2 : riskN n bad k (f + 1) = (sumTo (limb n bad k (f + 1)) (k + 1).toNat, setsN n k, 0) := by unfold riskN; rw [if_neg (by unfold RiskBad; omega)]
      have r3 := over_mono n bad k f (k + 1).toNat
      clear o1 o2 a1 a2 hlt hm
      have hbel := Below.refl w.heap.size w
      go_wp2_with (first | (go_at_call 15; refine (risk_any _ _ _ _ _).mono ?_; rintro e w' ⟨rfl, hb⟩; replace hbel := hbel.trans (hb.mono hbel.size); clear hb) | (go_at_call 17; refine (known36_any _).mono ?_; rintro e w' ⟨rfl, hb⟩; replace hbel := hbel.trans (hb.mono hbel.size); clear hb))
      go_ret
      exact ⟨rfl, hbel⟩
end Go.Proofs.Ytnjogepllhjcjaa
