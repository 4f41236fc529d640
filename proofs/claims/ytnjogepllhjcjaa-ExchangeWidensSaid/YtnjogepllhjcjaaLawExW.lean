/- The walk of the law ExchangeWidens. -/
import Derived.Test.YtnjogepllhjcjaaExLaw
import Derived.Test.YtnjogepllhjcjaaEl
import Derived.Test.YtnjogepllhjcjaaR11
import Derived.Deep.DeepCutAuto
import Derived.Deep.RegionWith
namespace Go.Proofs.Ytnjogepllhjcjaa
open Go.RowKit

theorem atV_form (t1 t2 t3 t4 err p : Int) : ∃ x y e, atV t1 t2 t3 t4 err p = .tuple #[.agg #[.int .i64 x, .int .i64 y], .int .i64 e] := by
  unfold atV; split
  · split
    · split <;> exact ⟨_, _, _, rfl⟩
    · exact ⟨_, _, _, rfl⟩
  · exact ⟨_, _, _, rfl⟩
theorem cwithin_eq {v n E : Int} (h : v % n = E) (w : World) (hn : 1 ≤ n) (hn2 : n ≤ 9223372036854775807) :
    Calls Try.prog 12 #[.int .i64 v, .int .i64 n] w fun e w' => e = .returned (.int .i64 E) ∧ w = w' := by
  subst h; exact within_any v n w hn hn2
/-- At at small numbers. -/
theorem at_small {o s a h b E P : Int} (q : -5000 ≤ o ∧ o ≤ 5000 ∧ -5000 ≤ s ∧ s ≤ 5000 ∧ 0 ≤ a ∧ a < 3000 ∧ 0 ≤ h ∧ h < 100 ∧ 0 ≤ b ∧ b < 3000) (e0 : 0 ≤ E) (e1 : E ≤ 2000) (p0 : 0 ≤ P) (p1 : P ≤ 2000) :
    (s + a + h + b - s ≤ elHi (s + a + h + b - s) P ∧ elHi (s + a + h + b - s) P ≤ 2 * (s + a + h + b - s)) ∧
    (s + a + o + E + elHi (s + a + h + b - s) P < s + a + h + o - E → atV s (s + a + o) (s + a + h + o) (s + a + h + b) E P = .tuple #[.agg #[.int .i64 0, .int .i64 0], .int .i64 20]) ∧
    (¬ s + a + o + E + elHi (s + a + h + b - s) P < s + a + h + o - E → atV s (s + a + o) (s + a + h + o) (s + a + h + b) E P = .tuple #[.agg #[.int .i64 (s + a + h + o - E), .int .i64 (s + a + o + E + elHi (s + a + h + b - s) P)], .int .i64 0]) := by
  have X2 := hi_two (d := s + a + h + b - s) (p := P) (by omega) p0 (by omega)
  have X3 := le_hi (d := s + a + h + b - s) (p := P) (by omega) p0 (by omega)
  have hx : exE s (s + a + o) (s + a + h + o) (s + a + h + b) E = 0 := exE_0 (vT_true.2 ⟨by omega, by omega⟩) (vT_true.2 ⟨by omega, by omega⟩) (vT_true.2 ⟨by omega, by omega⟩) (vT_true.2 ⟨by omega, by omega⟩) e0 (by omega) (by omega) (by omega)
  have hin : inD (s + a + h + b - s) P = true := inD_true.2 ⟨by omega, by omega, p0, by omega⟩
  exact ⟨⟨X3, X2⟩, fun c => atV_20 hx hin (vT_true.2 ⟨by omega, by omega⟩) (vT_true.2 ⟨by omega, by omega⟩) c, fun c => atV_0 hx hin (vT_true.2 ⟨by omega, by omega⟩) (vT_true.2 ⟨by omega, by omega⟩) c⟩

set_option maxRecDepth 100000 in
set_option maxHeartbeats 8000000 in
theorem exw_core (A : Option Addr) (len cap : Nat) (zs : List Int) (err more ppb fas : Int) (w : World) (hA : IntsAt w A len zs) :
    Calls Try.prog 11 #[.slice A len cap, .int .i64 err, .int .i64 more, .int .i64 ppb, .int .i64 fas] w (RB w (.bool true)) := by
  have H := Lib.hid hA; clear hA
  obtain ⟨E, hE⟩ : ∃ x, err % 1000 = x := ⟨_, rfl⟩
  have bE : 0 ≤ E ∧ E < 1000 := by omega
  have HE := Lib.hid hE; clear hE
  obtain ⟨Mo, hMo⟩ : ∃ x, more % 1000 = x := ⟨_, rfl⟩
  have bMo : 0 ≤ Mo ∧ Mo < 1000 := by omega
  have HMo := Lib.hid hMo; clear hMo
  obtain ⟨P, hP⟩ : ∃ x, ppb % 1000 = x := ⟨_, rfl⟩
  have bP : 0 ≤ P ∧ P < 1000 := by omega
  have HP := Lib.hid hP; clear hP
  obtain ⟨Fa, hFa⟩ : ∃ x, fas % 1000 = x := ⟨_, rfl⟩
  have bFa : 0 ≤ Fa ∧ Fa < 1000 := by omega
  have HFa := Lib.hid hFa; clear hFa
  go_enter Try.func11, Try.ntmps11
  go_wp2_with fail
  refine (travel_any A len cap zs _ H.out).mono ?_
  rintro e w1 ⟨o, s, a, h, b, rfl, q, hb1⟩
  have K1 : Below w.heap.size w w1 := kept_call hb1 (by (repeat' (first | (with_reducible exact Below.refl _ _) | (with_reducible refine Below.setCell ?_ ?_ _) | (with_reducible refine Below.alloc ?_ ?_ _) | (with_reducible refine Below.drew ?_) | (with_reducible refine below_drewN ?_ _))) <;> (first | omega | (simp <;> omega)))
  have Z1 : w.heap.size ≤ w1.heap.size := K1.size
  clear hb1
  obtain ⟨⟨X1, X2⟩, C1, C2⟩ := at_small q bE.1 (by omega) bP.1 (by omega)
  obtain ⟨⟨Y1, Y2⟩, D1, D2⟩ := at_small q (E := E + Mo) (P := P + Fa) (by omega) (by omega) (by omega) (by omega)
  have YX := hi_widens (d := s + a + h + b - s) (p := P) (q := P + Fa) (by omega) (by omega) (by omega) (by omega) (by omega)
  have A1 := at_any s (s + a + o) (s + a + h + o) (s + a + h + b) E P
  have A2 := at_any s (s + a + o) (s + a + h + o) (s + a + h + b) (E + Mo) (P + Fa)
  obtain ⟨x2, y2, e2, hf⟩ := atV_form s (s + a + o) (s + a + h + o) (s + a + h + b) (E + Mo) (P + Fa)
  have key : ∃ x1 y1 e1, atV s (s + a + o) (s + a + h + o) (s + a + h + b) E P = .tuple #[.agg #[.int .i64 x1, .int .i64 y1], .int .i64 e1] ∧ (e1 = 20 ∨ (e1 = 0 ∧ e2 = 0 ∧ insB x1 y1 x2 y2 = true)) := by
    by_cases c : s + a + o + E + elHi (s + a + h + b - s) P < s + a + h + o - E
    · exact ⟨_, _, _, C1 c, .inl rfl⟩
    · refine ⟨_, _, _, C2 c, .inr ⟨rfl, ?_⟩⟩
      have d := D2 (by omega)
      rw [hf] at d
      injection d with d
      have d1 : (x2 = s + a + h + o - (E + Mo) ∧ y2 = s + a + o + (E + Mo) + elHi (s + a + h + b - s) (P + Fa)) ∧ e2 = 0 := by simpa using d
      obtain ⟨⟨rfl, rfl⟩, rfl⟩ := d1
      refine ⟨rfl, ?_⟩
      have v1 : vS (s + a + h + o - E) (s + a + o + E + elHi (s + a + h + b - s) P) = true := vS_true.2 ⟨by omega, by omega, by omega⟩
      have v2 : vS (s + a + h + o - (E + Mo)) (s + a + o + (E + Mo) + elHi (s + a + h + b - s) (P + Fa)) = true := vS_true.2 ⟨by omega, by omega, by omega⟩
      simp only [insB, v1, v2, Bool.true_and, Bool.and_eq_true, decide_eq_true_eq]
      omega
  obtain ⟨x1, y1, e1, hf1, hres⟩ := key
  rw [hf1] at A1
  rw [hf] at A2
  have HR := Lib.hid hres
  have R1 := Lib.hid A1; have R2 := Lib.hid A2
  clear A1 A2 hf hf1 C1 C2 D1 D2 X1 X2 Y1 Y2 YX hres
  go_wp2_with fail
  refine (cwithin_eq HE.out _ (by omega) (by omega)).mono ?_
  rintro e wq1 ⟨rfl, rfl⟩
  go_wp2_with fail
  refine (cwithin_eq HP.out _ (by omega) (by omega)).mono ?_
  rintro e wq2 ⟨rfl, rfl⟩
  go_wp2_with fail
  refine (R1.out _).mono ?_
  rintro e w2 ⟨rfl, hb2⟩
  have K2 : Below w.heap.size w w2 := kept_call hb2 (by (repeat' (first | (with_reducible exact K1) | (with_reducible refine Below.setCell ?_ ?_ _) | (with_reducible refine Below.alloc ?_ ?_ _) | (with_reducible refine Below.drew ?_) | (with_reducible refine below_drewN ?_ _))) <;> (first | omega | (simp <;> omega)))
  have Z2 : w.heap.size ≤ w2.heap.size := K2.size
  have b2_0 := Blk.keep (g := w1.heap.size) hb2 (by (repeat' (first | ((with_reducible refine' Blk.newE ?_); first | rfl | (simp; done)) | (with_reducible refine' Blk.alloc ?_ _) | (with_reducible refine' Blk.drew ?_) | (with_reducible refine' Blk.drewN ?_ _) | (with_reducible refine' Blk.put ?_ ?_) | (with_reducible refine' Blk.far ?_ ?_ _) | exact rfl)) <;> (first | omega | (simp <;> omega)))
  (try simp only [List.setIfInBounds_toArray, List.set_cons_zero, List.set_cons_succ] at b2_0)
  clear hb2 K1
  obtain ⟨c2_0, f2_0, l2_0, e2_0, k2_0⟩ := Blk.facts b2_0
  have ew2 : IntKind.i64.wrap (E + Mo) = E + Mo := IntWalk.i64_in _ (by omega)
  go_upto_region 5 with fail
  go_cut [] (fun wx => Blk wx w1.heap.size 63 #[.int .i64 s, .int .i64 (s + a + o), .int .i64 (s + a + h + o), .int .i64 (s + a + h + b), .int .i64 (E + Mo)] ∧ Blk wx w2.heap.size 35 #[.int .i64 x1, .int .i64 y1] ∧ Below w.heap.size w wx)
  case first =>
    go_region_with ((first | (go_at_call 12; refine (cwithin_eq HMo.out _ (by omega) (by omega)).mono ?_; rintro e w9 ⟨rfl, rfl⟩)))
    all_goals
      go_wp2_with fail
      go_meet
      exact ⟨by (repeat' (first | (with_reducible refine' Blk.alloc ?_ _) | (with_reducible refine' Blk.drew ?_) | (with_reducible refine' Blk.drewN ?_ _) | (with_reducible refine' Blk.put ?_ ?_) | (with_reducible refine' Blk.far ?_ ?_ _) | exact b2_0 | exact rfl)) <;> (first | omega | (simp <;> omega)), by (repeat' (first | ((with_reducible refine' Blk.newE ?_); first | rfl | (simp; done)) | (with_reducible refine' Blk.alloc ?_ _) | (with_reducible refine' Blk.drew ?_) | (with_reducible refine' Blk.drewN ?_ _) | (with_reducible refine' Blk.put ?_ ?_) | (with_reducible refine' Blk.far ?_ ?_ _) | exact rfl)) <;> (first | omega | (simp <;> omega)), by (repeat' (first | (with_reducible exact K2) | (with_reducible refine Below.setCell ?_ ?_ _) | (with_reducible refine Below.alloc ?_ ?_ _) | (with_reducible refine Below.drew ?_) | (with_reducible refine below_drewN ?_ _))) <;> (first | omega | (simp <;> omega))⟩
  case rest =>
    obtain ⟨bS, bA, KC⟩ := hcut
    clear K2 b2_0 c2_0 f2_0 l2_0 e2_0 k2_0
    have ZC := KC.size
    obtain ⟨cS, fS, lS, eS, kS⟩ := Blk.facts bS
    obtain ⟨cA, fA, lA, eA, kA⟩ := Blk.facts bA
    have ew : IntKind.i64.wrap (P + Fa) = P + Fa := IntWalk.i64_in _ (by omega)
    go_upto_region 6 with fail
    go_cut [16, 17] (fun s16 s17 wx => ∃ g, s16 = .pointer (some ⟨g, 0, none⟩) ∧ s17 = .int .i64 e2 ∧ Blk wx g 35 #[.int .i64 x2, .int .i64 y2] ∧ Blk wx w2.heap.size 35 #[.int .i64 x1, .int .i64 y1] ∧ Below w.heap.size w wx)
    case first =>
      go_region_with ((first | (go_at_call 12; refine (cwithin_eq HFa.out _ (by omega) (by omega)).mono ?_; rintro e w8 ⟨rfl, rfl⟩) | (go_at_call 34; refine (R2.out _).mono ?_; rintro e w9 ⟨rfl, hb9⟩; obtain ⟨hc9, hf9⟩ := bcell hb9; have z9 := hb9.size; (try simp at z9))))
      all_goals
        go_wp2_with fail
        go_meet
        refine ⟨_, rfl, rfl, ?_, ?_, ?_⟩
        · (repeat' (first | ((with_reducible refine' Blk.newE ?_); first | rfl | (simp; done)) | (with_reducible refine' Blk.keep hb9 ?_) | (with_reducible refine' Blk.alloc ?_ _) | (with_reducible refine' Blk.drew ?_) | (with_reducible refine' Blk.drewN ?_ _) | (with_reducible refine' Blk.put ?_ ?_) | (with_reducible refine' Blk.far ?_ ?_ _) | exact rfl)) <;> (first | omega | (simp <;> omega))
        · (repeat' (first | (with_reducible refine' Blk.keep hb9 ?_) | (with_reducible refine' Blk.alloc ?_ _) | (with_reducible refine' Blk.drew ?_) | (with_reducible refine' Blk.drewN ?_ _) | (with_reducible refine' Blk.put ?_ ?_) | (with_reducible refine' Blk.far ?_ ?_ _) | exact bA | exact rfl)) <;> (first | omega | (simp <;> omega))
        · (repeat' (first | (with_reducible exact KC) | (with_reducible refine kept_call hb9 ?_) | (with_reducible refine Below.setCell ?_ ?_ _) | (with_reducible refine Below.alloc ?_ ?_ _) | (with_reducible refine Below.drew ?_))) <;> (first | omega | (simp <;> omega))
    case rest =>
      obtain ⟨g2, rfl, rfl, b2, bA, KD⟩ := hcut
      clear KC bS cS fS lS eS kS cA fA lA eA kA
      have ZD := KD.size
      obtain ⟨c2, f2, l2, e2, k2⟩ := Blk.facts b2
      obtain ⟨cA, fA, lA, eA, kA⟩ := Blk.facts bA
      go_wp2_with fail
      refine (known23_any _).mono ?_
      rintro e w3 ⟨rfl, hb3⟩
      have K3 : Below w.heap.size w w3 := kept_call hb3 (by (repeat' (first | (with_reducible exact KD) | (with_reducible refine Below.setCell ?_ ?_ _) | (with_reducible refine Below.alloc ?_ ?_ _) | (with_reducible refine Below.drew ?_) | (with_reducible refine below_drewN ?_ _))) <;> (first | omega | (simp <;> omega)))
      have Z3 : w.heap.size ≤ w3.heap.size := K3.size
      have b2' := Blk.keep (g := g2) hb3 (by (repeat' (first | (with_reducible refine' Blk.alloc ?_ _) | (with_reducible refine' Blk.drew ?_) | (with_reducible refine' Blk.drewN ?_ _) | (with_reducible refine' Blk.put ?_ ?_) | (with_reducible refine' Blk.far ?_ ?_ _) | exact b2 | exact rfl)) <;> (first | omega | (simp <;> omega)))
      (try simp only [List.setIfInBounds_toArray, List.set_cons_zero, List.set_cons_succ] at b2')
      have bA' := Blk.keep (g := w2.heap.size) hb3 (by (repeat' (first | (with_reducible refine' Blk.alloc ?_ _) | (with_reducible refine' Blk.drew ?_) | (with_reducible refine' Blk.drewN ?_ _) | (with_reducible refine' Blk.put ?_ ?_) | (with_reducible refine' Blk.far ?_ ?_ _) | exact bA | exact rfl)) <;> (first | omega | (simp <;> omega)))
      (try simp only [List.setIfInBounds_toArray, List.set_cons_zero, List.set_cons_succ] at bA')
      clear hb3 KD
      clear b2 c2 f2 l2 e2 k2; have b2 := b2'; clear b2'
      clear bA cA fA lA eA kA; have bA := bA'; clear bA'
      obtain ⟨c2, f2, l2, e2, k2⟩ := Blk.facts b2
      obtain ⟨cA, fA, lA, eA, kA⟩ := Blk.facts bA
      rcases HR.out with rfl | ⟨rfl, rfl, hi⟩
      · skip
        go_wp2
        go_ret
        exact ⟨rfl, by (repeat' (first | (with_reducible exact K3) | (with_reducible refine Below.setCell ?_ ?_ _) | (with_reducible refine Below.alloc ?_ ?_ _) | (with_reducible refine Below.drew ?_) | (with_reducible refine below_drewN ?_ _))) <;> (first | omega | (simp <;> omega))⟩
      · have ho := rinside_all x1 y1 x2 y2
        rw [hi] at ho
        have HO := Lib.hid ho; clear ho
        go_wp2_with fail
        refine (HO.out _).mono ?_
        rintro e w4 ⟨rfl, hb4⟩
        have K4 : Below w.heap.size w w4 := kept_call hb4 (by (repeat' (first | (with_reducible exact K3) | (with_reducible refine Below.setCell ?_ ?_ _) | (with_reducible refine Below.alloc ?_ ?_ _) | (with_reducible refine Below.drew ?_) | (with_reducible refine below_drewN ?_ _))) <;> (first | omega | (simp <;> omega)))
        have Z4 : w.heap.size ≤ w4.heap.size := K4.size
        have b2' := Blk.keep (g := g2) hb4 (by (repeat' (first | (with_reducible refine' Blk.alloc ?_ _) | (with_reducible refine' Blk.drew ?_) | (with_reducible refine' Blk.drewN ?_ _) | (with_reducible refine' Blk.put ?_ ?_) | (with_reducible refine' Blk.far ?_ ?_ _) | exact b2 | exact rfl)) <;> (first | omega | (simp <;> omega)))
        (try simp only [List.setIfInBounds_toArray, List.set_cons_zero, List.set_cons_succ] at b2')
        have bA' := Blk.keep (g := w2.heap.size) hb4 (by (repeat' (first | (with_reducible refine' Blk.alloc ?_ _) | (with_reducible refine' Blk.drew ?_) | (with_reducible refine' Blk.drewN ?_ _) | (with_reducible refine' Blk.put ?_ ?_) | (with_reducible refine' Blk.far ?_ ?_ _) | exact bA | exact rfl)) <;> (first | omega | (simp <;> omega)))
        (try simp only [List.setIfInBounds_toArray, List.set_cons_zero, List.set_cons_succ] at bA')
        clear hb4 K3
        clear b2 c2 f2 l2 e2 k2; have b2 := b2'; clear b2'
        clear bA cA fA lA eA kA; have bA := bA'; clear bA'
        obtain ⟨c2, f2, l2, e2, k2⟩ := Blk.facts b2
        obtain ⟨cA, fA, lA, eA, kA⟩ := Blk.facts bA
        go_wp2
        go_ret
        exact ⟨rfl, by (repeat' (first | (with_reducible exact K4) | (with_reducible refine Below.setCell ?_ ?_ _) | (with_reducible refine Below.alloc ?_ ?_ _) | (with_reducible refine Below.drew ?_) | (with_reducible refine below_drewN ?_ _))) <;> (first | omega | (simp <;> omega))⟩
theorem exw_walk (A : Option Addr) (len cap : Nat) (zs : List Int) {w : World} (hA : IntsAt w A len zs) (err : Int) (_ : IntIn err) (more : Int) (_ : IntIn more) (ppb : Int) (_ : IntIn ppb) (fas : Int) (_ : IntIn fas) (W : World) (h : W = w) :
    Walked 11 #[.slice A len cap, .int .i64 err, .int .i64 more, .int .i64 ppb, .int .i64 fas] W := by
  subst h; exact exw_core A len cap zs err more ppb fas W hA
end Go.Proofs.Ytnjogepllhjcjaa
