/- The two Parses read the same (plain). -/
import Derived.Test.YtelmcglckkjmfaaDoorRParse
namespace Go.Proofs.YtelmcglckkjmfaaDoor
open Go.RowKit
set_option linter.unusedSimpArgs false
set_option linter.unusedVariables false

theorem digL_dec (u : Nat) : ∀ rest, digL (Lib.decDigits u ++ rest) 0 = digL rest u := by
  induction u using Nat.strongRecOn with
  | ind u ih =>
    intro rest
    unfold Lib.decDigits
    split
    · have e : (UInt8.ofNat (48 + u)).toNat = 48 + u := by simp; omega
      rw [List.singleton_append, digL_go (by rw [e]; omega), e]
      congr 1; omega
    · have e : (UInt8.ofNat (48 + u % 10)).toNat = 48 + u % 10 := by simp; omega
      rw [List.append_assoc, ih (u / 10) (by omega), List.singleton_append, digL_go (by rw [e]; omega), e]
      congr 1; omega
theorem digL_zeros (rest : List UInt8) : ∀ k, digL (Lib.repeatL [48] k ++ rest) 0 = digL rest 0
  | 0 => by simp [Lib.repeatL]
  | k + 1 => by
    rw [Lib.repeatL, List.append_assoc, List.singleton_append, digL_go (by decide)]
    exact digL_zeros rest k
theorem digF_dec (m : Nat) (h : m ≤ 1099511627776) : digF (Lib.decDigits m) = some (m : Int) := by
  have h1 := decDigits_pos m
  have h2 := dec_len m h
  unfold digF
  rw [if_neg (by omega)]
  have := digL_dec m []
  rwa [List.append_nil] at this
theorem digF_pad (p : Nat) (h : p < 1048576) : digF (decGo p 7 []) = some (p : Int) := by
  have h1 := pad_len p h
  unfold digF
  rw [if_neg (by omega), decGo_pad 6 p, digL_zeros]
  have := digL_dec p []
  rwa [List.append_nil] at this
theorem rparU_fmt (sg : Int) (m p : Nat) (s : List UInt8) (hm : m ≤ 1099511627776) (hp : p < 1048576) (hv : vT (sg * m * 1048576 + p) = true) (hf : fmtS (sg * m * 1048576 + p) = s) :
    rparU (Lib.decDigits m ++ [46] ++ decGo p 7 []) sg s = some (sg * m * 1048576 + p) := by
  have h1 := decDigits_pos m
  have h7 := pad_len p hp
  have hl : (Lib.decDigits m ++ [46] ++ decGo p 7 []).length = (Lib.decDigits m).length + 8 := by simp; omega
  unfold rparU
  rw [hl, show (Lib.decDigits m).length + 8 - 8 = (Lib.decDigits m).length by omega, show (Lib.decDigits m).length + 8 - 7 = (Lib.decDigits m).length + 1 by omega]
  rw [if_neg (by simp; omega)]
  have e1 : (Lib.decDigits m ++ [46] ++ decGo p 7 []).take (Lib.decDigits m).length = Lib.decDigits m := by simp
  have e2 : (Lib.decDigits m ++ [46] ++ decGo p 7 []).drop ((Lib.decDigits m).length + 1) = decGo p 7 [] := by
    have : (Lib.decDigits m).length + 1 = (Lib.decDigits m ++ [46]).length := by simp
    rw [this, List.drop_left]
  rw [e1, e2]
  rw [digF_dec m hm, digF_pad p hp]
  show (if (1099511627777 : Int) < m then none else rparK (sg * m) p s) = _
  rw [if_neg (by omega)]
  exact if_pos ⟨hv, hf⟩
theorem rparse_format (t : Int) (hv : vT t = true) : rparT (fmtS t) = some t := by
  have hb := vT_true.1 hv
  obtain ⟨p, hp⟩ : ∃ p : Nat, t % 1048576 = p := ⟨(t % 1048576).toNat, by omega⟩
  by_cases hs : t / 1048576 < 0
  · obtain ⟨m, hm⟩ : ∃ m : Nat, t / 1048576 = -(m : Int) := ⟨(-(t / 1048576)).toNat, by omega⟩
    have e : (-1 : Int) * m * 1048576 + p = t := by omega
    have hf := fmt_neg t m p hm hp (by omega)
    have k := rparU_fmt (-1) m p (fmtS t) (by omega) (by omega) (by rw [e]; exact hv) (by rw [e])
    rw [e] at k
    unfold rparT
    rw [show Lib.hasPrefix (fmtS t) [45] = true by rw [hf]; simp [Lib.hasPrefix, List.isPrefixOf], if_pos rfl]
    rw [show (fmtS t).drop 1 = Lib.decDigits m ++ [46] ++ decGo p 7 [] by rw [hf]; rfl]
    exact k
  · obtain ⟨m, hm⟩ : ∃ m : Nat, t / 1048576 = (m : Int) := ⟨(t / 1048576).toNat, by omega⟩
    have e : (1 : Int) * m * 1048576 + p = t := by omega
    have hf := fmt_pos t m p hm hp
    have k := rparU_fmt 1 m p (fmtS t) (by omega) (by omega) (by rw [e]; exact hv) (by rw [e])
    rw [e] at k
    have h45 : Lib.hasPrefix (fmtS t) [45] = false := by
      rw [hf]
      have hd := dec_digit m
      have hpos := decDigits_pos m
      cases hl : Lib.decDigits m with
      | nil => rw [hl] at hpos; simp at hpos
      | cons c l =>
        rw [hl] at hd
        have := (hd c (by simp)).1
        unfold Lib.hasPrefix
        simp only [List.cons_append, List.isPrefixOf, Bool.and_true, beq_eq_false_iff_ne]
        intro h; subst h; revert this; decide
    unfold rparT
    rw [h45, if_neg (by decide)]
    conv => lhs; arg 1; rw [hf]
    exact k
theorem rparU_some {u s : List UInt8} {sg t : Int} (h : rparU u sg s = some t) : vT t = true ∧ fmtS t = s := by
  unfold rparU at h
  split at h
  · cases h
  · unfold rparD at h
    split at h
    · split at h
      · cases h
      · unfold rparK at h
        split at h
        · rename_i q
          injection h with h
          rw [h] at q
          exact q
        · cases h
    · cases h
theorem rparT_some {s : List UInt8} {t : Int} (h : rparT s = some t) : vT t = true ∧ fmtS t = s := by
  unfold rparT at h
  split at h
  · exact rparU_some h
  · exact rparU_some h
/-- The two read the same. -/
theorem par_same (s : List UInt8) : rparT s = parT s := by
  rcases h : rparT s with _ | t
  · rcases h2 : parT s with _ | t
    · rfl
    · obtain ⟨hv, hf⟩ := parT_some h2
      have := rparse_format t hv
      rw [hf, h] at this
      cases this
  · obtain ⟨hv, hf⟩ := rparT_some h
    rw [← hf, parse_format t hv]

end Go.Proofs.YtelmcglckkjmfaaDoor
