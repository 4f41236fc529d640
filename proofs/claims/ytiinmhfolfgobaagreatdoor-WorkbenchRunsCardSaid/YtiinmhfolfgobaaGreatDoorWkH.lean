/- A number of a line; the commands by their words. -/
import Derived.Lib.Atoi
import Derived.Lib.SmallJoins
import Derived.Test.YtiinmhfolfgobaaGreatDoorJ31
import Derived.Test.YtiinmhfolfgobaaGreatDoorJ10
set_option linter.unusedVariables false
set_option linter.unusedSimpArgs false
namespace Go.Proofs.YtiinmhfolfgobaaGreatDoor
open Go.RowKit Go.Lib
set_option maxHeartbeats 64000000
set_option maxRecDepth 100000
theorem atoi_small {l : List UInt8} {n : Int} (hl : l.length ≤ 18) (h : atoi l = some n) : -1000000000000000000 < n ∧ n < 1000000000000000000 := by
 have key : ∀ (r : List UInt8) (m : Nat), r.length ≤ 18 → decNat r = some m → m < 1000000000000000000 := fun r m hr hm => decFrom_lt18 (decNat_some hm).2 hr
 cases l with
 | nil => simp [atoi] at h
 | cons b r =>
  have hr : r.length ≤ 18 := by simp at hl; omega
  simp only [atoi] at h
  split at h
  ·cases hd : decNat r with
   | none => rw [hd] at h; simp at h
   | some m => rw [hd] at h; simp at h; have := key r m hr hd; omega
  ·split at h
   ·cases hd : decNat r with
    | none => rw [hd] at h; simp at h
    | some m => rw [hd] at h; simp at h; have := key r m hr hd; omega
   ·cases hd : decNat (b :: r) with
    | none => rw [hd] at h; simp at h
    | some m => rw [hd] at h; simp at h; have := key (b :: r) m hl hd; omega
theorem integer_any (s : ByteArray) (n : Int) (w : World) (hl : s.size ≤ 18) (h : atoi s.data.toList = some n) (hpow : Pow10 w) :
  Calls Tryz.prog 62 #[.string s] w (RB w (.tuple #[.int .i64 n, .bool (itoa n == s.data.toList)])) := by
 have hb := atoi_small (by rw [← size_eq]; exact hl) h
 have hvn : vT n = true := vT_true.2 Yo
 have RA := Yh (fun W => Tryz.strconv_Atoi s n hl h W)
 have hq : (itoa n == s.toList) = (itoa n == s.data.toList) := by rw [ByteArray.toList_eq]
 obtain ⟨li, hli⟩ : ∃ li, itoa n = li := ⟨_, rfl⟩
 have RI := Yh (fun W hW => hli ▸ itoa_any n Yo Yo W hW)
 rw [hli] at hq ⊢
 have RV := Yh (fun W => hvn ▸ tvalid_any n W)
 have HP := Yh hpow
 clear hpow hvn h hl hli
 cases hc : (li == s.data.toList) with
 | true =>
  rw [hc] at hq
  clear hc
  go_enter Tryz.func62, Tryz.ntmps62
  go_wp2_with fail
  refine (RA.out _).mono ?_
  rintro e w1 ⟨rfl, t9, rfl⟩
  have hb1 := Go.Joins.below_bytesWorld w.heap.size w 5 t9 (Nat.le_refl _)
  obtain ⟨w1, hw1⟩ : ∃ x : World, x = bytesWorld w 5 t9 := ⟨_, rfl⟩
  rw [← hw1] at hb1 ⊢
  have P1 := Yh (HP.out.below hb1)
  clear hw1
  go_wp2_with fail
  refine (RI.out _ P1.out).mono ?_
  rintro e w2 ⟨rfl, hb2⟩
  have K2 : Below w.heap.size w w2 := Yc hb2 hb1
  clear hb1 hb2
  go_wp2_with fail
  refine (RV.out _).mono ?_
  rintro e w3 ⟨rfl, rfl⟩
  go_wp2
  go_ret2
  exact ⟨rfl, K2⟩
 | false =>
  rw [hc] at hq
  clear hc
  go_enter Tryz.func62, Tryz.ntmps62
  go_wp2_with fail
  refine (RA.out _).mono ?_
  rintro e w1 ⟨rfl, t9, rfl⟩
  have hb1 := Go.Joins.below_bytesWorld w.heap.size w 5 t9 (Nat.le_refl _)
  obtain ⟨w1, hw1⟩ : ∃ x : World, x = bytesWorld w 5 t9 := ⟨_, rfl⟩
  rw [← hw1] at hb1 ⊢
  have P1 := Yh (HP.out.below hb1)
  clear hw1
  go_wp2_with fail
  refine (RI.out _ P1.out).mono ?_
  rintro e w2 ⟨rfl, hb2⟩
  have K2 : Below w.heap.size w w2 := Yc hb2 hb1
  clear hb1 hb2
  go_wp2
  go_ret2
  exact ⟨rfl, K2⟩
theorem needs_any (gf : Nat) (w : World) :
  Calls Tryz.prog 94 #[.func (.func gf) #[] #[]] w (fun e w' => e = .returned (.func (.func 133) #[] #[.pointer (some ⟨w.heap.size, 0, none⟩)]) ∧ Blk w' w.heap.size 109 #[.func (.func gf) #[] #[]] ∧ Below w.heap.size w w') := by
 go_enter Tryz.func94, Tryz.ntmps94
 go_wp2
 go_ret
 exact ⟨rfl, Blk.new _ _ _, below_new _ _⟩
def FnOf (w : World) : Cmd → Value → Prop
 | .sources, v => v = .func (.func 92) #[] #[]
 | .drift, v => v = .func (.func 93) #[] #[]
 | .sample, v => ∃ L, v = .func (.func 133) #[] #[.pointer (some ⟨L, 0, none⟩)] ∧ Blk w L 109 #[.func (.func 95) #[] #[]]
 | .now, v => ∃ L, v = .func (.func 133) #[] #[.pointer (some ⟨L, 0, none⟩)] ∧ Blk w L 109 #[.func (.func 96) #[] #[]]
 | .read, v => ∃ L, v = .func (.func 133) #[] #[.pointer (some ⟨L, 0, none⟩)] ∧ Blk w L 109 #[.func (.func 97) #[] #[]]
 | .utc, v => v = .func (.func 98) #[] #[]
 | .save, v => ∃ L, v = .func (.func 133) #[] #[.pointer (some ⟨L, 0, none⟩)] ∧ Blk w L 109 #[.func (.func 99) #[] #[]]
theorem FnOf.pastT {B : Nat} {Ts : List TypeId} {w w' : World} {c : Cmd} {v : Value} (h : FnOf w c v) (hp : PastT B Ts w w') (hT : 109 ∉ Ts) : FnOf w' c v := by
 cases c
 case sample | now | read | save => obtain ⟨L, e, hb⟩ := h; exact ⟨L, e, hp.blk hb hT⟩
 all_goals exact h
theorem FnOf.below {w w' : World} {c : Cmd} {v : Value} (h : FnOf w c v) (hb : Below w.heap.size w w') : FnOf w' c v := h.pastT (B := 0) (Ts := []) (PastT.below hb) Ys
def cmdV (c : Cmd) (f : Value) : Value := .agg #[.int .i64 c.count, f]
def cmdL (fs : Cmd → Value) : List (List UInt8 × Value) := [(wSources, cmdV .sources (fs .sources)), (wDrift, cmdV .drift (fs .drift)), (wSample, cmdV .sample (fs .sample)), (wNow, cmdV .now (fs .now)), (wRead, cmdV .read (fs .read)), (wUtc, cmdV .utc (fs .utc)), (wSave, cmdV .save (fs .save))]
def CmdsAt (w : World) (m : Nat) (fs : Cmd → Value) : Prop := MapIs w m (cmdL fs) ∧ ∀ c, FnOf w c (fs c)
theorem cmdOf_some {k : List UInt8} {c : Cmd} (fs : Cmd → Value) (h : cmdOf k = some c) : ((cmdL fs).find? (fun x => k == x.1)).map (·.2) = some (cmdV c (fs c)) := by
 unfold cmdOf at h
 repeat' split at h
 all_goals (first | (injection h with h; subst h; rename_i he; subst he; rfl) | cases h)
theorem cmdOf_none {k : List UInt8} (fs : Cmd → Value) (h : cmdOf k = none) : (cmdL fs).find? (fun x => k == x.1) = none := by
 unfold cmdOf at h
 repeat' split at h
 all_goals (first | (cases h; done) | skip)
 rename_i h1 h2 h3 h4 h5 h6 h7
 simp [cmdL, h1, h2, h3, h4, h5, h6, h7]
theorem commands_any (w : World) :
  Calls Tryz.prog 61 #[] w (fun e w' => ∃ m fs, e = .returned (.map (some m)) ∧ CmdsAt w' m fs ∧ Below w.heap.size w w') := by
 go_enter Tryz.func61, Tryz.ntmps61
 have hmm := @run_makeMap Tryz.prog
 have HM := Yh (MapIs.new w)
 have HK := Yh (below_new w (.map #[] 0))
 go_wp2_with (refine wpList_insert rfl _ _ _ _ rfl Tryz.underlying113 Tryz.underlying9 rfl HM.out wSources rfl (cmdV .sources (.func (.func 92) #[] #[])) rfl rfl ?_)
 intro w1 hm hg
 replace HM := Yh hm
 replace HK := Yh (HK.out.grown hg (Below.size HK.out) (fun k hk => by injection hk with hk; omega))
 clear hm hg
 go_wp2_with (refine wpList_insert rfl _ _ _ _ rfl Tryz.underlying113 Tryz.underlying9 rfl HM.out wDrift rfl (cmdV .drift (.func (.func 93) #[] #[])) rfl rfl ?_)
 intro w2 hm hg
 replace HM := Yh hm
 replace HK := Yh (HK.out.grown hg (Below.size HK.out) (fun k hk => by injection hk with hk; omega))
 clear hm hg
 go_wp2_with fail
 refine (needs_any _ _).mono ?_
 rintro e w3 ⟨rfl, hb, hk⟩
 obtain ⟨Lsample, hLsample⟩ : ∃ L, w2.heap.size = L := ⟨_, rfl⟩
 rw [hLsample] at hb ⊢
 have hLsamplem : Lsample ≠ w.heap.size := by have h1 := HM.out.lt; omega
 replace HM := Yh (HM.out.below hk); replace HK := Yh (Yc hk HK.out)
 have HLsample := Yh hb
 clear hb hk hLsample
 go_wp2_with (refine wpList_insert rfl _ _ _ _ rfl Tryz.underlying113 Tryz.underlying9 rfl HM.out wSample rfl (cmdV .sample (.func (.func 133) #[] #[.pointer (some ⟨Lsample, 0, none⟩)])) rfl rfl ?_)
 intro w4 hm hg
 replace HM := Yh hm
 replace HK := Yh (HK.out.grown hg (Below.size HK.out) (fun k hk => by injection hk with hk; omega))
 replace HLsample := Yh ((hg.block _ (Blk.lt HLsample.out) (fun e => hLsamplem (by injection e with e))).trans HLsample.out : Blk w4 Lsample 109 _)
 clear hm hg
 go_wp2_with fail
 refine (needs_any _ _).mono ?_
 rintro e w5 ⟨rfl, hb, hk⟩
 obtain ⟨Lnow, hLnow⟩ : ∃ L, w4.heap.size = L := ⟨_, rfl⟩
 rw [hLnow] at hb ⊢
 have hLnowm : Lnow ≠ w.heap.size := by have h1 := HM.out.lt; omega
 replace HM := Yh (HM.out.below hk); replace HK := Yh (Yc hk HK.out)
 replace HLsample := Yh (Yk hk HLsample.out)
 have HLnow := Yh hb
 clear hb hk hLnow
 go_wp2_with (refine wpList_insert rfl _ _ _ _ rfl Tryz.underlying113 Tryz.underlying9 rfl HM.out wNow rfl (cmdV .now (.func (.func 133) #[] #[.pointer (some ⟨Lnow, 0, none⟩)])) rfl rfl ?_)
 intro w6 hm hg
 replace HM := Yh hm
 replace HK := Yh (HK.out.grown hg (Below.size HK.out) (fun k hk => by injection hk with hk; omega))
 replace HLsample := Yh ((hg.block _ (Blk.lt HLsample.out) (fun e => hLsamplem (by injection e with e))).trans HLsample.out : Blk w6 Lsample 109 _)
 replace HLnow := Yh ((hg.block _ (Blk.lt HLnow.out) (fun e => hLnowm (by injection e with e))).trans HLnow.out : Blk w6 Lnow 109 _)
 clear hm hg
 go_wp2_with fail
 refine (needs_any _ _).mono ?_
 rintro e w7 ⟨rfl, hb, hk⟩
 obtain ⟨Lread, hLread⟩ : ∃ L, w6.heap.size = L := ⟨_, rfl⟩
 rw [hLread] at hb ⊢
 have hLreadm : Lread ≠ w.heap.size := by have h1 := HM.out.lt; omega
 replace HM := Yh (HM.out.below hk); replace HK := Yh (Yc hk HK.out)
 replace HLsample := Yh (Yk hk HLsample.out)
 replace HLnow := Yh (Yk hk HLnow.out)
 have HLread := Yh hb
 clear hb hk hLread
 go_wp2_with (refine wpList_insert rfl _ _ _ _ rfl Tryz.underlying113 Tryz.underlying9 rfl HM.out wRead rfl (cmdV .read (.func (.func 133) #[] #[.pointer (some ⟨Lread, 0, none⟩)])) rfl rfl ?_)
 intro w8 hm hg
 replace HM := Yh hm
 replace HK := Yh (HK.out.grown hg (Below.size HK.out) (fun k hk => by injection hk with hk; omega))
 replace HLsample := Yh ((hg.block _ (Blk.lt HLsample.out) (fun e => hLsamplem (by injection e with e))).trans HLsample.out : Blk w8 Lsample 109 _)
 replace HLnow := Yh ((hg.block _ (Blk.lt HLnow.out) (fun e => hLnowm (by injection e with e))).trans HLnow.out : Blk w8 Lnow 109 _)
 replace HLread := Yh ((hg.block _ (Blk.lt HLread.out) (fun e => hLreadm (by injection e with e))).trans HLread.out : Blk w8 Lread 109 _)
 clear hm hg
 go_wp2_with (refine wpList_insert rfl _ _ _ _ rfl Tryz.underlying113 Tryz.underlying9 rfl HM.out wUtc rfl (cmdV .utc (.func (.func 98) #[] #[])) rfl rfl ?_)
 intro w9 hm hg
 replace HM := Yh hm
 replace HK := Yh (HK.out.grown hg (Below.size HK.out) (fun k hk => by injection hk with hk; omega))
 replace HLsample := Yh ((hg.block _ (Blk.lt HLsample.out) (fun e => hLsamplem (by injection e with e))).trans HLsample.out : Blk w9 Lsample 109 _)
 replace HLnow := Yh ((hg.block _ (Blk.lt HLnow.out) (fun e => hLnowm (by injection e with e))).trans HLnow.out : Blk w9 Lnow 109 _)
 replace HLread := Yh ((hg.block _ (Blk.lt HLread.out) (fun e => hLreadm (by injection e with e))).trans HLread.out : Blk w9 Lread 109 _)
 clear hm hg
 go_wp2_with fail
 refine (needs_any _ _).mono ?_
 rintro e w10 ⟨rfl, hb, hk⟩
 obtain ⟨Lsave, hLsave⟩ : ∃ L, w9.heap.size = L := ⟨_, rfl⟩
 rw [hLsave] at hb ⊢
 have hLsavem : Lsave ≠ w.heap.size := by have h1 := HM.out.lt; omega
 replace HM := Yh (HM.out.below hk); replace HK := Yh (Yc hk HK.out)
 replace HLsample := Yh (Yk hk HLsample.out)
 replace HLnow := Yh (Yk hk HLnow.out)
 replace HLread := Yh (Yk hk HLread.out)
 have HLsave := Yh hb
 clear hb hk hLsave
 go_wp2_with (refine wpList_insert rfl _ _ _ _ rfl Tryz.underlying113 Tryz.underlying9 rfl HM.out wSave rfl (cmdV .save (.func (.func 133) #[] #[.pointer (some ⟨Lsave, 0, none⟩)])) rfl rfl ?_)
 intro w11 hm hg
 replace HM := Yh hm
 replace HK := Yh (HK.out.grown hg (Below.size HK.out) (fun k hk => by injection hk with hk; omega))
 replace HLsample := Yh ((hg.block _ (Blk.lt HLsample.out) (fun e => hLsamplem (by injection e with e))).trans HLsample.out : Blk w11 Lsample 109 _)
 replace HLnow := Yh ((hg.block _ (Blk.lt HLnow.out) (fun e => hLnowm (by injection e with e))).trans HLnow.out : Blk w11 Lnow 109 _)
 replace HLread := Yh ((hg.block _ (Blk.lt HLread.out) (fun e => hLreadm (by injection e with e))).trans HLread.out : Blk w11 Lread 109 _)
 replace HLsave := Yh ((hg.block _ (Blk.lt HLsave.out) (fun e => hLsavem (by injection e with e))).trans HLsave.out : Blk w11 Lsave 109 _)
 clear hm hg
 go_wp2
 go_ret
 refine ⟨_, (fun c => match c with | .sources => .func (.func 92) #[] #[] | .drift => .func (.func 93) #[] #[] | .sample => .func (.func 133) #[] #[.pointer (some ⟨Lsample, 0, none⟩)] | .now => .func (.func 133) #[] #[.pointer (some ⟨Lnow, 0, none⟩)] | .read => .func (.func 133) #[] #[.pointer (some ⟨Lread, 0, none⟩)] | .utc => .func (.func 98) #[] #[] | .save => .func (.func 133) #[] #[.pointer (some ⟨Lsave, 0, none⟩)]), rfl, ⟨HM.out, fun c => ?_⟩, HK.out⟩
 cases c
 ·exact rfl
 ·exact rfl
 ·exact ⟨Lsample, rfl, HLsample.out⟩
 ·exact ⟨Lnow, rfl, HLnow.out⟩
 ·exact ⟨Lread, rfl, HLread.out⟩
 ·exact rfl
 ·exact ⟨Lsave, rfl, HLsave.out⟩
end Go.Proofs.YtiinmhfolfgobaaGreatDoor
