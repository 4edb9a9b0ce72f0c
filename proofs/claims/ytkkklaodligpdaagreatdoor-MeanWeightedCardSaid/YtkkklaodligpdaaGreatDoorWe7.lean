/- The statement on MeanWeighted. -/
import Derived.Test.YtkkklaodligpdaaGreatDoorWe6
import Derived.WalkKit
import Derived.ProofKit
import Derived.OpenShut
import Derived.ChangeOld
import Derived.Below
import Derived.Deep.Slices
import Derived.Laws.Cover2
import Derived.LaidMore
import Derived.SizedLaws
import Derived.SevenTiedAt
import Derived.Stop.Joined
import Derived.Test.YtkkklaodligpdaaGreatDoorRows
import Derived.Test.YtkkklaodligpdaaGreatDoorTie
import Derived.Test.YtkkklaodligpdaaGreatDoorCards
set_option linter.unusedVariables false
set_option linter.unusedSimpArgs false
/- Package mean: Weighted. No condition. -/
namespace Go.Proofs.YtkkklaodligpdaaGreatDoor
open Go Sx Wd
set_option exponentiation.threshold 5000

theorem sumD_zero : sumD 0 = Dy.zero := rfl
theorem sumD_form {S : Int} (h1 : -((16384 * BB : Nat) : Int) < S) (h2 : S < (16384 * BB : Nat)) (h0 : S ≠ 0) : sumD S = ⟨decide (S < 0), S.natAbs / 2 ^ tz S.natAbs, -2148 + tz S.natAbs⟩ := by
  unfold sumD
  rw [sumD_eq h1 h2, if_neg h0]; rfl
theorem sumD_m0 {S : Int} (h1 : -((16384 * BB : Nat) : Int) < S) (h2 : S < (16384 * BB : Nat)) : (sumD S).m = 0 ↔ S = 0 := by
  constructor
  · intro h
    apply Classical.byContradiction
    intro h0
    rw [sumD_form h1 h2 h0] at h
    have := (tz_spec (n := S.natAbs) (by omega)).1
    simp only at h
    rw [h] at this; cases this
  · intro h; rw [h]; rfl
theorem sumD_sg {S : Int} (h1 : -((16384 * BB : Nat) : Int) < S) (h2 : S < (16384 * BB : Nat)) : sgD (sumD S).neg (sumD S).m = if S < 0 then -1 else if S = 0 then 0 else 1 := by
  by_cases h0 : S = 0
  · subst h0; rfl
  · have hm : (sumD S).m ≠ 0 := fun e => h0 ((sumD_m0 h1 h2).1 e)
    unfold sgD
    rw [if_neg hm, sumD_form h1 h2 h0]
    by_cases h : S < 0
    · simp [h]
    · simp [h, h0]
theorem sumD_neg {S : Int} (h1 : -((16384 * BB : Nat) : Int) < S) (h2 : S < (16384 * BB : Nat)) : negD (formD (!(sumD S).neg) (sumD S).m (sumD S).e) = sumD (-S) := by
  by_cases h0 : S = 0
  · subst h0; rfl
  · have hok := sumD_ok h1 h2
    have h3 := formD_self hok
    have hm : (sumD S).m ≠ 0 := fun e => h0 ((sumD_m0 h1 h2).1 e)
    rw [sumD_form (S := -S) (by omega) (by omega) (by omega), Int.natAbs_neg]
    unfold formD at h3 ⊢
    rw [if_neg hm] at h3 ⊢
    unfold negD
    split at h3
    · cases h3
    · rename_i hq
      rw [if_neg hq]
      have h4 := Option.some.inj h3
      have h5 := congrArg Dy.m h4
      have h6 := congrArg Dy.e h4
      simp only at h5 h6
      show (⟨!(sumD S).neg, (sumD S).m / 2 ^ tz (sumD S).m, (sumD S).e + tz (sumD S).m⟩ : Dy) = _
      rw [h5, h6, sumD_form h1 h2 h0]
      have : (!decide (S < 0)) = decide (-S < 0) := by
        by_cases q : S < 0
        · rw [decide_eq_true q, decide_eq_false (by omega)]; rfl
        · rw [decide_eq_false q, decide_eq_true (by omega)]; rfl
      rw [this]
def QuoD (N W : Int) (mode : Int) (bits : Nat) (e : Int) : Prop := QuotP (sumD N).neg (sumD W).neg (sumD N).m (sumD W).m (sumD N).e (sumD W).e mode bits e
/-- What Weighted answers. -/
def wtR (l k : List Nat) (mode : Int) (bits : Nat) (e : Int) : Prop :=
  (¬ (0 ≤ mode ∧ mode ≤ 4) ∧ bits = 0 ∧ e = 1) ∨ ((0 ≤ mode ∧ mode ≤ 4) ∧
    (((65536 < l.length ∨ 65536 < k.length) ∧ bits = 0 ∧ e = 2) ∨ (¬ (65536 < l.length ∨ 65536 < k.length) ∧
      ((l.length ≠ k.length ∧ bits = 0 ∧ e = 4) ∨ (l.length = k.length ∧
        ((¬ (finL l ∧ finL k) ∧ bits = 0 ∧ e = 30) ∨ ((finL l ∧ finL k) ∧
          ((l = [] ∧ bits = 0 ∧ e = 3) ∨ (l ≠ [] ∧ QuoD (if sumI k < 0 then -sumP l k else sumP l k) (if sumI k < 0 then -sumI k else sumI k) mode bits e)))))))))
structure KWt (l k : List Nat) (b b6 b7 : Nat) (w0 : World) (g : Nat × List Nat × SP) (w : World) : Prop where
  hi : g.1 ≤ l.length
  hB : TB w b 113 g.2.1 g.2.2.cells
  hr : Rep g.2.1 (sumP (l.take g.1) (k.take g.1))
  hs : g.2.2.le g.1
  h6 : BK w b6 27 [.float .f64 0]
  h7 : BK w b7 28 [.int .i64 0]
  ch : Chg [] w0 w

set_option maxRecDepth 8000 in
set_option maxHeartbeats 2000000 in
theorem Weighted_spec (v1 v2 : Value) (l k : List Nat) (mode : Int) (w : World) (hv : NF w v1 l) (hk : NF w v2 k) (hg : GW w) : Ret Tryz.prog 17 [v1, v2, .int .i64 mode] w fun u w' => (∃ bits e, u = .tuple [.float .f64 bits, .int .i64 e].toArray ∧ wtR l k mode bits e) ∧ Chg [] w w' := by
 have hch : Chg [] w w := Chg.refl _ _
 have hv0 := hv
 have hk0 := hk
 obtain ⟨⟨al, cl, rfl, hcapl, hrl⟩, hWl, hll⟩ := hv
 obtain ⟨⟨ak, ck, rfl, hcapk, hrk⟩, hWk, hlk⟩ := hk
 have hg0 := hg
 refine Ret.enterD 37 hasF37 Tryz.func17 rfl rfl ?_
 simp only [args0, Nat.zero_add, Nat.reduceAdd]
 refine Sq fun _ kh1 _ kr2 => ?_
 refine WL.allocB (l := [.float .f64 0]) rfl rfl fun b6 wm6 hb6 hcm6 hge6 => ?_
 have hgehch6 := Nat.le_trans hch.size hge6
 have hch := hch.trans (Chg.any hcm6)
 refine WL.allocB (l := [.int .i64 0]) rfl rfl fun b7 wm7 hb7 hcm7 hge7 => ?_
 have hgehch7 := Nat.le_trans hch.size hge7
 have hch := hch.trans (Chg.any hcm7)
 have hneb67 : b6 ≠ b7 := by have := hb6.lt; omega
 have hb6 := hb6.keep0 hcm7
 refine WL.nil (kr2 _ _ _ (kh1 _ _ _ ?_))
 refine Sq fun _ kh3 _ kr4 => ?_
 refine WL.defer rfl ?_
 refine WL.nil (kr4 _ _ _ (kh3 _ _ _ ?_))
 refine CW.seq fun _ kh5 => ?_
 refine CW.block ?_
 refine Sq fun _ kh6 _ kr7 => ?_
 refine Mv rfl rfl ?_
 refine WL.call hasF38 rfl rfl (right_spec mode _) fun v w1 h' => ?_
 obtain ⟨rfl, rfl⟩ := h'
 refine WL.ev (Ev.not rfl) rfl ?_
 refine As rfl rfl ?_
 refine WL.nil (kr7 _ _ _ (kh6 _ _ _ ?_))
 refine CW.cond rfl (fun hc1 => ?_) (fun hc1 => ?_)
 ·
  try simp only [qs] at hc1
  have hmode : ¬ (0 ≤ mode ∧ mode ≤ 4) := by simpa using hc1
  refine Sq fun _ kh8 _ kr9 => ?_
  refine WL.storeC rfl rfl (by first | rfl | assumption | exact NU.one (by assumption)) hb6 (by simp) rfl fun ws16 hb6_ hcs16 => ?_
  try simp only [Sx.splice, qt] at hb6_
  have hch := hch.s1 hcs16
  have hb7 := hb7.keep hcs16 (by simp; omega)
  have hb6 := hb6_
  refine WL.storeC rfl rfl (by first | rfl | assumption | exact NU.one (by assumption)) hb7 (by simp) rfl fun ws17 hb7_ hcs17 => ?_
  try simp only [Sx.splice, qt] at hb7_
  have hch := hch.s1 hcs17
  have hb6 := hb6.keep hcs17 (by simp; omega)
  have hb7 := hb7_
  refine WL.nil (kr9 _ _ _ (kh8 _ _ _ ?_))
  refine CW.ret ?_
  refine clean_door rfl rfl rfl hb6 hb7 hneb67 fun w9 hc9 => ?_
  have hch := hch.step hc9 (fun y hy => by simp only [List.mem_singleton] at hy; subst hy; exact .inr (by omega))
  exact ⟨⟨_, _, rfl, .inl ⟨hmode, rfl, rfl⟩⟩, hch⟩
 ·
  try simp only [qs] at hc1
  have hmode : 0 ≤ mode ∧ mode ≤ 4 := by simpa using hc1
  refine CW.seqM 15 (decide (65536 < l.length ∨ 65536 < k.length)) ?_ ?_
  ·
   refine CW.region fun kR10 kr10 => ?_
   refine Mv rfl rfl ?_
   refine WL.ev (Ev.len rfl) rfl ?_
   refine WL.ev (Ev.gtr rfl rfl) rfl ?_
   refine Mv rfl rfl ?_
   refine WL.boolCase (fun hg2 => ?_) (fun hg2 => ?_)
   ·
    try simp only [qs] at hg2
    refine WL.pass rfl rfl rfl rfl rfl ?_
    refine WL.pass rfl rfl rfl rfl rfl ?_
    refine WL.pass rfl rfl rfl rfl rfl ?_
    refine WL.ev (Ev.pickT rfl rfl rfl) rfl ?_
    refine As rfl rfl ?_
    refine WL.nil (kr10 _ _ _ ?_)
    refine ⟨rfl, rfl, Subs.consB rfl ?_ ?_⟩
    ·
     first | (simp; omega) | (refine decide_eq_decide.2 ?_; omega)
    ·
     first | ((repeat (first | exact Subs.refl | refine Subs.drop1 (by rfl) ?_)); done) | ((repeat (first | exact Subs.nil | refine Subs.cons rfl ?_)); done)
   ·
    try simp only [qs] at hg2
    refine WL.want rfl rfl rfl rfl ?_
    refine Mv rfl rfl ?_
    refine WL.want rfl rfl rfl rfl ?_
    refine WL.ev (Ev.len rfl) rfl ?_
    refine WL.want rfl rfl rfl rfl ?_
    refine WL.ev (Ev.gtr rfl rfl) rfl ?_
    refine WL.ev (Ev.pickF rfl rfl rfl) rfl ?_
    refine As rfl rfl ?_
    refine WL.nil (kr10 _ _ _ ?_)
    refine ⟨rfl, rfl, Subs.consB rfl ?_ ?_⟩
    ·
     first | (simp; omega) | (refine decide_eq_decide.2 ?_; omega)
    ·
     first | ((repeat (first | exact Subs.refl | refine Subs.drop1 (by rfl) ?_)); done) | ((repeat (first | exact Subs.nil | refine Subs.cons rfl ?_)); done)
  ·
   refine CW.cond rfl (fun hc3 => ?_) (fun hc3 => ?_)
   ·
    try simp only [qs] at hc3
    have hlong : 65536 < l.length ∨ 65536 < k.length := hc3
    refine Sq fun _ kh11 _ kr12 => ?_
    refine WL.storeC rfl rfl (by first | rfl | assumption | exact NU.one (by assumption)) hb6 (by simp) rfl fun ws18 hb6_ hcs18 => ?_
    try simp only [Sx.splice, qt] at hb6_
    have hch := hch.s1 hcs18
    have hb7 := hb7.keep hcs18 (by simp; omega)
    have hb6 := hb6_
    refine WL.storeC rfl rfl (by first | rfl | assumption | exact NU.one (by assumption)) hb7 (by simp) rfl fun ws19 hb7_ hcs19 => ?_
    try simp only [Sx.splice, qt] at hb7_
    have hch := hch.s1 hcs19
    have hb6 := hb6.keep hcs19 (by simp; omega)
    have hb7 := hb7_
    refine WL.nil (kr12 _ _ _ (kh11 _ _ _ ?_))
    refine CW.ret ?_
    refine clean_door rfl rfl rfl hb6 hb7 hneb67 fun w9 hc9 => ?_
    have hch := hch.step hc9 (fun y hy => by simp only [List.mem_singleton] at hy; subst hy; exact .inr (by omega))
    exact ⟨⟨_, _, rfl, .inr ⟨hmode, .inl ⟨hlong, rfl, rfl⟩⟩⟩, hch⟩
   ·
    try simp only [qs] at hc3
    have hlong : ¬ (65536 < l.length ∨ 65536 < k.length) := by have := hc3; omega
    refine Sq fun _ kh13 _ kr14 => ?_
    refine Mv rfl rfl ?_
    refine WL.ev (Ev.len rfl) rfl ?_
    refine Mv rfl rfl ?_
    refine WL.ev (Ev.len rfl) rfl ?_
    refine WL.ev (Ev.neq rfl rfl) rfl ?_
    refine As rfl rfl ?_
    refine WL.nil (kr14 _ _ _ (kh13 _ _ _ ?_))
    refine CW.cond rfl (fun hc4 => ?_) (fun hc4 => ?_)
    ·
     try simp only [qs] at hc4
     have hlen : l.length ≠ k.length := by omega
     refine Sq fun _ kh15 _ kr16 => ?_
     refine WL.storeC rfl rfl (by first | rfl | assumption | exact NU.one (by assumption)) hb6 (by simp) rfl fun ws20 hb6_ hcs20 => ?_
     try simp only [Sx.splice, qt] at hb6_
     have hch := hch.s1 hcs20
     have hb7 := hb7.keep hcs20 (by simp; omega)
     have hb6 := hb6_
     refine WL.storeC rfl rfl (by first | rfl | assumption | exact NU.one (by assumption)) hb7 (by simp) rfl fun ws21 hb7_ hcs21 => ?_
     try simp only [Sx.splice, qt] at hb7_
     have hch := hch.s1 hcs21
     have hb6 := hb6.keep hcs21 (by simp; omega)
     have hb7 := hb7_
     refine WL.nil (kr16 _ _ _ (kh15 _ _ _ ?_))
     refine CW.ret ?_
     refine clean_door rfl rfl rfl hb6 hb7 hneb67 fun w9 hc9 => ?_
     have hch := hch.step hc9 (fun y hy => by simp only [List.mem_singleton] at hy; subst hy; exact .inr (by omega))
     exact ⟨⟨_, _, rfl, .inr ⟨hmode, .inr ⟨hlong, .inl ⟨hlen, rfl, rfl⟩⟩⟩⟩, hch⟩
    ·
     try simp only [qs] at hc4
     have hlen : l.length = k.length := by omega
     refine Sq fun _ kh17 _ kr18 => ?_
     refine Mv rfl rfl ?_
     refine WL.call hasF51 rfl rfl (mfinite_spec _ l _ (hv0.keep0 hch)) fun v w2 h' => ?_
     obtain ⟨rfl, hC32⟩ := h'
     have hch := hch.trans (Chg.any hC32)
     have hb6 := hb6.keep0 hC32
     have hb7 := hb7.keep0 hC32
     refine WL.ev (Ev.not rfl) rfl ?_
     refine Mv rfl rfl ?_
     refine WL.boolCase (fun hg5 => ?_) (fun hg5 => ?_)
     ·
      try simp only [qs] at hg5
      have hf1 : ¬ finL l := by simpa using hg5
      refine WL.pass rfl rfl rfl rfl rfl ?_
      refine WL.pass rfl rfl rfl rfl rfl ?_
      refine WL.pass rfl rfl rfl rfl rfl ?_
      refine WL.ev (Ev.pickT rfl rfl rfl) rfl ?_
      refine As rfl rfl ?_
      refine WL.nil (kr18 _ _ _ (kh17 _ _ _ ?_))
      refine CW.condT rfl ?_
      refine Sq fun _ kh19 _ kr20 => ?_
      refine WL.storeC rfl rfl (by first | rfl | assumption | exact NU.one (by assumption)) hb6 (by simp) rfl fun ws22 hb6_ hcs22 => ?_
      try simp only [Sx.splice, qt] at hb6_
      have hch := hch.s1 hcs22
      have hb7 := hb7.keep hcs22 (by simp; omega)
      have hb6 := hb6_
      refine WL.storeC rfl rfl (by first | rfl | assumption | exact NU.one (by assumption)) hb7 (by simp) rfl fun ws23 hb7_ hcs23 => ?_
      try simp only [Sx.splice, qt] at hb7_
      have hch := hch.s1 hcs23
      have hb6 := hb6.keep hcs23 (by simp; omega)
      have hb7 := hb7_
      refine WL.nil (kr20 _ _ _ (kh19 _ _ _ ?_))
      refine CW.ret ?_
      refine clean_door rfl rfl rfl hb6 hb7 hneb67 fun w9 hc9 => ?_
      have hch := hch.step hc9 (fun y hy => by simp only [List.mem_singleton] at hy; subst hy; exact .inr (by omega))
      exact ⟨⟨_, _, rfl, .inr ⟨hmode, .inr ⟨hlong, .inr ⟨hlen, .inl ⟨fun h => hf1 h.1, rfl, rfl⟩⟩⟩⟩⟩, hch⟩
     ·
      try simp only [qs] at hg5
      have hf1 : finL l := by simpa using hg5
      refine WL.want rfl rfl rfl rfl ?_
      refine Mv rfl rfl ?_
      refine WL.want rfl rfl rfl rfl ?_
      refine WL.call hasF51 rfl rfl (mfinite_spec _ k _ (hk0.keep0 hch)) fun v w3 h' => ?_
      obtain ⟨rfl, hC36⟩ := h'
      have hch := hch.trans (Chg.any hC36)
      have hb6 := hb6.keep0 hC36
      have hb7 := hb7.keep0 hC36
      refine WL.want rfl rfl rfl rfl ?_
      refine WL.ev (Ev.not rfl) rfl ?_
      refine WL.ev (Ev.pickF rfl rfl rfl) rfl ?_
      refine As rfl rfl ?_
      refine WL.nil (kr18 _ _ _ (kh17 _ _ _ ?_))
      refine CW.cond rfl (fun hc6 => ?_) (fun hc6 => ?_)
      ·
       try simp only [qs] at hc6
       have hf2 : ¬ finL k := by simpa using hc6
       refine Sq fun _ kh21 _ kr22 => ?_
       refine WL.storeC rfl rfl (by first | rfl | assumption | exact NU.one (by assumption)) hb6 (by simp) rfl fun ws24 hb6_ hcs24 => ?_
       try simp only [Sx.splice, qt] at hb6_
       have hch := hch.s1 hcs24
       have hb7 := hb7.keep hcs24 (by simp; omega)
       have hb6 := hb6_
       refine WL.storeC rfl rfl (by first | rfl | assumption | exact NU.one (by assumption)) hb7 (by simp) rfl fun ws25 hb7_ hcs25 => ?_
       try simp only [Sx.splice, qt] at hb7_
       have hch := hch.s1 hcs25
       have hb6 := hb6.keep hcs25 (by simp; omega)
       have hb7 := hb7_
       refine WL.nil (kr22 _ _ _ (kh21 _ _ _ ?_))
       refine CW.ret ?_
       refine clean_door rfl rfl rfl hb6 hb7 hneb67 fun w9 hc9 => ?_
       have hch := hch.step hc9 (fun y hy => by simp only [List.mem_singleton] at hy; subst hy; exact .inr (by omega))
       exact ⟨⟨_, _, rfl, .inr ⟨hmode, .inr ⟨hlong, .inr ⟨hlen, .inl ⟨fun h => hf2 h.2, rfl, rfl⟩⟩⟩⟩⟩, hch⟩
      ·
       try simp only [qs] at hc6
       have hf2 : finL k := by simpa using hc6
       have hfin : finL l ∧ finL k := ⟨hf1, hf2⟩
       refine Sq fun _ kh23 _ kr24 => ?_
       refine Mv rfl rfl ?_
       refine WL.ev (Ev.len rfl) rfl ?_
       refine WL.ev (Ev.eql rfl rfl) rfl ?_
       refine As rfl rfl ?_
       refine WL.nil (kr24 _ _ _ (kh23 _ _ _ ?_))
       refine CW.cond rfl (fun hc7 => ?_) (fun hc7 => ?_)
       ·
        try simp only [qs] at hc7
        have hnil : l = [] := List.length_eq_zero_iff.1 (by omega)
        refine Sq fun _ kh25 _ kr26 => ?_
        refine WL.storeC rfl rfl (by first | rfl | assumption | exact NU.one (by assumption)) hb6 (by simp) rfl fun ws26 hb6_ hcs26 => ?_
        try simp only [Sx.splice, qt] at hb6_
        have hch := hch.s1 hcs26
        have hb7 := hb7.keep hcs26 (by simp; omega)
        have hb6 := hb6_
        refine WL.storeC rfl rfl (by first | rfl | assumption | exact NU.one (by assumption)) hb7 (by simp) rfl fun ws27 hb7_ hcs27 => ?_
        try simp only [Sx.splice, qt] at hb7_
        have hch := hch.s1 hcs27
        have hb6 := hb6.keep hcs27 (by simp; omega)
        have hb7 := hb7_
        refine WL.nil (kr26 _ _ _ (kh25 _ _ _ ?_))
        refine CW.ret ?_
        refine clean_door rfl rfl rfl hb6 hb7 hneb67 fun w9 hc9 => ?_
        have hch := hch.step hc9 (fun y hy => by simp only [List.mem_singleton] at hy; subst hy; exact .inr (by omega))
        exact ⟨⟨_, _, rfl, .inr ⟨hmode, .inr ⟨hlong, .inr ⟨hlen, .inr ⟨hfin, .inl ⟨hnil, rfl, rfl⟩⟩⟩⟩⟩⟩, hch⟩
       ·
        try simp only [qs] at hc7
        have hnn : l ≠ [] := fun e => by rw [e] at hc7; exact hc7 rfl
        have hinN := sumP_in hf1 hf2 (by omega)
        have hinW := sumI_in (l := k) (by omega)
        refine CW.skip ?_
        refine kh5 _ _ _ ?_
        refine Sq fun _ kh27 _ kr28 => ?_
        refine WL.call hasF33 rfl rfl (New_spec _) fun v w4 h' => ?_
        obtain ⟨b, rfl, hB6, hge6, hC43⟩ := h'
        have hbge : w.heap.size ≤ b := Nat.le_trans hch.size hge6
        have hnb6 : b6 ≠ b := by have := hb6.lt; omega
        have hnb7 : b7 ≠ b := by have := hb7.lt; omega
        have hch := hch.trans (Chg.any hC43)
        have hb6 := hb6.keep0 hC43
        have hb7 := hb7.keep0 hC43
        refine As rfl rfl ?_
        refine WL.nil (kr28 _ _ _ (kh27 _ _ _ ?_))
        refine CW.seq fun _ kh29 => ?_
        refine Sq fun _ kh30 _ kr31 => ?_
        refine Mv rfl rfl ?_
        refine WL.ev (Ev.len rfl) rfl ?_
        refine Mv rfl rfl ?_
        refine WL.nil (kr31 _ _ _ (kh30 _ _ _ ?_))
        refine CW.block ?_
        refine CW.loop (S := fun g : Nat × List Nat × SP => [(0, .slice al l.length cl), (1, .slice ak k.length ck), (2, .int .i64 mode), (6, .pointer (some ⟨b6, 0, none⟩)), (7, .pointer (some ⟨b7, 0, none⟩)), (8, .pointer (some ⟨b, 0, none⟩)), (45, .int .i64 (l.length : Int)), (46, .int .i64 (g.1 : Int))]) (Inv := KWt l k b b6 b7 w) (mu := fun g => l.length - g.1) ((0, List.replicate 67 0, SP.zero)) ?_ ?_ ?_
        ·
         exact ⟨Nat.zero_le _, hB6, by rw [List.take_zero, List.take_zero]; exact Rep.zero, ⟨by decide, by decide, by decide, by decide, by decide, by decide⟩, hb6, hb7, hch⟩
        ·
         repeat (first | exact Subs.nil | refine Subs.cons rfl ?_ | refine Subs.consI rfl (by omega) ?_)
        ·
         rintro ⟨i, C, s⟩ wr ⟨hi, hB, hr, hs, hb6, hb7, hch⟩
         dsimp only at hi hB hr hs hb6 hb7 hch
         dsimp only
         have hx := D_getD hWl i
         have hy := D_getD hWk i
         refine Sq fun _ kh32 _ kr33 => ?_
         refine WL.ev (Ev.lss rfl rfl) rfl ?_
         refine WL.nil (kr33 _ _ _ (kh32 _ _ _ ?_))
         refine CW.seq fun _ kh34 => ?_
         refine CW.cond rfl (fun hc8 => ?_) (fun hc8 => ?_)
         ·
          try simp only [qs] at hc8
          have hst := sumP_step (l := l) (k := k) (i := i) (by omega) hlen
          have hin := sumP_in (l := l.take (i + 1)) (k := k.take (i + 1)) (finL_take hf1) (finL_take hf2) (by rw [List.length_take]; omega)
          rw [hst] at hin
          have hmx : (splitP (l.getD i 0)).cls ≤ 2 := ((finL_step (by omega)).1 (finL_take (i := i + 1) hf1)).2
          have hmy : (splitP (k.getD i 0)).cls ≤ 2 := ((finL_step (by omega)).1 (finL_take (i := i + 1) hf2)).2
          refine CW.skip ?_
          refine kh34 _ _ _ ?_
          refine CW.seq fun _ kh35 => ?_
          refine CW.block ?_
          refine Sq fun _ kh36 _ kr37 => ?_
          refine Mv rfl rfl ?_
          refine As rfl rfl ?_
          refine WL.nil (kr37 _ _ _ (kh36 _ _ _ ?_))
          refine CW.regionTC 9 hmix (by kernel_rfl) fun kR38 kr38 hdr => ?_
          have hch := hch.trans (Chg.any hdr)
          have hB := hB.keep0 hdr
          have hb6 := hb6.keep0 hdr
          have hb7 := hb7.keep0 hdr
          refine WS.ev (Ev.move rfl) rfl ?_
          refine WS.ev (Ev.move rfl) rfl ?_
          refine WS.ev (Ev.move rfl) rfl ?_
          refine WS.ev (Ev.ixR (i) rfl rfl (hrl.keep0 hch) (by omega) (by omega) (by simp; omega)) rfl ?_
          refine WS.ev (Ev.load rfl rfl ((hrl.keep0 hch).f64 (by first | omega | (simp; omega)))) rfl ?_
          refine WS.ev (Ev.move rfl) rfl ?_
          refine WS.ev (Ev.move rfl) rfl ?_
          refine WS.ev (Ev.ixR (i) rfl rfl (hrk.keep0 hch) (by omega) (by omega) (by simp; omega)) rfl ?_
          refine WS.ev (Ev.load rfl rfl ((hrk.keep0 hch).f64 (by first | omega | (simp; omega)))) rfl ?_
          refine WS.nil ?_
          refine WL.call hasF52 rfl rfl (acAddProduct_spec b C (l.getD i 0) (k.getD i 0) s (sumP (l.take i) (k.take i)) _ hB hr hx hy hmx hmy (hs.mono (by omega)) hin.1 hin.2) fun v w5 h' => ?_
          obtain ⟨rfl, C2, hB2, hr2, hC58⟩ := h'
          rw [← hst] at hr2
          have hch := hch.step hC58 (fun y hy => by simp only [List.mem_singleton] at hy; subst hy; exact .inr hbge)
          have hb6 := hb6.keep hC58 (by simp; omega)
          have hb7 := hb7.keep hC58 (by simp; omega)
          refine WL.nil (kr38 _ _ _ (kh35 _ _ _ ?_))
          refine CW.region fun kR39 kr39 => ?_
          first | refine WL.ev (Ev.addIn rfl rfl (by omega)) rfl ?_ | refine WL.ev (Ev.add rfl rfl) rfl ?_
          refine Mv rfl rfl ?_
          refine WL.nil (kr39 _ _ _ ?_)
          refine ⟨rfl, (i + 1, C2, cnt1 s (prodP (l.getD i 0) (k.getD i 0)).cls (prodP (l.getD i 0) (k.getD i 0)).neg), ?_, ?_, ?_⟩
          ·
           repeat (first | exact Subs.nil | refine Subs.cons rfl ?_ | refine Subs.consI rfl (by omega) ?_)
          ·
           exact ⟨by show i + 1 ≤ l.length; omega, hB2, hr2, cnt1_le hs _ _, hb6, hb7, hch⟩
          ·
           show l.length - (i + 1) < l.length - i; omega
         ·
          try simp only [qs] at hc8
          have hiX : i = l.length := by omega
          subst hiX
          rw [List.take_length, List.take_of_length_le (by omega)] at hr
          refine CW.exit ?_
          refine kh29 _ _ _ ?_
          refine Sq fun _ kh40 _ kr41 => ?_
          refine Mv rfl rfl ?_
          refine WL.call hasF35 rfl rfl (Exact_spec b C (sumP l k) _ hB hr (hg0.keep0 hch) hinN.1 hinN.2) fun v w6 h' => ?_
          obtain ⟨⟨rN, rfl, hNN⟩, hC61⟩ := h'
          have hch := hch.trans (Chg.any hC61)
          have hB := hB.keep0 hC61
          have hb6 := hb6.keep0 hC61
          have hb7 := hb7.keep0 hC61
          refine Mv rfl rfl ?_
          refine WL.call hasF42 rfl rfl (all_spec _ k _ (hk0.keep0 hch) (by omega)) fun v w7 h' => ?_
          obtain ⟨⟨ba, C3, sa, rfl, hBa, hRa, hsa⟩, hC63⟩ := h'
          have hch := hch.trans (Chg.any hC63)
          have hB := hB.keep0 hC63
          have hb6 := hb6.keep0 hC63
          have hb7 := hb7.keep0 hC63
          have hNN := hNN.keep0 hC63
          refine WL.call hasF35 rfl rfl (Exact_spec ba C3 (sumI k) _ hBa hRa (hg0.keep0 hch) hinW.1 hinW.2) fun v w8 h' => ?_
          obtain ⟨⟨rW, rfl, hNW⟩, hC64⟩ := h'
          have hch := hch.trans (Chg.any hC64)
          have hB := hB.keep0 hC64
          have hb6 := hb6.keep0 hC64
          have hb7 := hb7.keep0 hC64
          have hNN := hNN.keep0 hC64
          refine WL.ev (Ev.build (vs := _) (cs := [_, _, _, _, _, _]) rfl rfl) rfl ?_
          refine WL.allocB (l := [.bool false, .slice none 0 0, .int .i64 0, .bool false, .slice none 0 0, .int .i64 0]) rfl rfl fun b10 wm10 hb10 hcm10 hge10 => ?_
          have hgehch10 := Nat.le_trans hch.size hge10
          have hch := hch.trans (Chg.any hcm10)
          have hNN := hNN.keep0 hcm10
          have hNW := hNW.keep0 hcm10
          have hneb10 : b ≠ b10 := by have := hB.lt; omega
          have hB := hB.keep0 hcm10
          have hneb610 : b6 ≠ b10 := by have := hb6.lt; omega
          have hb6 := hb6.keep0 hcm10
          have hneb710 : b7 ≠ b10 := by have := hb7.lt; omega
          have hb7 := hb7.keep0 hcm10
          refine WL.storeB rfl rfl rfl ao hb10 (by simp) rfl fun ws28 hb10_ hcs28 => ?_
          try simp only [Sx.splice, qt] at hb10_
          have hch := hch.s1 hcs28
          have hB := hB.keep hcs28 (by simp; omega)
          have hb6 := hb6.keep hcs28 (by simp; omega)
          have hb7 := hb7.keep hcs28 (by simp; omega)
          have hNN := hNN.keepBK hb10 hcs28 an
          have hNW := hNW.keepBK hb10 hcs28 an
          have hb10 := hb10_
          refine WL.nil (kr41 _ _ _ (kh40 _ _ _ ?_))
          refine CW.seq fun _ kh42 => ?_
          refine Sq fun _ kh43 _ kr44 => ?_
          refine WL.ev (Ev.fieldAddr rfl) rfl ?_
          refine WL.ev (Ev.loadB rfl rfl hb10 rfl rfl) rfl ?_
          try simp only [List.drop_succ_cons, List.drop_zero, List.take_succ_cons, List.take_zero]
          refine WL.call hasF53 rfl rfl (Sign_dspec (sumD (sumI k)).neg rW (wd (sumD (sumI k)).m) (sumD (sumI k)).e _ hNW) fun v w9 h' => ?_
          obtain ⟨rfl, hC68⟩ := h'
          rw [val_wd, sumD_sg hinW.1 hinW.2]
          have hch := hch.trans (Chg.any hC68)
          have hB := hB.keep0 hC68
          have hb6 := hb6.keep0 hC68
          have hb7 := hb7.keep0 hC68
          have hb10 := hb10.keep0 hC68
          have hNN := hNN.keep0 hC68
          have hNW := hNW.keep0 hC68
          refine WL.ev (Ev.lss rfl rfl) rfl ?_
          refine WL.nil (kr44 _ _ _ (kh43 _ _ _ ?_))
          refine CW.cond rfl (fun hc9 => ?_) (fun hc9 => ?_)
          ·
           try simp only [qs] at hc9
           have hneg : sumI k < 0 := Classical.byContradiction fun q => by rw [if_neg q] at hc9; split at hc9 <;> omega
           refine CW.regionKC 7 10 rfl hmix fun kR45 kr45 hS hdr => ?_
           have hch := hch.trans (Chg.any hdr)
           have hB := hB.keep0 hdr
           have hb6 := hb6.keep0 hdr
           have hb7 := hb7.keep0 hdr
           have hb10 := hb10.keep0 hdr
           have hNN := hNN.keep0 hdr
           have hNW := hNW.keep0 hdr
           have hch_r := hch
           have hB_r := hB
           have hb6_r := hb6
           have hb7_r := hb7
           have hb10_r := hb10
           refine WK.take 0 rfl (by kernel_rfl) (by kernel_rfl) (by kernel_rfl) (by kernel_rfl) (by kernel_rfl) (by kernel_rfl) hS (fun w' hw' => Ev.fieldAddr rfl) rfl ?_
           refine WK.take 1 rfl (by kernel_rfl) (by kernel_rfl) (by kernel_rfl) (by kernel_rfl) (by kernel_rfl) (by kernel_rfl) hS (fun w' hw' => Ev.loadB rfl rfl (hb10_r.keep0 hw') rfl rfl) rfl ?_
           try simp only [List.drop_succ_cons, List.drop_zero, List.take_succ_cons, List.take_zero]
           refine WK.take 3 rfl (by kernel_rfl) (by kernel_rfl) (by kernel_rfl) (by kernel_rfl) (by kernel_rfl) (by kernel_rfl) hS (fun w' hw' => Ev.fieldAddr rfl) rfl ?_
           refine WK.take 4 rfl (by kernel_rfl) (by kernel_rfl) (by kernel_rfl) (by kernel_rfl) (by kernel_rfl) (by kernel_rfl) hS (fun w' hw' => Ev.loadB rfl rfl (hb10_r.keep0 hw') rfl rfl) rfl ?_
           try simp only [List.drop_succ_cons, List.drop_zero, List.take_succ_cons, List.take_zero]
           refine WK.oneCall 2 rfl (by kernel_rfl) hasF54 rfl rfl (Neg_dspec (sumD (sumP l k)).neg rN (wd (sumD (sumP l k)).m) (sumD (sumP l k)).e _ hNN (hg0.keep0 hch) (ok_e (sumD_ok hinN.1 hinN.2))) fun v w10 h' => ?_
           obtain ⟨hD72, hC72⟩ := h'
           rw [val_wd, sumD_neg hinN.1 hinN.2] at hD72
           obtain ⟨rN, rfl, hNN2⟩ := hD72
           have hch := hch.trans (Chg.any hC72)
           have hB := hB.keep0 hC72
           have hb6 := hb6.keep0 hC72
           have hb7 := hb7.keep0 hC72
           have hb10 := hb10.keep0 hC72
           have hNN := hNN.keep0 hC72
           have hNW := hNW.keep0 hC72
           have hS := hS.trans hC72
           refine ⟨hS, ?_⟩
           refine WK.take 6 rfl (by kernel_rfl) (by kernel_rfl) (by kernel_rfl) (by kernel_rfl) (by kernel_rfl) (by kernel_rfl) hS (fun w' hw' => Ev.fieldAddr rfl) rfl ?_
           refine WK.oneCall 5 rfl (by kernel_rfl) hasF54 rfl rfl (Neg_dspec (sumD (sumI k)).neg rW (wd (sumD (sumI k)).m) (sumD (sumI k)).e _ hNW (hg0.keep0 hch) (ok_e (sumD_ok hinW.1 hinW.2))) fun v w11 h' => ?_
           obtain ⟨hD75, hC75⟩ := h'
           rw [val_wd, sumD_neg hinW.1 hinW.2] at hD75
           obtain ⟨rW, rfl, hNW2⟩ := hD75
           have hch := hch.trans (Chg.any hC75)
           have hB := hB.keep0 hC75
           have hb6 := hb6.keep0 hC75
           have hb7 := hb7.keep0 hC75
           have hb10 := hb10.keep0 hC75
           have hNN := hNN.keep0 hC75
           have hNW := hNW.keep0 hC75
           have hNN2 := hNN2.keep0 hC75
           have hS := hS.trans hC75
           refine ⟨hS, ?_⟩
           refine WK.storeB 7 rfl (by kernel_rfl) (by kernel_rfl) rfl rfl rfl ao hb10 (by simp) rfl fun ws29 hb10_ hcs29 => ?_
           try simp only [Sx.splice, qt] at hb10_
           have hch := hch.s1 hcs29
           have hB := hB.keep hcs29 (by simp; omega)
           have hb6 := hb6.keep hcs29 (by simp; omega)
           have hb7 := hb7.keep hcs29 (by simp; omega)
           have hNN := hNN.keepBK hb10 hcs29 an
           have hNW := hNW.keepBK hb10 hcs29 an
           have hNN2 := hNN2.keepBK hb10 hcs29 an
           have hNW2 := hNW2.keepBK hb10 hcs29 an
           have hb10 := hb10_
           refine WK.after 8 rfl (by kernel_rfl) (by kernel_rfl) (Ev.fieldAddr rfl) rfl ?_
           refine WK.storeB 9 rfl (by kernel_rfl) (by kernel_rfl) rfl rfl rfl ao hb10 (by simp) rfl fun ws30 hb10_ hcs30 => ?_
           try simp only [Sx.splice, qt] at hb10_
           have hch := hch.s1 hcs30
           have hB := hB.keep hcs30 (by simp; omega)
           have hb6 := hb6.keep hcs30 (by simp; omega)
           have hb7 := hb7.keep hcs30 (by simp; omega)
           have hNN := hNN.keepBK hb10 hcs30 an
           have hNW := hNW.keepBK hb10 hcs30 an
           have hNN2 := hNN2.keepBK hb10 hcs30 an
           have hNW2 := hNW2.keepBK hb10 hcs30 an
           have hb10 := hb10_
           refine WK.done (by kernel_rfl) (kr45 _ _ _ ?_)
           refine kh42 _ _ _ ?_
           refine CW.seq fun _ kh46 => ?_
           have hNN := hNN2
           have hNW := hNW2
           have hokN := sumD_ok (S := -sumP l k) (by omega) (by omega)
           have hokW := sumD_ok (S := -sumI k) (by omega) (by omega)
           refine CW.region fun kR47 kr47 => ?_
           refine WL.ev (Ev.loadA rfl rfl hb10 rfl) rfl ?_
           refine Mv rfl rfl ?_
           refine WL.call hasF55 rfl rfl (Quot_spec (sumD (-sumP l k)).neg (sumD (-sumI k)).neg rN rW (wd (sumD (-sumP l k)).m) (wd (sumD (-sumI k)).m) (sumD (-sumP l k)).e (sumD (-sumI k)).e mode _ hNN hNW (hg0.keep0 hch) (ok_e hokN) (ok_e hokW)) fun v w12 h' => ?_
           obtain ⟨⟨bits, e, rfl, hQ⟩, hC80⟩ := h'
           rw [val_wd, val_wd] at hQ
           have hch := hch.trans (Chg.any hC80)
           have hB := hB.keep0 hC80
           have hb6 := hb6.keep0 hC80
           have hb7 := hb7.keep0 hC80
           have hb10 := hb10.keep0 hC80
           have hNN := hNN.keep0 hC80
           have hNW := hNW.keep0 hC80
           have hNN2 := hNN2.keep0 hC80
           have hNW2 := hNW2.keep0 hC80
           refine WL.ev (Ev.extract rfl rfl) rfl ?_
           refine WL.ev (Ev.extract rfl rfl) rfl ?_
           refine WL.storeC rfl rfl (by first | rfl | assumption | exact NU.one (by assumption)) hb6 (by simp) rfl fun ws31 hb6_ hcs31 => ?_
           try simp only [Sx.splice, qt] at hb6_
           have hch := hch.s1 hcs31
           have hB := hB.keep hcs31 (by simp; omega)
           have hb7 := hb7.keep hcs31 (by simp; omega)
           have hb10 := hb10.keep hcs31 (by simp; omega)
           have hNN2 := hNN2.keepBK hb6 hcs31 an
           have hNW2 := hNW2.keepBK hb6 hcs31 an
           have hb6 := hb6_
           refine WL.storeC rfl rfl (by first | rfl | assumption | exact NU.one (by assumption)) hb7 (by simp) rfl fun ws32 hb7_ hcs32 => ?_
           try simp only [Sx.splice, qt] at hb7_
           have hch := hch.s1 hcs32
           have hB := hB.keep hcs32 (by simp; omega)
           have hb6 := hb6.keep hcs32 (by simp; omega)
           have hb10 := hb10.keep hcs32 (by simp; omega)
           have hNN2 := hNN2.keepBK hb7 hcs32 an
           have hNW2 := hNW2.keepBK hb7 hcs32 an
           have hb7 := hb7_
           refine WL.nil (kr47 _ _ _ (kh46 _ _ _ ?_))
           refine CW.ret ?_
           refine clean_door rfl rfl rfl hb6 hb7 hneb67 fun w9 hc9 => ?_
           have hch := hch.step hc9 (fun y hy => by simp only [List.mem_singleton] at hy; subst hy; exact .inr (by omega))
           refine ⟨⟨_, _, rfl, .inr ⟨hmode, .inr ⟨hlong, .inr ⟨hlen, .inr ⟨hfin, .inr ⟨hnn, ?_⟩⟩⟩⟩⟩⟩, hch⟩
           rw [hQ.err]
           unfold QuoD
           rw [if_pos hneg, if_pos hneg]; exact hQ
          ·
           try simp only [qs] at hc9
           have hneg : ¬ sumI k < 0 := fun q => by rw [if_pos q] at hc9; omega
           refine CW.skip ?_
           refine kh42 _ _ _ ?_
           refine CW.seq fun _ kh48 => ?_
           have hokN := sumD_ok hinN.1 hinN.2
           have hokW := sumD_ok hinW.1 hinW.2
           refine CW.region fun kR49 kr49 => ?_
           refine WL.ev (Ev.loadA rfl rfl hb10 rfl) rfl ?_
           refine Mv rfl rfl ?_
           refine WL.call hasF55 rfl rfl (Quot_spec (sumD (sumP l k)).neg (sumD (sumI k)).neg rN rW (wd (sumD (sumP l k)).m) (wd (sumD (sumI k)).m) (sumD (sumP l k)).e (sumD (sumI k)).e mode _ hNN hNW (hg0.keep0 hch) (ok_e hokN) (ok_e hokW)) fun v w13 h' => ?_
           obtain ⟨⟨bits, e, rfl, hQ⟩, hC80⟩ := h'
           rw [val_wd, val_wd] at hQ
           have hch := hch.trans (Chg.any hC80)
           have hB := hB.keep0 hC80
           have hb6 := hb6.keep0 hC80
           have hb7 := hb7.keep0 hC80
           have hb10 := hb10.keep0 hC80
           have hNN := hNN.keep0 hC80
           have hNW := hNW.keep0 hC80
           refine WL.ev (Ev.extract rfl rfl) rfl ?_
           refine WL.ev (Ev.extract rfl rfl) rfl ?_
           refine WL.storeC rfl rfl (by first | rfl | assumption | exact NU.one (by assumption)) hb6 (by simp) rfl fun ws33 hb6_ hcs33 => ?_
           try simp only [Sx.splice, qt] at hb6_
           have hch := hch.s1 hcs33
           have hB := hB.keep hcs33 (by simp; omega)
           have hb7 := hb7.keep hcs33 (by simp; omega)
           have hb10 := hb10.keep hcs33 (by simp; omega)
           have hb6 := hb6_
           refine WL.storeC rfl rfl (by first | rfl | assumption | exact NU.one (by assumption)) hb7 (by simp) rfl fun ws34 hb7_ hcs34 => ?_
           try simp only [Sx.splice, qt] at hb7_
           have hch := hch.s1 hcs34
           have hB := hB.keep hcs34 (by simp; omega)
           have hb6 := hb6.keep hcs34 (by simp; omega)
           have hb10 := hb10.keep hcs34 (by simp; omega)
           have hb7 := hb7_
           refine WL.nil (kr49 _ _ _ (kh48 _ _ _ ?_))
           refine CW.ret ?_
           refine clean_door rfl rfl rfl hb6 hb7 hneb67 fun w9 hc9 => ?_
           have hch := hch.step hc9 (fun y hy => by simp only [List.mem_singleton] at hy; subst hy; exact .inr (by omega))
           refine ⟨⟨_, _, rfl, .inr ⟨hmode, .inr ⟨hlong, .inr ⟨hlen, .inr ⟨hfin, .inr ⟨hnn, ?_⟩⟩⟩⟩⟩⟩, hch⟩
           rw [hQ.err]
           unfold QuoD
           rw [if_neg hneg, if_neg hneg]; exact hQ

end Go.Proofs.YtkkklaodligpdaaGreatDoor

/- Package mean: Middle, Of. No condition. -/
namespace Go.Proofs.YtkkklaodligpdaaGreatDoor
open Go Sx Wd
set_option exponentiation.threshold 5000

theorem NF.of_row {w : World} {a : Option Addr} {l : List Nat} {k c : Nat} (h : RW w a (l.map f64v)) (hw : ∀ x ∈ l, x < 18446744073709551616) (hl : l.length ≤ 70368744177664) (hk : k = l.length) (hc : k ≤ c) : NF w (.slice a k c) l := by
  subst hk
  exact ⟨⟨a, c, rfl, hc, h⟩, hw, hl⟩
theorem meanR.err {l : List Nat} {mode pn pi : Int} {bits : Nat} {e : Int} (h : meanR l mode pn pi bits e) : (if e = 0 then bits else 0) = bits := by
  rcases h with ⟨_, rfl, rfl⟩ | ⟨_, ⟨_, rfl, rfl⟩ | ⟨_, ⟨_, rfl⟩ | ⟨_, ⟨_, rfl, rfl⟩ | ⟨_, h⟩⟩⟩⟩
  · simp
  · simp
  · simp
  · simp
  · exact h.err
/-- What Middle answers. -/
def midR (x y : Nat) (mode : Int) (bits : Nat) (e : Int) : Prop :=
  (¬ (0 ≤ mode ∧ mode ≤ 4) ∧ bits = 0 ∧ e = 1) ∨ ((0 ≤ mode ∧ mode ≤ 4) ∧
    ((¬ ((splitP x).cls ≤ 2 ∧ (splitP y).cls ≤ 2) ∧ bits = 0 ∧ e = 30) ∨ (((splitP x).cls ≤ 2 ∧ (splitP y).cls ≤ 2) ∧ meanR [x, y] mode 0 0 bits e)))
set_option maxRecDepth 8000 in
set_option maxHeartbeats 1000000 in
theorem Middle_spec (x y : Nat) (mode : Int) (w : World) (hx : x < 18446744073709551616) (hy : y < 18446744073709551616) (hg : GW w) : Ret Tryz.prog 19 [.float .f64 x, .float .f64 y, .int .i64 mode] w fun u w' => (∃ bits e, u = .tuple [.float .f64 bits, .int .i64 e].toArray ∧ midR x y mode bits e) ∧ Chg [] w w' := by
 have hch : Chg [] w w := Chg.refl _ _
 have hg0 := hg
 refine Ret.enterD 37 hasF37 Tryz.func19 rfl rfl ?_
 simp only [args0, Nat.zero_add, Nat.reduceAdd]
 refine Sq fun _ kh1 _ kr2 => ?_
 refine WL.allocB (l := [.float .f64 0]) rfl rfl fun b6 wm6 hb6 hcm6 hge6 => ?_
 have hgehch6 := Nat.le_trans hch.size hge6
 have hch := hch.trans (Chg.any hcm6)
 refine WL.allocB (l := [.int .i64 0]) rfl rfl fun b7 wm7 hb7 hcm7 hge7 => ?_
 have hgehch7 := Nat.le_trans hch.size hge7
 have hch := hch.trans (Chg.any hcm7)
 have hneb67 : b6 ≠ b7 := by have := hb6.lt; omega
 have hb6 := hb6.keep0 hcm7
 refine WL.nil (kr2 _ _ _ (kh1 _ _ _ ?_))
 refine Sq fun _ kh3 _ kr4 => ?_
 refine WL.defer rfl ?_
 refine WL.nil (kr4 _ _ _ (kh3 _ _ _ ?_))
 refine CW.seq fun _ kh5 => ?_
 refine Sq fun _ kh6 _ kr7 => ?_
 refine Mv rfl rfl ?_
 refine WL.call hasF38 rfl rfl (right_spec mode _) fun v w1 h' => ?_
 obtain ⟨rfl, rfl⟩ := h'
 refine WL.ev (Ev.not rfl) rfl ?_
 refine WL.nil (kr7 _ _ _ (kh6 _ _ _ ?_))
 refine CW.cond rfl (fun hc1 => ?_) (fun hc1 => ?_)
 ·
  try simp only [qs] at hc1
  have hmode : ¬ (0 ≤ mode ∧ mode ≤ 4) := by simpa using hc1
  refine Sq fun _ kh8 _ kr9 => ?_
  refine WL.storeC rfl rfl (by first | rfl | assumption | exact NU.one (by assumption)) hb6 (by simp) rfl fun ws35 hb6_ hcs35 => ?_
  try simp only [Sx.splice, qt] at hb6_
  have hch := hch.s1 hcs35
  have hb7 := hb7.keep hcs35 (by simp; omega)
  have hb6 := hb6_
  refine WL.storeC rfl rfl (by first | rfl | assumption | exact NU.one (by assumption)) hb7 (by simp) rfl fun ws36 hb7_ hcs36 => ?_
  try simp only [Sx.splice, qt] at hb7_
  have hch := hch.s1 hcs36
  have hb6 := hb6.keep hcs36 (by simp; omega)
  have hb7 := hb7_
  refine WL.nil (kr9 _ _ _ (kh8 _ _ _ ?_))
  refine CW.ret ?_
  refine clean_door rfl rfl rfl hb6 hb7 hneb67 fun w9 hc9 => ?_
  have hch := hch.step hc9 (fun y hy => by simp only [List.mem_singleton] at hy; subst hy; exact .inr (by omega))
  exact ⟨⟨_, _, rfl, .inl ⟨hmode, rfl, rfl⟩⟩, hch⟩
 ·
  try simp only [qs] at hc1
  have hmode : 0 ≤ mode ∧ mode ≤ 4 := by simpa using hc1
  refine CW.skip ?_
  refine kh5 _ _ _ ?_
  refine CW.seq fun _ kh10 => ?_
  refine Sq fun _ kh11 _ kr12 => ?_
  refine Mv rfl rfl ?_
  refine WL.call hasF62 rfl rfl (Class_spec x _ hx) fun v w2 h' => ?_
  obtain ⟨rfl, hC12⟩ := h'
  have hch := hch.trans (Chg.any hC12)
  have hb6 := hb6.keep0 hC12
  have hb7 := hb7.keep0 hC12
  refine WL.ev (Ev.gtr rfl rfl) rfl ?_
  refine Mv rfl rfl ?_
  refine WL.boolCase (fun hg2 => ?_) (fun hg2 => ?_)
  ·
   try simp only [qs] at hg2
   have h1 : 2 < (splitP x).cls := by have := hg2; omega
   refine WL.pass rfl rfl rfl rfl rfl ?_
   refine WL.pass rfl rfl rfl rfl rfl ?_
   refine WL.pass rfl rfl rfl rfl rfl ?_
   refine WL.ev (Ev.pickT rfl rfl rfl) rfl ?_
   refine WL.nil (kr12 _ _ _ (kh11 _ _ _ ?_))
   refine CW.condT rfl ?_
   refine Sq fun _ kh13 _ kr14 => ?_
   refine WL.storeC rfl rfl (by first | rfl | assumption | exact NU.one (by assumption)) hb6 (by simp) rfl fun ws37 hb6_ hcs37 => ?_
   try simp only [Sx.splice, qt] at hb6_
   have hch := hch.s1 hcs37
   have hb7 := hb7.keep hcs37 (by simp; omega)
   have hb6 := hb6_
   refine WL.storeC rfl rfl (by first | rfl | assumption | exact NU.one (by assumption)) hb7 (by simp) rfl fun ws38 hb7_ hcs38 => ?_
   try simp only [Sx.splice, qt] at hb7_
   have hch := hch.s1 hcs38
   have hb6 := hb6.keep hcs38 (by simp; omega)
   have hb7 := hb7_
   refine WL.nil (kr14 _ _ _ (kh13 _ _ _ ?_))
   refine CW.ret ?_
   refine clean_door rfl rfl rfl hb6 hb7 hneb67 fun w9 hc9 => ?_
   have hch := hch.step hc9 (fun y hy => by simp only [List.mem_singleton] at hy; subst hy; exact .inr (by omega))
   exact ⟨⟨_, _, rfl, .inr ⟨hmode, .inl ⟨fun h => by have := h.1; omega, rfl, rfl⟩⟩⟩, hch⟩
  ·
   try simp only [qs] at hg2
   have h1 : (splitP x).cls ≤ 2 := by have := hg2; omega
   refine WL.want rfl rfl rfl rfl ?_
   refine Mv rfl rfl ?_
   refine WL.want rfl rfl rfl rfl ?_
   refine WL.call hasF62 rfl rfl (Class_spec y _ hy) fun v w3 h' => ?_
   obtain ⟨rfl, hC16⟩ := h'
   have hch := hch.trans (Chg.any hC16)
   have hb6 := hb6.keep0 hC16
   have hb7 := hb7.keep0 hC16
   refine WL.want rfl rfl rfl rfl ?_
   refine WL.ev (Ev.gtr rfl rfl) rfl ?_
   refine WL.ev (Ev.pickF rfl rfl rfl) rfl ?_
   refine WL.nil (kr12 _ _ _ (kh11 _ _ _ ?_))
   refine CW.cond rfl (fun hc3 => ?_) (fun hc3 => ?_)
   ·
    try simp only [qs] at hc3
    have h2 : 2 < (splitP y).cls := by have := hc3; omega
    refine Sq fun _ kh15 _ kr16 => ?_
    refine WL.storeC rfl rfl (by first | rfl | assumption | exact NU.one (by assumption)) hb6 (by simp) rfl fun ws39 hb6_ hcs39 => ?_
    try simp only [Sx.splice, qt] at hb6_
    have hch := hch.s1 hcs39
    have hb7 := hb7.keep hcs39 (by simp; omega)
    have hb6 := hb6_
    refine WL.storeC rfl rfl (by first | rfl | assumption | exact NU.one (by assumption)) hb7 (by simp) rfl fun ws40 hb7_ hcs40 => ?_
    try simp only [Sx.splice, qt] at hb7_
    have hch := hch.s1 hcs40
    have hb6 := hb6.keep hcs40 (by simp; omega)
    have hb7 := hb7_
    refine WL.nil (kr16 _ _ _ (kh15 _ _ _ ?_))
    refine CW.ret ?_
    refine clean_door rfl rfl rfl hb6 hb7 hneb67 fun w9 hc9 => ?_
    have hch := hch.step hc9 (fun y hy => by simp only [List.mem_singleton] at hy; subst hy; exact .inr (by omega))
    exact ⟨⟨_, _, rfl, .inr ⟨hmode, .inl ⟨fun h => by have := h.2; omega, rfl, rfl⟩⟩⟩, hch⟩
   ·
    try simp only [qs] at hc3
    have h2 : (splitP y).cls ≤ 2 := by have := hc3; omega
    refine CW.skip ?_
    refine kh10 _ _ _ ?_
    refine Sq fun _ kh17 _ kr18 => ?_
    refine Mv rfl rfl ?_
    refine Mv rfl rfl ?_
    refine WL.buildSlice (m := 2) (cs := [f64v (x), f64v (y)]) (by decide) (by decide) rfl (by kernel_rfl) rfl fun b21 w21 hn21 => ?_
    have hcm21 := hn21.chg
    have hge21 := hn21.ge
    have hb21 : FB w21 b21 _ [x, y] := hn21.at_
    have hgehch21 := Nat.le_trans hch.size hge21
    have hch := hch.trans (Chg.any hcm21)
    have hneb621 : b6 ≠ b21 := by have := hb6.lt; omega
    have hb6 := hb6.keep0 hcm21
    have hneb721 : b7 ≠ b21 := by have := hb7.lt; omega
    have hb7 := hb7.keep0 hcm21
    refine Mv rfl rfl ?_
    refine WL.call hasF63 rfl rfl (Plain_spec _) fun v w4 h' => ?_
    obtain ⟨rfl, hC23⟩ := h'
    have hch := hch.trans (Chg.any hC23)
    have hb6 := hb6.keep0 hC23
    have hb7 := hb7.keep0 hC23
    have hb21 := hb21.keep0 hC23
    refine WL.call hasF13 rfl rfl (Mean_spec _ [x, y] mode 0 0 _ (NF.of_row hb21.row (by intro z hz; simp at hz; rcases hz with rfl | rfl <;> assumption) (by simp) rfl (by simp)) (hg0.keep0 hch)) fun v w5 h' => ?_
    obtain ⟨⟨bits, e, rfl, hM⟩, hC24⟩ := h'
    have hch := hch.trans (Chg.any hC24)
    have hb6 := hb6.keep0 hC24
    have hb7 := hb7.keep0 hC24
    have hb21 := hb21.keep0 hC24
    refine WL.ev (Ev.extract rfl rfl) rfl ?_
    refine WL.ev (Ev.extract rfl rfl) rfl ?_
    refine WL.storeC rfl rfl (by first | rfl | assumption | exact NU.one (by assumption)) hb6 (by simp) rfl fun ws41 hb6_ hcs41 => ?_
    try simp only [Sx.splice, qt] at hb6_
    have hch := hch.s1 hcs41
    have hb7 := hb7.keep hcs41 (by simp; omega)
    have hb21 := hb21.keep hcs41 (by simp; omega)
    have hb6 := hb6_
    refine WL.storeC rfl rfl (by first | rfl | assumption | exact NU.one (by assumption)) hb7 (by simp) rfl fun ws42 hb7_ hcs42 => ?_
    try simp only [Sx.splice, qt] at hb7_
    have hch := hch.s1 hcs42
    have hb6 := hb6.keep hcs42 (by simp; omega)
    have hb21 := hb21.keep hcs42 (by simp; omega)
    have hb7 := hb7_
    refine WL.nil (kr18 _ _ _ (kh17 _ _ _ ?_))
    refine CW.ret ?_
    refine clean_door rfl rfl rfl hb6 hb7 hneb67 fun w9 hc9 => ?_
    have hch := hch.step hc9 (fun y hy => by simp only [List.mem_singleton] at hy; subst hy; exact .inr (by omega))
    refine ⟨⟨_, _, rfl, .inr ⟨hmode, .inr ⟨⟨h1, h2⟩, ?_⟩⟩⟩, hch⟩
    rw [hM.err]; exact hM

end Go.Proofs.YtkkklaodligpdaaGreatDoor

/- Means as plain numbers: what told and Weighted come to; the values that the statements ask. No condition. -/
namespace Go.Proofs.YtkkklaodligpdaaGreatDoor
open Go Sx Wd
set_option exponentiation.threshold 9000

theorem sgD_one (n : Nat) (neg : Bool) (h : n ≠ 0) (hn : neg = false) : sgD neg n = 1 := by unfold sgD; rw [if_neg h, hn]; rfl
theorem intD_form {n : Nat} (h0 : n ≠ 0) (hn : n < 18446744073709551616) : ∃ t : Nat, n = (intD (n : Int)).m * 2 ^ t ∧ (intD (n : Int)).e = t ∧ (intD (n : Int)).neg = false := by
  have h := intD_eq (n := (n : Int)) (by omega)
  rw [show decide ((n : Int) < 0) = false from decide_eq_false (by omega), Int.natAbs_natCast] at h
  obtain ⟨t, h1, h2, h3⟩ := formD_val h h0
  exact ⟨t, h1, by omega, h3⟩
/-- The exact sum S (in units of 2^-2148) through n, rounded. -/
def MeanQ (S : Int) (n : Nat) (mode : Int) (bits : Nat) : Prop :=
  ∃ r, IsNear S.natAbs (n * 2 ^ 1073) (decide (S < 0)) mode r ∧ r ≤ 9218868437227405312 ∧ bits = (if S < 0 then r + 9223372036854775808 else r)
/-- A ratio of forms by what they were made of. -/
theorem near_forms {x y : Nat} {ex ey : Int} {s t : Nat} {A B : Nat} {neg : Bool} {mode : Int} {r : Nat} {u v : Nat} (hy : y ≠ 0) (hA : A = x * 2 ^ s * 2 ^ u) (hB : B = y * 2 ^ t * 2 ^ v) (he : ex - ey + 1075 + (t : Int) + (v : Int) = (s : Int) + (u : Int)) :
    IsNear (dyA x (ex - ey)) (y * dyB (ex - ey)) neg mode r ↔ IsNear A B neg mode r := by
  have hB0 : 0 < B := by rw [hB]; exact Nat.mul_pos (Nat.mul_pos (by omega) (Nat.two_pow_pos _)) (Nat.two_pow_pos _)
  have hD0 : 0 < y * dyB (ex - ey) := Nat.mul_pos (by omega) (dyB_pos _)
  have hv : dyA x (ex - ey) * B = A * (y * dyB (ex - ey)) := by
    rw [hA, hB]
    unfold dyA dyB
    have e : (ex - ey + 1075).toNat + t + v = s + u + (-(ex - ey + 1075)).toNat := by omega
    calc x * 2 ^ (ex - ey + 1075).toNat * (y * 2 ^ t * 2 ^ v) = x * y * (2 ^ (ex - ey + 1075).toNat * 2 ^ t * 2 ^ v) := by ac_rfl
      _ = x * y * (2 ^ s * 2 ^ u * 2 ^ (-(ex - ey + 1075)).toNat) := by rw [← Nat.pow_add, ← Nat.pow_add, e, Nat.pow_add, Nat.pow_add]
      _ = _ := by ac_rfl
  exact ⟨fun h => h.congr hD0 hB0 hv, fun h => h.congr hB0 hD0 hv.symm⟩
theorem quot_sum {S : Int} {n : Nat} {mode : Int} {bits : Nat} {e : Int} (h1 : -((16384 * BB : Nat) : Int) < S) (h2 : S < (16384 * BB : Nat)) (hS : S ≠ 0) (hn : n ≠ 0) (hn2 : n ≤ 1099511627776) (hm : 0 ≤ mode ∧ mode ≤ 4)
    (h : QuotP (sumD S).neg (intD n).neg (sumD S).m (intD n).m (sumD S).e (intD n).e mode bits e) : e = 0 ∧ MeanQ S n mode bits := by
  have hokS := sumD_ok h1 h2
  have hokN := intD_ok (n := (n : Int)) (by omega)
  obtain ⟨t, q1, q2, q3⟩ := intD_form hn (by omega)
  have hm0 : (intD (n : Int)).m ≠ 0 := fun e => by rw [e, Nat.zero_mul] at q1; exact hn q1
  have hsg := sgD_one (intD (n : Int)).m (intD (n : Int)).neg hm0 q3
  have hf1 := formD_self hokS
  have hf2 := formD_self hokN
  have hform := sumD_form h1 h2 hS
  have htz := (tz_spec (n := S.natAbs) (by omega)).2
  rcases h with ⟨hh, _⟩ | ⟨_, ⟨hh, _⟩ | ⟨_, hh, _⟩ | ⟨_, x, y, hx, hy, ⟨hh, _⟩ | ⟨hy0, r, hN, hr, hb, he⟩⟩⟩
  · exact absurd hm hh
  · rw [hsg] at hh; exact absurd hh (by decide)
  · rw [hf1, hf2] at hh; rcases hh with hh | hh <;> cases hh
  · rw [hf2] at hy; cases hy; exact absurd hh hm0
  · rw [hf1] at hx; cases hx
    rw [hf2] at hy; cases hy
    have hneg : (sumD S).neg = decide (S < 0) := by rw [hform]
    have hmS : S.natAbs = (sumD S).m * 2 ^ tz S.natAbs := by rw [hform]; exact htz
    have heS : (sumD S).e = -2148 + tz S.natAbs := by rw [hform]
    rw [hneg] at hN hb
    refine ⟨he, r, (near_forms (s := tz S.natAbs) (t := t) (u := 0) (v := 1073) hy0 (A := S.natAbs) (B := n * 2 ^ 1073) (by rw [Nat.pow_zero, Nat.mul_one]; exact hmS) (by rw [← q1]) (by omega)).1 hN, hr, ?_⟩
    rw [hb]
    by_cases q : S < 0
    · simp [q]
    · simp [q]
/-- What told answers of a sum. -/
theorem told_sum {S : Int} {n : Nat} {s : SP} {mode : Int} {bits : Nat} {e : Int} (h1 : -((16384 * BB : Nat) : Int) < S) (h2 : S < (16384 * BB : Nat)) (hn : n ≠ 0) (hn2 : n ≤ 1099511627776) (hm : 0 ≤ mode ∧ mode ≤ 4)
    (h : toldR (sumD S) n s mode bits e) : e = 0 ∧ ((S = 0 ∧ bits = noughtP s mode) ∨ (S ≠ 0 ∧ MeanQ S n mode bits)) := by
  rcases h with ⟨hz, hb, he⟩ | ⟨hz, hq⟩
  · exact ⟨he, .inl ⟨(sumD_m0 h1 h2).1 hz, hb⟩⟩
  · have hS : S ≠ 0 := fun e => hz ((sumD_m0 h1 h2).2 e)
    obtain ⟨he, hM⟩ := quot_sum h1 h2 hS hn hn2 hm hq
    exact ⟨he, .inr ⟨hS, hM⟩⟩
theorem MeanQ.unique {S : Int} {n : Nat} {mode : Int} {b b' : Nat} (hn : n ≠ 0) (h : MeanQ S n mode b) (h' : MeanQ S n mode b') : b = b' := by
  obtain ⟨r, h1, _, rfl⟩ := h
  obtain ⟨r', h2, _, rfl⟩ := h'
  rw [h1.unique (Nat.mul_pos (by omega) (Nat.two_pow_pos _)) h2]
/-- Mean of a list of finite numbers. -/
theorem mean_fin {l : List Nat} {mode pn pi : Int} {bits : Nat} {e : Int} (h : meanR l mode pn pi bits e) (hm : 0 ≤ mode ∧ mode ≤ 4) (hs : siftE l pn pi = 0) (hv : verdP (cntP l) pn pi = none) (hf : filP l ≠ []) :
    e = 0 ∧ ((sumI (filP l) = 0 ∧ bits = noughtP (cntP l) mode) ∨ (sumI (filP l) ≠ 0 ∧ MeanQ (sumI (filP l)) (filP l).length mode bits)) := by
  have hl := (siftE_len hs).1
  have hfl := filP_le l
  have hin := sumI_in (l := filP l) (by omega)
  rcases h with ⟨hh, _⟩ | ⟨_, ⟨hh, _⟩ | ⟨_, ⟨hh, _⟩ | ⟨_, ⟨hh, _⟩ | ⟨_, hT⟩⟩⟩⟩
  · exact absurd hm hh
  · exact absurd hs hh
  · rw [hv] at hh; cases hh
  · exact absurd hh hf
  · exact told_sum hin.1 hin.2 (fun e => hf (List.length_eq_zero_iff.1 e)) (by omega) hm hT
/-- What a ratio of sums comes to. -/
theorem quo_sum {N W : Int} {mode : Int} {bits : Nat} {e : Int} (h1 : -((16384 * BB : Nat) : Int) < N) (h2 : N < (16384 * BB : Nat)) (h3 : 0 < W) (h4 : W < (16384 * BB : Nat)) (hm : 0 ≤ mode ∧ mode ≤ 4)
    (h : QuoD N W mode bits e) : e = 0 ∧ ∃ r, IsNear (N.natAbs * 2 ^ 1075) W.natAbs (decide (N < 0)) mode r ∧ r ≤ 9218868437227405312 ∧ bits = (if N < 0 then r + 9223372036854775808 else r) := by
  have hW : -((16384 * BB : Nat) : Int) < W := by omega
  have hokN := sumD_ok h1 h2
  have hokW := sumD_ok hW h4
  have hsg := sumD_sg hW h4
  rw [if_neg (by omega), if_neg (by omega)] at hsg
  have hm0 : (sumD W).m ≠ 0 := fun e => by have := (sumD_m0 hW h4).1 e; omega
  have hf1 := formD_self hokN
  have hf2 := formD_self hokW
  have hformW := sumD_form hW h4 (by omega)
  have htzW := (tz_spec (n := W.natAbs) (by omega)).2
  have hmW : W.natAbs = (sumD W).m * 2 ^ tz W.natAbs := by rw [hformW]; exact htzW
  have heW : (sumD W).e = -2148 + tz W.natAbs := by rw [hformW]
  unfold QuoD at h
  rcases h with ⟨hh, _⟩ | ⟨_, ⟨hh, _⟩ | ⟨_, hh, _⟩ | ⟨_, x, y, hx, hy, ⟨hh, _⟩ | ⟨hy0, r, hN, hr, hb, he⟩⟩⟩
  · exact absurd hm hh
  · rw [hsg] at hh; exact absurd hh (by decide)
  · rw [hf1, hf2] at hh; rcases hh with hh | hh <;> cases hh
  · rw [hf2] at hy; cases hy; exact absurd hh hm0
  · rw [hf1] at hx; cases hx
    rw [hf2] at hy; cases hy
    refine ⟨he, r, ?_, hr, ?_⟩
    · by_cases hN0 : N = 0
      · subst hN0
        have e1 : dyA (sumD 0).m ((sumD 0).e - (sumD W).e) = 0 := by unfold dyA; rw [sumD_zero]; simp [Dy.zero]
        rw [e1] at hN
        have : r = 0 := hN.unique (Nat.mul_pos (by omega) (dyB_pos _)) (near_zero (Nat.mul_pos (by omega) (dyB_pos _)) _ _)
        subst this
        simp only [Int.natAbs_zero, Nat.zero_mul]
        exact near_zero (by omega) _ _
      · have hform := sumD_form h1 h2 hN0
        have htz := (tz_spec (n := N.natAbs) (by omega)).2
        have hneg : (sumD N).neg = decide (N < 0) := by rw [hform]
        have hmN : N.natAbs = (sumD N).m * 2 ^ tz N.natAbs := by rw [hform]; exact htz
        have heN : (sumD N).e = -2148 + tz N.natAbs := by rw [hform]
        rw [hneg] at hN
        exact (near_forms (s := tz N.natAbs) (t := tz W.natAbs) (u := 1075) (v := 0) hy0 (A := N.natAbs * 2 ^ 1075) (B := W.natAbs) (by rw [← hmN]) (by rw [Nat.pow_zero, Nat.mul_one]; exact hmW) (by omega)).1 hN
    · rw [hb]
      by_cases hN0 : N = 0
      · subst hN0; rfl
      · rw [sumD_form h1 h2 hN0]
        by_cases q : N < 0
        · simp [q]
        · simp [q]
/-- A value that is the number r. -/
theorem near_is {A B : Nat} {neg : Bool} {mode : Int} {r : Nat} (hr : r < 9218868437227405312) (hB : 0 < B) (h : 2 * nz r * B = A) : IsNear A B neg mode r :=
  ⟨r, hr, Nat.le_of_eq h, .inl (by have := nz_lt_succ r; rw [← h]; exact Nat.mul_lt_mul_of_pos_right (by omega) hB), by rw [if_pos h]⟩
end Go.Proofs.YtkkklaodligpdaaGreatDoor

/- The order of finite numbers, by their values; the least and the greatest of two. No condition. -/
namespace Go.Proofs.YtkkklaodligpdaaGreatDoor
open Go Sx Wd
set_option exponentiation.threshold 9000
set_option maxRecDepth 4000

section
variable {P : Program} {s : Sl} {w : World} {ty : TypeId} {x y : Operand} {t t' : TypeId} {a b : Nat}
end
end Go.Proofs.YtkkklaodligpdaaGreatDoor

/- Means of finite numbers: from the least to the greatest; of like numbers; signs turned. No condition. -/
namespace Go.Proofs.YtkkklaodligpdaaGreatDoor
open Go Sx Wd
set_option exponentiation.threshold 9000

end Go.Proofs.YtkkklaodligpdaaGreatDoor

/- Reference of layer 13: Told, finite. No condition. -/
namespace Go.Proofs.YtkkklaodligpdaaGreatDoor
open Go Sx Wd

theorem r13no_spec (e : Int) (w : World) : Ret Tryz.prog 45 [.int .i64 e] w fun u w' => u = .tuple [.float .f64 0, .int .i64 e].toArray ∧ w = w' := by
 refine Ret.enter Tryz.func45 rfl rfl ?_
 simp only [args0, Nat.zero_add, Nat.reduceAdd]
 refine Sq fun _ kh1 _ kr2 => ?_
 refine As rfl rfl ?_
 refine As rfl rfl ?_
 refine WL.nil (kr2 _ _ _ (kh1 _ _ _ ?_))
 refine Sq fun _ kh3 _ kr4 => ?_
 refine WL.call hasF36 rfl rfl (r1Of_spec 0 _ (by omega)) fun v w1 h' => ?_
 obtain ⟨rfl, rfl⟩ := h'
 refine Mv rfl rfl ?_
 refine As rfl rfl ?_
 refine As rfl rfl ?_
 refine WL.nil (kr4 _ _ _ (kh3 _ _ _ ?_))
 refine CW.ret ?_
 refine bodyA.ret2 rfl rfl rfl ?_
 exact ⟨rfl, rfl⟩

structure KFn (l : List Nat) (w0 : World) (i : Nat) (w : World) : Prop where
  hi : i ≤ l.length
  f : finL (l.take i)
  ch : Chg [] w0 w

set_option maxRecDepth 8000 in
set_option maxHeartbeats 2000000 in
theorem r13finite_spec (v : Value) (l : List Nat) (w : World) (hv : NF w v l) : Ret Tryz.prog 56 [v] w fun u w' => u = .bool (decide (finL l)) ∧ Chg [] w w' := by
 obtain ⟨⟨al, cl, rfl, hcapl, hrl⟩, hWl, hll⟩ := hv
 have hch : Chg [] w w := Chg.refl _ _
 refine Ret.enter Tryz.func56 rfl rfl ?_
 simp only [args0, Nat.zero_add, Nat.reduceAdd]
 refine Sq fun _ kh1 _ kr2 => ?_
 refine As rfl rfl ?_
 refine WL.nil (kr2 _ _ _ (kh1 _ _ _ ?_))
 refine CW.seq fun _ kh3 => ?_
 refine Sq fun _ kh4 _ kr5 => ?_
 refine As rfl rfl ?_
 refine WL.nil (kr5 _ _ _ (kh4 _ _ _ ?_))
 refine CW.block ?_
 refine CW.loop (S := fun i : Nat => [(0, .slice al l.length cl), (3, .int .i64 (i : Int))]) (Inv := KFn l w) (mu := fun i => l.length - i) (0) ?_ ?_ ?_
 ·
  exact ⟨Nat.zero_le _, fun x hx => by simp at hx, hch⟩
 ·
  repeat (first | exact Subs.nil | refine Subs.cons rfl ?_ | refine Subs.consI rfl (by omega) ?_)
 ·
  rintro i wr ⟨hi, hf, hch⟩
  refine CW.seq fun _ kh6 => ?_
  refine Sq fun _ kh7 _ kr8 => ?_
  refine Mv rfl rfl ?_
  refine Mv rfl rfl ?_
  refine WL.ev (Ev.len rfl) rfl ?_
  refine WL.ev (Ev.lss rfl rfl) rfl ?_
  refine WL.nil (kr8 _ _ _ (kh7 _ _ _ ?_))
  refine CW.cond rfl (fun hc1 => ?_) (fun hc1 => ?_)
  ·
   try simp only [qs] at hc1
   have hx := D_getD hWl i
   refine CW.skip ?_
   refine kh6 _ _ _ ?_
   refine CW.seq fun _ kh9 => ?_
   refine CW.block ?_
   refine Sq fun _ kh10 _ kr11 => ?_
   refine Mv rfl rfl ?_
   refine Mv rfl rfl ?_
   refine WL.ev (Ev.ixR (i) rfl rfl (hrl.keep0 hch) (by omega) (by omega) (by simp; omega)) rfl ?_
   refine WL.ev (Ev.load rfl rfl ((hrl.keep0 hch).f64 (by first | omega | (simp; omega)))) rfl ?_
   refine WL.call hasF110 rfl rfl (r1Class_spec (l.getD i 0) _ hx) fun v w1 h' => ?_
   obtain ⟨rfl, hC⟩ := h'
   have hch := hch.trans (Chg.any hC)
   refine WL.ev (Ev.gtr rfl rfl) rfl ?_
   refine WL.nil (kr11 _ _ _ (kh10 _ _ _ ?_))
   refine CW.cond rfl (fun hc2 => ?_) (fun hc2 => ?_)
   ·
    try simp only [qs] at hc2
    refine Sq fun _ kh12 _ kr13 => ?_
    refine As rfl rfl ?_
    refine WL.nil (kr13 _ _ _ (kh12 _ _ _ ?_))
    refine CW.ret ?_
    refine bodyA.ret1 rfl rfl ?_
    refine ⟨?_, hch⟩
    rw [decide_eq_false]
    intro q
    have := q (l.getD i 0) (by rw [List.getD_eq_getElem?_getD, List.getElem?_eq_getElem (by omega)]; exact List.getElem_mem _)
    omega
   ·
    try simp only [qs] at hc2
    refine CW.skip ?_
    refine kh9 _ _ _ ?_
    refine CW.region fun kR14 kr14 => ?_
    refine Mv rfl rfl ?_
    first | refine WL.ev (Ev.addIn rfl rfl (by omega)) rfl ?_ | refine WL.ev (Ev.add rfl rfl) rfl ?_
    refine As rfl rfl ?_
    refine WL.nil (kr14 _ _ _ ?_)
    refine ⟨rfl, i + 1, ?_, ?_, ?_⟩
    ·
     repeat (first | exact Subs.nil | refine Subs.cons rfl ?_ | refine Subs.consI rfl (by omega) ?_)
    ·
     exact ⟨by omega, (finL_step (by omega)).2 ⟨hf, by omega⟩, hch⟩
    ·
     show l.length - (i + 1) < l.length - i; omega
  ·
   try simp only [qs] at hc1
   have hiX : i = l.length := by omega
   subst hiX
   rw [List.take_length] at hf
   refine CW.exit ?_
   refine kh3 _ _ _ ?_
   refine Sq fun _ kh15 _ kr16 => ?_
   refine As rfl rfl ?_
   refine WL.nil (kr16 _ _ _ (kh15 _ _ _ ?_))
   refine CW.ret ?_
   refine bodyA.ret1 rfl rfl ?_
   rw [decide_eq_true hf]
   exact ⟨rfl, hch⟩

end Go.Proofs.YtkkklaodligpdaaGreatDoor

/- Reference of layer 13: Mean. No condition. -/
namespace Go.Proofs.YtkkklaodligpdaaGreatDoor
open Go Sx Wd

end Go.Proofs.YtkkklaodligpdaaGreatDoor

/- Reference of layer 13: Middle, Of. No condition. -/
namespace Go.Proofs.YtkkklaodligpdaaGreatDoor
open Go Sx Wd

end Go.Proofs.YtkkklaodligpdaaGreatDoor

/- What the laws compare is determined: each answer is the only one. No condition. -/
namespace Go.Proofs.YtkkklaodligpdaaGreatDoor
open Go Sx Wd

theorem quot_unique {nn nd : Bool} {ln ld : Nat} {en ed mode : Int} {b b' : Nat} {e e' : Int} (h : QuotP nn nd ln ld en ed mode b e) (h' : QuotP nn nd ln ld en ed mode b' e') : b = b' ∧ e = e' := by
  rcases h with ⟨a, b1, e1⟩ | ⟨a, h⟩ <;> rcases h' with ⟨a', b2, e2⟩ | ⟨a', h'⟩
  · exact ⟨b1.trans b2.symm, e1.trans e2.symm⟩
  · exact absurd a' a
  · exact absurd a a'
  · rcases h with ⟨s, b1, e1⟩ | ⟨s, n, b1, e1⟩ | ⟨s, x, y, hx, hy, h⟩ <;> rcases h' with ⟨s', b2, e2⟩ | ⟨s', n', b2, e2⟩ | ⟨s', x', y', hx', hy', h'⟩
    · exact ⟨b1.trans b2.symm, e1.trans e2.symm⟩
    · omega
    · omega
    · omega
    · exact ⟨b1.trans b2.symm, e1.trans e2.symm⟩
    · rcases n with n | n
      · rw [hx'] at n; cases n
      · rw [hy'] at n; cases n
    · omega
    · rcases n' with n | n
      · rw [hx] at n; cases n
      · rw [hy] at n; cases n
    · rw [hx] at hx'; cases hx'
      rw [hy] at hy'; cases hy'
      rcases h with ⟨z, b1, e1⟩ | ⟨z, r, N, _, b1, e1⟩ <;> rcases h' with ⟨z', b2, e2⟩ | ⟨z', r', N', _, b2, e2⟩
      · exact ⟨b1.trans b2.symm, e1.trans e2.symm⟩
      · exact absurd z z'
      · exact absurd z' z
      · have := N.unique (Nat.mul_pos (by omega) (dyB_pos _)) N'
        subst this
        exact ⟨b1.trans b2.symm, e1.trans e2.symm⟩
theorem wt_unique {l k : List Nat} {mode : Int} {b b' : Nat} {e e' : Int} (h : wtR l k mode b e) (h' : wtR l k mode b' e') : b = b' ∧ e = e' := by
  rcases h with ⟨a, b1, e1⟩ | ⟨a, h⟩ <;> rcases h' with ⟨a', b2, e2⟩ | ⟨a', h'⟩
  · exact ⟨b1.trans b2.symm, e1.trans e2.symm⟩
  · exact absurd a' a
  · exact absurd a a'
  · rcases h with ⟨s, b1, e1⟩ | ⟨s, h⟩ <;> rcases h' with ⟨s', b2, e2⟩ | ⟨s', h'⟩
    · exact ⟨b1.trans b2.symm, e1.trans e2.symm⟩
    · exact absurd s s'
    · exact absurd s' s
    · rcases h with ⟨s, b1, e1⟩ | ⟨s, h⟩ <;> rcases h' with ⟨s', b2, e2⟩ | ⟨s', h'⟩
      · exact ⟨b1.trans b2.symm, e1.trans e2.symm⟩
      · exact absurd s' s
      · exact absurd s s'
      · rcases h with ⟨s, b1, e1⟩ | ⟨s, h⟩ <;> rcases h' with ⟨s', b2, e2⟩ | ⟨s', h'⟩
        · exact ⟨b1.trans b2.symm, e1.trans e2.symm⟩
        · exact absurd s' s
        · exact absurd s s'
        · rcases h with ⟨s, b1, e1⟩ | ⟨s, h⟩ <;> rcases h' with ⟨s', b2, e2⟩ | ⟨s', h'⟩
          · exact ⟨b1.trans b2.symm, e1.trans e2.symm⟩
          · exact absurd s s'
          · exact absurd s' s
          · exact quot_unique h h'
end Go.Proofs.YtkkklaodligpdaaGreatDoor

/- The numbers that every statement on means asks first. No condition. -/
namespace Go.Proofs.YtkkklaodligpdaaGreatDoor
open Go Sx Wd
set_option exponentiation.threshold 9000

def lv1 : List Nat := [4607182418800017408, 4611686018427387904, 4618441417868443648]
def lv2 : List Nat := [4607182418800017408, 4611686018427387904]
def lv3 : List Nat := [4607182418800017408, 4613937818241073152]
theorem lv1_fil : filP lv1 = lv1 := by decide +kernel
theorem lv2_fil : filP lv2 = lv2 := by decide +kernel
theorem lv1_sum : sumI lv1 = (9 * 2 ^ 2148 : Nat) := by decide +kernel
theorem lv2_sum : sumI lv2 = (3 * 2 ^ 2148 : Nat) := by decide +kernel
theorem lv3_sum : sumI lv3 = (4 * 2 ^ 2148 : Nat) := by decide +kernel
theorem lv23_prod : sumP lv2 lv3 = (7 * 2 ^ 2148 : Nat) := by decide +kernel
theorem p2148 : (0 : Int) < ((2 ^ 2148 : Nat) : Int) := by have := Nat.two_pow_pos 2148; omega
theorem meanQ_of {S n r : Nat} {mode : Int} {bits : Nat} (hn : n ≠ 0) (hr : r < 9218868437227405312) (h : 2 * nz r * (n * 2 ^ 1073) = S) (hM : MeanQ (S : Int) n mode bits) : bits = r := by
  obtain ⟨r', h1, _, hb⟩ := hM
  rw [if_neg (by omega)] at hb
  rw [hb]
  rw [Int.natAbs_natCast] at h1
  exact h1.unique (Nat.mul_pos (by omega) (Nat.two_pow_pos _)) (near_is hr (Nat.mul_pos (by omega) (Nat.two_pow_pos _)) h)
theorem live_mean {bits : Nat} {e : Int} (h : meanR lv1 0 0 0 bits e) : bits = 4613937818241073152 ∧ e = 0 := by
  obtain ⟨he, hh⟩ := mean_fin h (by decide) (by decide +kernel) (by decide +kernel) (by rw [lv1_fil]; decide)
  rw [lv1_fil, lv1_sum] at hh
  rcases hh with ⟨hz, _⟩ | ⟨_, hM⟩
  · have := p2148; exact absurd hz (by rw [Int.natCast_mul]; omega)
  · exact ⟨meanQ_of (by decide) (by decide) (by decide +kernel) hM, he⟩
theorem live_mid {bits : Nat} {e : Int} (h : midR 4607182418800017408 4611686018427387904 0 bits e) : bits = 4609434218613702656 ∧ e = 0 := by
  rcases h with ⟨hh, _⟩ | ⟨_, ⟨hh, _⟩ | ⟨_, h⟩⟩
  · exact absurd (by decide) hh
  · exact absurd (by decide +kernel) hh
  obtain ⟨he, hh⟩ := mean_fin (l := lv2) h (by decide) (by decide +kernel) (by decide +kernel) (by rw [lv2_fil]; decide)
  rw [lv2_fil, lv2_sum] at hh
  rcases hh with ⟨hz, _⟩ | ⟨_, hM⟩
  · have := p2148; exact absurd hz (by rw [Int.natCast_mul]; omega)
  · exact ⟨meanQ_of (by decide) (by decide) (by decide +kernel) hM, he⟩
theorem lv_in {a : Nat} (h : a ≤ 16) : ((a * 2 ^ 2148 : Nat) : Int) < (16384 * BB : Nat) := by
  rw [BB_pow]
  have : a * 2 ^ 2148 < 2 ^ 4238 := by
    have h1 : a * 2 ^ 2148 ≤ 2 ^ 4 * 2 ^ 2148 := Nat.mul_le_mul_right _ h
    rw [← Nat.pow_add] at h1
    exact Nat.lt_of_le_of_lt h1 (Nat.pow_lt_pow_right (by decide) (by decide))
  omega
theorem live_wt {bits : Nat} {e : Int} (h : wtR lv2 lv3 0 bits e) : bits = 4610560118520545280 ∧ e = 0 := by
  have hp := p2148
  rcases h with ⟨hh, _⟩ | ⟨_, ⟨hh, _⟩ | ⟨_, ⟨hh, _⟩ | ⟨_, ⟨hh, _⟩ | ⟨_, ⟨hh, _⟩ | ⟨_, h⟩⟩⟩⟩⟩
  · exact absurd (by decide) hh
  · exact absurd hh (by decide)
  · exact absurd rfl hh
  · exact absurd (by decide +kernel) hh
  · cases hh
  rw [lv3_sum, lv23_prod, if_neg (by rw [Int.natCast_mul]; omega), if_neg (by rw [Int.natCast_mul]; omega)] at h
  have i7 := lv_in (a := 7) (by decide)
  have i4 := lv_in (a := 4) (by decide)
  obtain ⟨he, r, hN, hr, hb⟩ := quo_sum (by have := BB_pos; omega) i7 (by rw [Int.natCast_mul]; omega) i4 (by decide) h
  refine ⟨?_, he⟩
  rw [if_neg (by rw [Int.natCast_mul]; omega)] at hb
  rw [hb]
  rw [Int.natAbs_natCast, Int.natAbs_natCast] at hN
  have hB : 0 < 4 * 2 ^ 2148 := Nat.mul_pos (by decide) (Nat.two_pow_pos _)
  exact hN.unique hB (near_is (by decide) hB (by decide +kernel))
end Go.Proofs.YtkkklaodligpdaaGreatDoor

/- Package steelyardlaw13: live, exact. No condition. -/
namespace Go.Proofs.YtkkklaodligpdaaGreatDoor
open Go Sx Wd
set_option exponentiation.threshold 5000

theorem exact_spec (x y : Nat) (w : World) : Ret Tryz.prog 16 [.float .f64 x, .float .f64 y] w fun u w' => u = .bool (decide (x = y)) ∧ w = w' := by
 refine Ret.enter Tryz.func16 rfl rfl ?_
 simp only [args0, Nat.zero_add, Nat.reduceAdd]
 refine Sq fun _ kh1 _ kr2 => ?_
 refine As rfl rfl ?_
 refine WL.nil (kr2 _ _ _ (kh1 _ _ _ ?_))
 refine Sq fun _ kh3 _ kr4 => ?_
 refine Mv rfl rfl ?_
 refine WL.ev (Ev.ext rfl (ext50 _ _)) rfl ?_
 refine Mv rfl rfl ?_
 refine WL.ev (Ev.ext rfl (ext50 _ _)) rfl ?_
 refine WL.ev (Ev.eql rfl rfl) rfl ?_
 refine As rfl rfl ?_
 refine WL.nil (kr4 _ _ _ (kh3 _ _ _ ?_))
 refine CW.ret ?_
 refine bodyA.ret1 rfl rfl ?_
 refine ⟨congrArg Value.bool (decide_eq_decide.2 (by omega)), rfl⟩

set_option maxRecDepth 8000 in
theorem live_spec (w : World) (hg : GW w) : Ret Tryz.prog 11 [] w fun u w' => u = .bool true ∧ Chg [] w w' := by
 have hch : Chg [] w w := Chg.refl _ _
 have hg0 := hg
 refine Ret.enter Tryz.func11 rfl rfl ?_
 simp only [args0, Nat.zero_add, Nat.reduceAdd]
 refine Sq fun _ kh1 _ kr2 => ?_
 refine As rfl rfl ?_
 refine WL.nil (kr2 _ _ _ (kh1 _ _ _ ?_))
 refine Sq fun _ kh3 _ kr4 => ?_
 refine WL.buildSlice (m := 3) (cs := [f64v (4607182418800017408), f64v (4611686018427387904), f64v (4618441417868443648)]) (by decide) (by decide) rfl (by kernel_rfl) rfl fun b8 w8 hn8 => ?_
 have hcm8 := hn8.chg
 have hge8 := hn8.ge
 have hb8 : FB w8 b8 _ [4607182418800017408, 4611686018427387904, 4618441417868443648] := hn8.at_
 have hgehch8 := Nat.le_trans hch.size hge8
 have hch := hch.trans (Chg.any hcm8)
 refine WL.ev (Ev.build (vs := _) (cs := [_, _]) rfl rfl) rfl ?_
 refine WL.call hasF13 rfl rfl (Mean_spec _ lv1 0 0 0 _ (NF.of_row hb8.row (by decide) (by decide) rfl (by decide)) (hg0.keep0 hch)) fun v w1 h' => ?_
 obtain ⟨⟨bits, e, rfl, hM⟩, hC10⟩ := h'
 obtain ⟨rfl, rfl⟩ := live_mean hM
 have hch := hch.trans (Chg.any hC10)
 have hb8 := hb8.keep0 hC10
 refine Mv rfl rfl ?_
 refine WL.ev (Ev.extract rfl rfl) rfl ?_
 refine WL.ev (Ev.extract rfl rfl) rfl ?_
 refine As rfl rfl ?_
 refine As rfl rfl ?_
 refine WL.nil (kr4 _ _ _ (kh3 _ _ _ ?_))
 refine Sq fun _ kh5 _ kr6 => ?_
 refine WL.buildSlice (m := 2) (cs := [f64v (4607182418800017408), f64v (4611686018427387904)]) (by decide) (by decide) rfl (by kernel_rfl) rfl fun b14 w14 hn14 => ?_
 have hcm14 := hn14.chg
 have hge14 := hn14.ge
 have hb14 : FB w14 b14 _ [4607182418800017408, 4611686018427387904] := hn14.at_
 have hgehch14 := Nat.le_trans hch.size hge14
 have hch := hch.trans (Chg.any hcm14)
 have hneb814 : b8 ≠ b14 := by have := hb8.lt; omega
 have hb8 := hb8.keep0 hcm14
 refine WL.buildSlice (m := 2) (cs := [f64v (4607182418800017408), f64v (4613937818241073152)]) (by decide) (by decide) rfl (by kernel_rfl) rfl fun b15 w15 hn15 => ?_
 have hcm15 := hn15.chg
 have hge15 := hn15.ge
 have hb15 : FB w15 b15 _ [4607182418800017408, 4613937818241073152] := hn15.at_
 have hgehch15 := Nat.le_trans hch.size hge15
 have hch := hch.trans (Chg.any hcm15)
 have hneb815 : b8 ≠ b15 := by have := hb8.lt; omega
 have hb8 := hb8.keep0 hcm15
 have hneb1415 : b14 ≠ b15 := by have := hb14.lt; omega
 have hb14 := hb14.keep0 hcm15
 refine WL.call hasF17 rfl rfl (Weighted_spec _ _ lv2 lv3 0 _ (NF.of_row hb14.row (by decide) (by decide) rfl (by decide)) (NF.of_row hb15.row (by decide) (by decide) rfl (by decide)) (hg0.keep0 hch)) fun v w2 h' => ?_
 obtain ⟨⟨bits, e, rfl, hM⟩, hC16⟩ := h'
 obtain ⟨rfl, rfl⟩ := live_wt hM
 have hch := hch.trans (Chg.any hC16)
 have hb8 := hb8.keep0 hC16
 have hb14 := hb14.keep0 hC16
 have hb15 := hb15.keep0 hC16
 refine Mv rfl rfl ?_
 refine WL.ev (Ev.extract rfl rfl) rfl ?_
 refine WL.ev (Ev.extract rfl rfl) rfl ?_
 refine As rfl rfl ?_
 refine As rfl rfl ?_
 refine WL.nil (kr6 _ _ _ (kh5 _ _ _ ?_))
 refine Sq fun _ kh7 _ kr8 => ?_
 refine WL.call hasF19 rfl rfl (Middle_spec _ _ 0 _ (by decide) (by decide) (hg0.keep0 hch)) fun v w3 h' => ?_
 obtain ⟨⟨bits, e, rfl, hM⟩, hC20⟩ := h'
 obtain ⟨rfl, rfl⟩ := live_mid hM
 have hch := hch.trans (Chg.any hC20)
 have hb8 := hb8.keep0 hC20
 have hb14 := hb14.keep0 hC20
 have hb15 := hb15.keep0 hC20
 refine Mv rfl rfl ?_
 refine WL.ev (Ev.extract rfl rfl) rfl ?_
 refine WL.ev (Ev.extract rfl rfl) rfl ?_
 refine As rfl rfl ?_
 refine As rfl rfl ?_
 refine WL.nil (kr8 _ _ _ (kh7 _ _ _ ?_))
 refine Sq fun _ kh9 _ kr10 => ?_
 refine Mv rfl rfl ?_
 refine WL.ev (Ev.eql rfl rfl) rfl ?_
 refine Mv rfl rfl ?_
 refine WL.want rfl rfl rfl rfl ?_
 refine Mv rfl rfl ?_
 refine WL.want rfl rfl rfl rfl ?_
 refine WL.ev (Ev.feql rfl rfl) rfl ?_
 rw [show (FloatKind.f64.format.order 4613937818241073152 4613937818241073152 == some .eq) = true by rw [Fl.order_self_eq]; decide]
 refine WL.ev (Ev.pickT rfl rfl rfl) rfl ?_
 refine Mv rfl rfl ?_
 refine WL.want rfl rfl rfl rfl ?_
 refine Mv rfl rfl ?_
 refine WL.want rfl rfl rfl rfl ?_
 refine WL.ev (Ev.eql rfl rfl) rfl ?_
 refine WL.ev (Ev.pickT rfl rfl rfl) rfl ?_
 refine Mv rfl rfl ?_
 refine WL.want rfl rfl rfl rfl ?_
 refine Mv rfl rfl ?_
 refine WL.want rfl rfl rfl rfl ?_
 refine WL.ev (Ev.feql rfl rfl) rfl ?_
 rw [show (FloatKind.f64.format.order 4610560118520545280 4610560118520545280 == some .eq) = true by rw [Fl.order_self_eq]; decide]
 refine WL.ev (Ev.pickT rfl rfl rfl) rfl ?_
 refine Mv rfl rfl ?_
 refine WL.want rfl rfl rfl rfl ?_
 refine Mv rfl rfl ?_
 refine WL.want rfl rfl rfl rfl ?_
 refine WL.ev (Ev.eql rfl rfl) rfl ?_
 refine WL.ev (Ev.pickT rfl rfl rfl) rfl ?_
 refine Mv rfl rfl ?_
 refine WL.want rfl rfl rfl rfl ?_
 refine Mv rfl rfl ?_
 refine WL.want rfl rfl rfl rfl ?_
 refine WL.ev (Ev.feql rfl rfl) rfl ?_
 rw [show (FloatKind.f64.format.order 4609434218613702656 4609434218613702656 == some .eq) = true by rw [Fl.order_self_eq]; decide]
 refine WL.ev (Ev.pickT rfl rfl rfl) rfl ?_
 refine As rfl rfl ?_
 refine WL.nil (kr10 _ _ _ (kh9 _ _ _ ?_))
 refine CW.ret ?_
 refine bodyA.ret1 rfl rfl ?_
 exact ⟨rfl, hch⟩

end Go.Proofs.YtkkklaodligpdaaGreatDoor

/- Copies of numbers. No condition. -/
namespace Go.Proofs.YtkkklaodligpdaaGreatDoor.Sx
open Go
section
variable {P : Program} {n : Nat} {D : List Deferred} {s : Sl} {w : World} {ops : Array Oper} {K : KK} {rest : List Oper} {ty : TypeId} {pos : String} {af : Array Edge} {d : Nat} {x y : Operand}
theorem WL.copyF {t t' : TypeId} {e be : Nat} {b m c n' c2 : Nat} {a : Option Addr} {l xs : List Nat} {sz by_ : Nat} {z ze : Value} {de : TypeDesc} [hT : HasT P t (.slice e) sz by_ z] [hE : HasT P e de 1 be ze] (hx : opnd s x = some (.slice (some ⟨b, 0, none⟩) m c)) (hy : opnd s y = some (.slice a n' c2)) (hb : FB w b e l) (hr : RW w a (xs.map f64v)) (hn : n' ≤ xs.length) (hm : m ≤ l.length) (hd : Nat.blt d n = true)
    (k : ∀ w', FB w' b e (xs.take (min n' m) ++ l.drop (min n' m)) → Chg [b] w w' → WL P ops K rest n D ((d, .int .i64 ((min n' m : Nat) : Int)) :: s) w') : WL P ops K (⟨some d, .call ⟨.builtin .copy, [x, y].toArray, #[t, t']⟩, ty, pos, af, none⟩ :: rest) n D s w := by
  obtain ⟨i, hi, hi1, hi2, hi3⟩ := hE.inf
  have hsz : (P.info? e).map (·.size) = some 1 := by rw [hi]; simp [hi1]
  by_cases h0 : min n' m = 0
  · refine WL.ev (v := goInt 0) (w' := w) (fun ρ d' pos af g hρ => ?_) hd ?_
    · have e1 := hρ x _ hx
      have e2 := hρ y _ hy
      have := run_copy_none (P := P) w t t' ty e (some ⟨b, 0, none⟩) a m c n' c2 hT.und hsz h0
      simp [execOp, resolve, invoke, builtin, e1, e2, this]
    · have := k w (by rw [h0]; simpa using hb) (Chg.refl _ _)
      rw [h0] at this
      exact this
  · obtain ⟨ad, rfl⟩ := hr.some_ (by simp; omega)
    have hlen : ((xs.take (min n' m)).map f64v).length = Nat.min n' m := by
      show _ = min n' m
      simp; omega
    have hrun := run_copy_row (P := P) w t t' ty e b 0 m c ad n' c2 (l.map f64v).toArray e ((xs.take (min n' m)).map f64v) hT.und hsz hb hlen
      (fun j v hv => by
        obtain ⟨ad', e0, h2⟩ := (by rw [List.map_take]; exact hr.take (min n' m) : RW w (some ad) ((xs.take (min n' m)).map f64v)) j v hv
        cases e0; exact h2)
      (by simp; omega) (fun u hu => by obtain ⟨i, _, rfl⟩ := List.mem_map.1 hu; rfl)
    obtain ⟨Wn, hWn⟩ : ∃ Wn, Wn = w.setRow b ((l.map f64v).toArray.toList.take 0 ++ (xs.take (min n' m)).map f64v ++ (l.map f64v).toArray.toList.drop (0 + ((xs.take (min n' m)).map f64v).length)).toArray := ⟨_, rfl⟩
    rw [← hWn] at hrun
    refine WL.ev (v := goInt ((xs.take (min n' m)).map f64v).length) (w' := Wn) (fun ρ d' pos af g hρ => ?_) hd ?_
    · have e1 := hρ x _ hx
      have e2 := hρ y _ hy
      simp [execOp, resolve, invoke, builtin, e1, e2, hrun]
    · rw [hlen]
      refine k _ ?_ ?_
      · have := setRow_heap w b _ ((l.map f64v).toArray.toList.take 0 ++ (xs.take (min n' m)).map f64v ++ (l.map f64v).toArray.toList.drop (0 + ((xs.take (min n' m)).map f64v).length)).toArray e (0, 0) hb
        rw [← hWn] at this
        unfold FB
        rw [this, hlen]
        simp [List.map_drop]
      · subst hWn
        exact ⟨rfl, rfl, rfl, by simp [World.setRow], fun q hq hnq => setRow_other w b q _ (by simpa using hnq)⟩
end
end Go.Proofs.YtkkklaodligpdaaGreatDoor.Sx

/- Reference of layer 1: lists that are lent. No condition. -/
namespace Go.Proofs.YtkkklaodligpdaaGreatDoor
open Go Sx Wd

theorem mark_at {l : List Nat} {i : Nat} (h1 : l.length ≤ i) (h2 : i < l.length + 8) : (l ++ List.replicate 8 4693671547643874799).getD i 0 = 4693671547643874799 := by
  rw [List.getD_eq_getElem?_getD, List.getElem?_append_right h1, List.getElem?_replicate, if_pos (by omega)]; rfl
theorem mark_in {l : List Nat} {i : Nat} (h1 : i < l.length) : (l ++ List.replicate 8 4693671547643874799).getD i 0 = l.getD i 0 := by
  rw [List.getD_eq_getElem?_getD, List.getElem?_append_left h1, ← List.getD_eq_getElem?_getD]
theorem mark_len (l : List Nat) : (l ++ List.replicate 8 4693671547643874799).length = l.length + 8 := by simp
theorem mark_lt {l : List Nat} (h : ∀ x ∈ l, x < 18446744073709551616) : ∀ x ∈ (l ++ List.replicate 8 4693671547643874799), x < 18446744073709551616 := fun x hx => by
  rcases List.mem_append.1 hx with q | q
  · exact h x q
  · rw [List.mem_replicate] at q; omega
theorem NF.lent {w : World} {b : Nat} {E : TypeId} {l R : List Nat} (h : FB w b E (l ++ R)) (hw : ∀ x ∈ l, x < 18446744073709551616) (hl : l.length ≤ 70368744177664) {c : Nat} (hc : l.length ≤ c) : NF w (.slice (some ⟨b, 0, none⟩) l.length c) l :=
  ⟨⟨_, c, rfl, hc, by have := h.row; rw [List.map_append] at this; exact this.append_left⟩, hw, hl⟩
structure KLe (l : List Nat) (b : Nat) (w0 : World) (g : Nat × List Nat) (w : World) : Prop where
  lo : l.length ≤ g.1
  hi : g.1 ≤ l.length + 8
  len : g.2.length = l.length + 8
  tk : g.2.take g.1 = (l ++ List.replicate 8 4693671547643874799).take g.1
  hB : FB w b 27 g.2
  ch : Chg [] w0 w
structure KAl (l : List Nat) (w0 : World) (i : Nat) (w : World) : Prop where
  hi : i ≤ l.length + 8
  ch : Chg [] w0 w

set_option maxRecDepth 8000 in
set_option maxHeartbeats 2000000 in
theorem r1Lent_spec (v : Value) (l : List Nat) (w : World) (hv : NF w v l) (hlm : l.length ≤ 17592186044415) : Ret Tryz.prog 12 [v] w fun u w' => ∃ b, u = .slice (some ⟨b, 0, none⟩) l.length (l.length + 8) ∧ FB w' b 27 (l ++ List.replicate 8 4693671547643874799) ∧ Chg [] w w' ∧ w.heap.size ≤ b := by
 obtain ⟨⟨al, cl, rfl, hcapl, hrl⟩, hWl, hll⟩ := hv
 have hch : Chg [] w w := Chg.refl _ _
 refine Ret.enter Tryz.func12 rfl rfl ?_
 simp only [args0, Nat.zero_add, Nat.reduceAdd]
 refine Sq fun _ kh1 _ kr2 => ?_
 refine As rfl rfl ?_
 refine WL.nil (kr2 _ _ _ (kh1 _ _ _ ?_))
 refine Sq fun _ kh3 _ kr4 => ?_
 refine Mv rfl rfl ?_
 refine WL.ev (Ev.len rfl) rfl ?_
 first | refine WL.ev (Ev.addIn rfl rfl (by omega)) rfl ?_ | refine WL.ev (Ev.add rfl rfl) rfl ?_
 refine WL.makeF (((l).length + 8)) (((l).length + 8)) rfl rfl (by omega) (by omega) (by omega) (by omega) (by omega) rfl fun b8 wm8 hb8 hcm8 hge8 => ?_
 have hgehch8 := Nat.le_trans hch.size hge8
 have hch := hch.trans (Chg.any hcm8)
 refine As rfl rfl ?_
 refine WL.nil (kr4 _ _ _ (kh3 _ _ _ ?_))
 refine Sq fun _ kh5 _ kr6 => ?_
 refine Mv rfl rfl ?_
 refine Mv rfl rfl ?_
 refine WL.copyF rfl rfl hb8 (hrl.keep0 hch) (by simp; try omega) (by simp; try omega) rfl fun ws20 hb8_ hcs20 => ?_
 have hch := hch.s1 hcs20
 have hb8 := hb8_
 rw [show ((l).take (min ((l).length) (((l).length + 8))) ++ (List.replicate (((l).length + 8)) 0).drop (min ((l).length) (((l).length + 8)))) = (l ++ List.replicate 8 0) from by rw [show min l.length (l.length + 8) = l.length by omega, List.take_length, List.drop_replicate, show l.length + 8 - l.length = 8 by omega]] at hb8
 refine WL.nil (kr6 _ _ _ (kh5 _ _ _ ?_))
 refine CW.seq fun _ kh7 => ?_
 refine Sq fun _ kh8 _ kr9 => ?_
 refine Mv rfl rfl ?_
 refine WL.ev (Ev.len rfl) rfl ?_
 refine As rfl rfl ?_
 refine WL.nil (kr9 _ _ _ (kh8 _ _ _ ?_))
 refine CW.block ?_
 refine CW.loop (S := fun g : Nat × List Nat => [(0, .slice al l.length cl), (3, .slice (some ⟨b8, 0, none⟩) (l.length + 8) (l.length + 8)), (4, .int .i64 (g.1 : Int))]) (Inv := KLe l b8 w) (mu := fun g => l.length + 8 - g.1) ((l.length, l ++ List.replicate 8 0)) ?_ ?_ ?_
 ·
  exact ⟨Nat.le_refl _, by dsimp only; omega, by simp, by simp, hb8, hch⟩
 ·
  repeat (first | exact Subs.nil | refine Subs.cons rfl ?_ | refine Subs.consI rfl (by omega) ?_)
 ·
  rintro ⟨i, Lc⟩ wr ⟨hlo, hhi, hlen, htk, hb8, hch⟩
  dsimp only at hlo hhi hlen htk hb8
  dsimp only
  refine CW.seq fun _ kh10 => ?_
  refine Sq fun _ kh11 _ kr12 => ?_
  refine Mv rfl rfl ?_
  refine Mv rfl rfl ?_
  refine WL.ev (Ev.len rfl) rfl ?_
  refine WL.ev (Ev.lss rfl rfl) rfl ?_
  refine WL.nil (kr12 _ _ _ (kh11 _ _ _ ?_))
  refine CW.cond rfl (fun hc1 => ?_) (fun hc1 => ?_)
  ·
   try simp only [qs] at hc1
   refine CW.skip ?_
   refine kh10 _ _ _ ?_
   refine CW.seq fun _ kh13 => ?_
   refine CW.block ?_
   refine CW.region fun kR14 kr14 => ?_
   refine Mv rfl rfl ?_
   refine Mv rfl rfl ?_
   refine WL.call hasF36 rfl rfl (r1Of_spec 4693671547643874799 _ (by omega)) fun v w1 h' => ?_
   obtain ⟨rfl, rfl⟩ := h'
   refine WL.ev (Ev.ixB (i) rfl rfl (by omega) (by omega)) rfl ?_
   refine WL.storeF rfl rfl hb8 (by first | omega | (simp; omega)) fun ws21 hb8_ hcs21 => ?_
   have hch := hch.s1 hcs21
   have hb8 := hb8_
   refine WL.nil (kr14 _ _ _ (kh13 _ _ _ ?_))
   refine CW.region fun kR15 kr15 => ?_
   refine Mv rfl rfl ?_
   first | refine WL.ev (Ev.addIn rfl rfl (by omega)) rfl ?_ | refine WL.ev (Ev.add rfl rfl) rfl ?_
   refine As rfl rfl ?_
   refine WL.nil (kr15 _ _ _ ?_)
   refine ⟨rfl, (i + 1, Lc.set i 4693671547643874799), ?_, ?_, ?_⟩
   ·
    repeat (first | exact Subs.nil | refine Subs.cons rfl ?_ | refine Subs.consI rfl (by omega) ?_)
   ·
    exact ⟨by dsimp only; omega, by dsimp only; omega, by dsimp only; rw [List.length_set, hlen], by dsimp only; rw [set_take (by omega), htk, take_step (by rw [mark_len]; omega), mark_at hlo (by omega)], hb8, hch⟩
   ·
    show l.length + 8 - (i + 1) < l.length + 8 - i; omega
  ·
   try simp only [qs] at hc1
   have hiX : i = l.length + 8 := by omega
   subst hiX
   rw [← hlen, List.take_length, hlen, ← mark_len l, List.take_length] at htk
   subst htk
   refine CW.exit ?_
   refine kh7 _ _ _ ?_
   refine Sq fun _ kh16 _ kr17 => ?_
   refine Mv rfl rfl ?_
   refine Mv rfl rfl ?_
   refine WL.ev (Ev.len rfl) rfl ?_
   refine WL.ev (Ev.sliceHn ((l).length) rfl rfl (by omega) (by omega)) rfl ?_
   refine As rfl rfl ?_
   refine WL.nil (kr17 _ _ _ (kh16 _ _ _ ?_))
   refine CW.ret ?_
   refine bodyA.ret1 rfl rfl ?_
   exact ⟨b8, rfl, hb8, hch, hgehch8⟩

set_option maxRecDepth 8000 in
set_option maxHeartbeats 2000000 in
theorem r1AsLentT_spec (b : Nat) (v : Value) (l T : List Nat) (w : World) (hB : FB w b 27 T) (hv : NF w v l) (hTl : T.length = l.length + 8) (hT1 : ∀ i, i < l.length → T.getD i 0 = l.getD i 0) (hT2 : ∀ i, l.length ≤ i → i < l.length + 8 → T.getD i 0 = 4693671547643874799) (hTw : ∀ i, T.getD i 0 < 18446744073709551616) : Ret Tryz.prog 14 [.slice (some ⟨b, 0, none⟩) l.length (l.length + 8), v] w fun u w' => u = .bool true ∧ Chg [] w w' := by
 obtain ⟨⟨al, cl, rfl, hcapl, hrl⟩, hWl, hll⟩ := hv
 have hch : Chg [] w w := Chg.refl _ _
 have hB0 := hB
 refine Ret.enter Tryz.func14 rfl rfl ?_
 simp only [args0, Nat.zero_add, Nat.reduceAdd]
 refine Sq fun _ kh1 _ kr2 => ?_
 refine As rfl rfl ?_
 refine WL.nil (kr2 _ _ _ (kh1 _ _ _ ?_))
 refine Sq fun _ kh3 _ kr4 => ?_
 refine Mv rfl rfl ?_
 refine Mv rfl rfl ?_
 refine WL.ev (Ev.len rfl) rfl ?_
 first | refine WL.ev (Ev.addIn rfl rfl (by omega)) rfl ?_ | refine WL.ev (Ev.add rfl rfl) rfl ?_
 refine WL.ev (Ev.sliceHn (l.length + 8) rfl rfl (by omega) (by omega)) rfl ?_
 refine As rfl rfl ?_
 refine WL.nil (kr4 _ _ _ (kh3 _ _ _ ?_))
 refine CW.seq fun _ kh5 => ?_
 refine Sq fun _ kh6 _ kr7 => ?_
 refine As rfl rfl ?_
 refine WL.nil (kr7 _ _ _ (kh6 _ _ _ ?_))
 refine CW.block ?_
 refine CW.loop (S := fun i : Nat => [(0, .slice (some ⟨b, 0, none⟩) l.length (l.length + 8)), (1, .slice al l.length cl), (5, .slice (some ⟨b, 0, none⟩) (l.length + 8) (l.length + 8)), (6, .int .i64 (i : Int))]) (Inv := KAl l w) (mu := fun i => l.length + 8 - i) (0) ?_ ?_ ?_
 ·
  exact ⟨Nat.zero_le _, hch⟩
 ·
  repeat (first | exact Subs.nil | refine Subs.cons rfl ?_ | refine Subs.consI rfl (by omega) ?_)
 ·
  rintro i wr ⟨hhi, hch⟩
  have hB := hB0.keep0 hch
  refine CW.seq fun _ kh8 => ?_
  refine Sq fun _ kh9 _ kr10 => ?_
  refine Mv rfl rfl ?_
  refine Mv rfl rfl ?_
  refine WL.ev (Ev.len rfl) rfl ?_
  refine WL.ev (Ev.lss rfl rfl) rfl ?_
  refine WL.nil (kr10 _ _ _ (kh9 _ _ _ ?_))
  refine CW.cond rfl (fun hc1 => ?_) (fun hc1 => ?_)
  ·
   try simp only [qs] at hc1
   have hmx := hTw i
   have hlx := D_getD hWl i
   refine CW.skip ?_
   refine kh8 _ _ _ ?_
   refine CW.seq fun _ kh11 => ?_
   refine CW.block ?_
   refine Sq fun _ kh12 _ kr13 => ?_
   refine As rfl rfl ?_
   refine WL.nil (kr13 _ _ _ (kh12 _ _ _ ?_))
   refine CW.seq fun _ kh14 => ?_
   refine Sq fun _ kh15 _ kr16 => ?_
   refine Mv rfl rfl ?_
   refine Mv rfl rfl ?_
   refine WL.ev (Ev.len rfl) rfl ?_
   refine WL.ev (Ev.lss rfl rfl) rfl ?_
   refine WL.nil (kr16 _ _ _ (kh15 _ _ _ ?_))
   refine CW.cond rfl (fun hc2 => ?_) (fun hc2 => ?_)
   ·
    try simp only [qs] at hc2
    have hmi := hT1 i (by omega)
    refine CW.region fun kR17 kr17 => ?_
    refine Mv rfl rfl ?_
    refine Mv rfl rfl ?_
    refine WL.ev (Ev.ixR (i) rfl rfl (hrl.keep0 hch) (by omega) (by omega) (by simp; omega)) rfl ?_
    refine WL.ev (Ev.load rfl rfl ((hrl.keep0 hch).f64 (by first | omega | (simp; omega)))) rfl ?_
    refine WL.call hasF43 rfl rfl (r1raw_spec (l.getD i 0) _ hlx) fun v w1 h' => ?_
    obtain ⟨rfl, rfl⟩ := h'
    refine As rfl rfl ?_
    refine WL.nil (kr17 _ _ _ (kh14 _ _ _ ?_))
    refine Sq fun _ kh18 _ kr19 => ?_
    refine Mv rfl rfl ?_
    refine Mv rfl rfl ?_
    refine WL.ev (Ev.ixB (i) rfl rfl (by omega) (by omega)) rfl ?_
    refine WL.ev (Ev.load rfl rfl (hB.f64 (by first | omega | (simp; omega)))) rfl ?_
    refine WL.call hasF43 rfl rfl (r1raw_spec (T.getD i 0) _ hmx) fun v w2 h' => ?_
    obtain ⟨rfl, rfl⟩ := h'
    refine Mv rfl rfl ?_
    refine WL.ev (Ev.neq rfl rfl) rfl ?_
    refine WL.nil (kr19 _ _ _ (kh18 _ _ _ ?_))
    refine CW.cond rfl (fun hc3 => ?_) (fun hc3 => ?_)
    ·
     try simp only [qs] at hc3
     exact absurd (congrArg (fun q : Nat => (q : Int)) hmi) hc3
    ·
     try simp only [qs] at hc3
     refine CW.skip ?_
     refine kh11 _ _ _ ?_
     refine CW.region fun kR20 kr20 => ?_
     refine Mv rfl rfl ?_
     first | refine WL.ev (Ev.addIn rfl rfl (by omega)) rfl ?_ | refine WL.ev (Ev.add rfl rfl) rfl ?_
     refine As rfl rfl ?_
     refine WL.nil (kr20 _ _ _ ?_)
     refine ⟨rfl, i + 1, ?_, ?_, ?_⟩
     ·
      repeat (first | exact Subs.nil | refine Subs.cons rfl ?_ | refine Subs.consI rfl (by omega) ?_)
     ·
      exact ⟨by omega, hch⟩
     ·
      show l.length + 8 - (i + 1) < l.length + 8 - i; omega
   ·
    try simp only [qs] at hc2
    have hmi := hT2 i (by omega) (by omega)
    refine CW.skip ?_
    refine kh14 _ _ _ ?_
    refine Sq fun _ kh21 _ kr22 => ?_
    refine Mv rfl rfl ?_
    refine Mv rfl rfl ?_
    refine WL.ev (Ev.ixB (i) rfl rfl (by omega) (by omega)) rfl ?_
    refine WL.ev (Ev.load rfl rfl (hB.f64 (by first | omega | (simp; omega)))) rfl ?_
    refine WL.call hasF43 rfl rfl (r1raw_spec (T.getD i 0) _ hmx) fun v w3 h' => ?_
    obtain ⟨rfl, rfl⟩ := h'
    refine Mv rfl rfl ?_
    refine WL.ev (Ev.neq rfl rfl) rfl ?_
    refine WL.nil (kr22 _ _ _ (kh21 _ _ _ ?_))
    refine CW.cond rfl (fun hc4 => ?_) (fun hc4 => ?_)
    ·
     try simp only [qs] at hc4
     exact absurd (congrArg (fun q : Nat => (q : Int)) hmi) hc4
    ·
     try simp only [qs] at hc4
     refine CW.skip ?_
     refine kh11 _ _ _ ?_
     refine CW.region fun kR23 kr23 => ?_
     refine Mv rfl rfl ?_
     first | refine WL.ev (Ev.addIn rfl rfl (by omega)) rfl ?_ | refine WL.ev (Ev.add rfl rfl) rfl ?_
     refine As rfl rfl ?_
     refine WL.nil (kr23 _ _ _ ?_)
     refine ⟨rfl, i + 1, ?_, ?_, ?_⟩
     ·
      repeat (first | exact Subs.nil | refine Subs.cons rfl ?_ | refine Subs.consI rfl (by omega) ?_)
     ·
      exact ⟨by omega, hch⟩
     ·
      show l.length + 8 - (i + 1) < l.length + 8 - i; omega
  ·
   try simp only [qs] at hc1
   refine CW.exit ?_
   refine kh5 _ _ _ ?_
   refine Sq fun _ kh24 _ kr25 => ?_
   refine Mv rfl rfl ?_
   refine WL.ev (Ev.len rfl) rfl ?_
   refine Mv rfl rfl ?_
   refine WL.ev (Ev.len rfl) rfl ?_
   refine WL.ev (Ev.eql rfl rfl) rfl ?_
   refine As rfl rfl ?_
   refine WL.nil (kr25 _ _ _ (kh24 _ _ _ ?_))
   refine CW.ret ?_
   refine bodyA.ret1 rfl rfl ?_
   exact ⟨congrArg Value.bool (decide_eq_true rfl), hch⟩

theorem r1AsLent_spec (b : Nat) (v : Value) (l : List Nat) (w : World) (hB : FB w b 27 (l ++ List.replicate 8 4693671547643874799)) (hv : NF w v l) : Ret Tryz.prog 14 [.slice (some ⟨b, 0, none⟩) l.length (l.length + 8), v] w fun u w' => u = .bool true ∧ Chg [] w w' :=
 r1AsLentT_spec b v l _ w hB hv (mark_len l) (fun i h => mark_in h) (fun i h1 h2 => mark_at h1 h2) (fun i => D_getD (mark_lt hv.hw) i)

end Go.Proofs.YtkkklaodligpdaaGreatDoor

/- Products and signs of forms, as whole numbers of the lowest unit. No condition. -/
namespace Go.Proofs.YtkkklaodligpdaaGreatDoor
open Go Sx Wd
set_option exponentiation.threshold 5000

theorem InB.neg {S : Int} (h : InB S) : InB (-S) := by
  obtain ⟨h1, h2⟩ := h
  exact ⟨by omega, by omega⟩
theorem sumD_up {S : Int} (h : InB S) (h0 : S ≠ 0) : ∃ a : Nat, S.natAbs = (sumD S).m * 2 ^ a ∧ (sumD S).e = -2148 + (a : Int) ∧ (sumD S).neg = decide (S < 0) := by
  obtain ⟨-, ha⟩ := tz_spec (n := S.natAbs) (by omega)
  have hx := sumD_val h h0
  exact ⟨tz S.natAbs, by rw [hx]; exact ha, by rw [hx], by rw [hx]⟩
theorem negD_sum {S : Int} (h : InB S) : negD (formD (!(sumD S).neg) (sumD S).m (sumD S).e) = sumD (-S) := by
  by_cases h0 : S = 0
  · subst h0; rfl
  · obtain ⟨a, h1, h2, h3⟩ := sumD_up h h0
    rw [← formD_scale (k := a) (f := -2148) (by omega), ← h1, h3, show S.natAbs = (-S).natAbs by omega, sumD_some h.neg (neg := !decide (S < 0)) (fun hn => by rw [← decide_not]; exact decide_eq_decide.2 (by omega))]
    rfl
theorem thv_in {x y : Nat} (hx : (splitP x).cls ≤ 2) (hy : (splitP y).cls ≤ 2) : InB (thv (prodP x y)) := by
  have h := thv_prod_lt hx hy
  have h2 : 2 ^ 4196 < 16384 * BB := by rw [BB_pow]; exact Nat.pow_lt_pow_right (by decide) (by decide)
  unfold InB
  generalize 16384 * BB = M at *
  generalize 2 ^ 4196 = N at *
  omega
theorem mulD_sum {x y : Nat} (hx : (splitP x).cls ≤ 2) (hy : (splitP y).cls ≤ 2) : mulD (sumD (fvI x)) (sumD (fvI y)) = some (sumD (thv (prodP x y))) := by
  have hp := thv_prod hx hy
  have hZ := thv_in hx hy
  have hX := fvI_in x
  have hY := fvI_in y
  generalize thv (prodP x y) = Z at *
  generalize fvI x = S at *
  generalize fvI y = T at *
  have hokX := rsumD_ok hX
  have hokY := rsumD_ok hY
  rw [← mulD_form hokX hokY]
  have hq : (2 : Nat) ^ 2148 ≠ 0 := Nat.ne_of_gt (Nat.two_pow_pos _)
  by_cases h0 : S = 0
  · subst h0
    have : Z = 0 := by
      rw [Int.zero_mul] at hp
      rcases Int.mul_eq_zero.1 hp with q | q
      · exact q
      · exact absurd (by exact_mod_cast q) hq
    subst this
    rw [show (sumD 0).m = 0 from rfl, Nat.zero_mul, formD_zero]; rfl
  by_cases h1 : T = 0
  · subst h1
    have : Z = 0 := by
      rw [Int.mul_zero] at hp
      rcases Int.mul_eq_zero.1 hp with q | q
      · exact q
      · exact absurd (by exact_mod_cast q) hq
    subst this
    rw [show (sumD 0).m = 0 from rfl, Nat.mul_zero, formD_zero]; rfl
  obtain ⟨a, a1, a2, a3⟩ := sumD_up hX h0
  obtain ⟨b, b1, b2, b3⟩ := sumD_up hY h1
  have hXm : (sumD S).m ≠ 0 := fun q => h0 ((rsumD_m0 hX).1 q)
  have hYm : (sumD T).m ≠ 0 := fun q => h1 ((rsumD_m0 hY).1 q)
  have hodd : ((sumD S).m * (sumD T).m) % 2 = 1 := by rw [Nat.mul_mod, hokX.odd hXm, hokY.odd hYm]
  have hZ0 : Z ≠ 0 := fun q => by
    rw [q, Int.zero_mul] at hp
    rcases Int.mul_eq_zero.1 hp.symm with q | q
    · exact h0 q
    · exact h1 q
  have habs : Z.natAbs * 2 ^ 2148 = (sumD S).m * (sumD T).m * 2 ^ (a + b) := by
    have := congrArg Int.natAbs hp
    rw [Int.natAbs_mul, Int.natAbs_mul, Int.natAbs_natCast] at this
    rw [this, a1, b1, Nat.pow_add]
    simp only [Nat.mul_comm, Nat.mul_left_comm, Nat.mul_assoc]
  have ht1 := tz_scale (m := Z.natAbs) (by omega) 2148
  rw [habs, tz_mul _ _ hodd] at ht1
  obtain ⟨k, hk⟩ : ∃ k, k = tz Z.natAbs := ⟨_, rfl⟩
  rw [← hk] at ht1
  have hval : Z.natAbs = (sumD S).m * (sumD T).m * 2 ^ k := by
    rw [ht1, Nat.pow_add, ← Nat.mul_assoc] at habs
    exact Nat.eq_of_mul_eq_mul_right (Nat.two_pow_pos _) habs
  rw [← formD_scale (k := k) (f := -2148) (by omega), ← hval, a3, b3]
  refine sumD_some hZ fun _ => ?_
  have hs : (Z < 0) ↔ ¬ (S < 0 ↔ T < 0) := by
    have hpos : (0 : Int) < ((2 ^ 2148 : Nat) : Int) := by exact_mod_cast Nat.two_pow_pos _
    constructor
    · intro hz hiff
      have hneg : Z * ((2 ^ 2148 : Nat) : Int) < 0 := Int.mul_neg_of_neg_of_pos hz hpos
      rw [hp] at hneg
      by_cases hsn : S < 0
      · have := Int.mul_pos_of_neg_of_neg hsn (hiff.1 hsn); omega
      · have := Int.mul_nonneg (show 0 ≤ S by omega) (show 0 ≤ T by have := fun q => hsn (hiff.2 q); omega); omega
    · intro hn
      apply Classical.byContradiction
      intro hz
      have hge : 0 ≤ Z * ((2 ^ 2148 : Nat) : Int) := Int.mul_nonneg (by omega) (by omega)
      rw [hp] at hge
      by_cases hsn : S < 0
      · have htp : 0 < T := by
          have : ¬ T < 0 := fun q => hn ⟨fun _ => q, fun _ => hsn⟩
          omega
        have := Int.mul_neg_of_neg_of_pos hsn htp; omega
      · have htn : T < 0 := Classical.byContradiction fun q => hn ⟨fun z => absurd z hsn, fun z => absurd z q⟩
        have := Int.mul_neg_of_pos_of_neg (show 0 < S by omega) htn; omega
  by_cases hsn : S < 0 <;> by_cases htn : T < 0
  · rw [decide_eq_true hsn, decide_eq_true htn, decide_eq_false (fun q => hs.1 q ⟨fun _ => htn, fun _ => hsn⟩)]; rfl
  · rw [decide_eq_true hsn, decide_eq_false htn, decide_eq_true (hs.2 fun q => htn (q.1 hsn))]; rfl
  · rw [decide_eq_false hsn, decide_eq_true htn, decide_eq_true (hs.2 fun q => hsn (q.2 htn))]; rfl
  · rw [decide_eq_false hsn, decide_eq_false htn, decide_eq_false (fun q => hs.1 q ⟨fun z => absurd z hsn, fun z => absurd z htn⟩)]; rfl
end Go.Proofs.YtkkklaodligpdaaGreatDoor

/- Reference of layer 13: Weighted. No condition. -/
namespace Go.Proofs.YtkkklaodligpdaaGreatDoor
open Go Sx Wd

structure KWd (l k : List Nat) (b10 b11 : Nat) (w0 : World) (g : Nat × Value × Value) (w : World) : Prop where
  hi : g.1 ≤ l.length
  h10 : BK w b10 41 [.bool (sumD (sumP (l.take g.1) (k.take g.1))).neg, g.2.1, .int .i64 (sumD (sumP (l.take g.1) (k.take g.1))).e]
  h11 : BK w b11 41 [.bool (sumD (sumI (k.take g.1))).neg, g.2.2, .int .i64 (sumD (sumI (k.take g.1))).e]
  hp : NU w g.2.1 (wd (sumD (sumP (l.take g.1) (k.take g.1))).m)
  hq : NU w g.2.2 (wd (sumD (sumI (k.take g.1))).m)
  ch : Chg [] w0 w
theorem finL_getD {l : List Nat} (h : finL l) {i : Nat} (hi : i < l.length) : (splitP (l.getD i 0)).cls ≤ 2 := h _ (by rw [List.getD_eq_getElem?_getD, List.getElem?_eq_getElem hi]; exact List.getElem_mem _)
theorem finL_tk {l : List Nat} (h : finL l) (i : Nat) : ∀ x ∈ l.take i, (splitP x).cls ≤ 2 := fun x hx => h x (List.mem_of_mem_take hx)

theorem wt_none {l k : List Nat} {mode : Int} (hm : 0 ≤ mode ∧ mode ≤ 4) (hN : InB (sumP l k)) (h0 : sumI k = 0) : QuoD (if sumI k < 0 then -sumP l k else sumP l k) (if sumI k < 0 then -sumI k else sumI k) mode 0 21 := by
  rw [if_neg (by omega), if_neg (by omega), h0]
  exact .inr ⟨hm, .inr (.inr ⟨by rw [rsumD_zero]; simp [sgD, Dy.zero], sumD (sumP l k), sumD 0, formD_self (rsumD_ok hN), formD_self (rsumD_ok InB.zero), .inl ⟨rfl, rfl, rfl⟩⟩)⟩

set_option maxRecDepth 8000 in
set_option maxHeartbeats 2000000 in
theorem r13Weighted_spec (v u : Value) (l k : List Nat) (mode : Int) (w : World) (hv : NF w v l) (hk : NF w u k) : Ret Tryz.prog 18 [v, u, .int .i64 mode] w fun u w' => (∃ bits e, u = .tuple [.float .f64 bits, .int .i64 e].toArray ∧ wtR l k mode bits e) ∧ Chg [] w w' := by
 have hv0 := hv
 have hk0 := hk
 obtain ⟨⟨al, cl, rfl, hcapl, hrl⟩, hWl, hll⟩ := hv
 obtain ⟨⟨ak, ck, rfl, hcapk, hrk⟩, hWk, hlk⟩ := hk
 have hch : Chg [] w w := Chg.refl _ _
 refine Ret.enter Tryz.func18 rfl rfl ?_
 simp only [args0, Nat.zero_add, Nat.reduceAdd]
 refine Sq fun _ kh1 _ kr2 => ?_
 refine As rfl rfl ?_
 refine As rfl rfl ?_
 refine WL.nil (kr2 _ _ _ (kh1 _ _ _ ?_))
 refine CW.seq fun _ kh3 => ?_
 refine CW.seqM 24 (decide (mode < 0 ∨ 4 < mode)) ?_ ?_
 ·
  refine CW.region fun kR4 kr4 => ?_
  refine Mv rfl rfl ?_
  refine WL.ev (Ev.lss rfl rfl) rfl ?_
  refine Mv rfl rfl ?_
  refine WL.boolCase (fun hg1 => ?_) (fun hg1 => ?_)
  ·
   try simp only [qs] at hg1
   refine WL.pass rfl rfl rfl rfl rfl ?_
   refine WL.pass rfl rfl rfl rfl rfl ?_
   refine WL.ev (Ev.pickT rfl rfl rfl) rfl ?_
   refine WL.nil (kr4 _ _ _ ?_)
   refine ⟨rfl, rfl, Subs.consB rfl ?_ ?_⟩
   ·
    first | (simp; omega) | (simp_all; done) | (refine decide_eq_decide.2 ?_; omega)
   ·
    first | ((repeat (first | exact Subs.refl | refine Subs.drop1 (by rfl) ?_)); done) | ((repeat (first | exact Subs.nil | refine Subs.cons rfl ?_)); done)
  ·
   try simp only [qs] at hg1
   refine WL.want rfl rfl rfl rfl ?_
   refine Mv rfl rfl ?_
   refine WL.want rfl rfl rfl rfl ?_
   refine WL.ev (Ev.gtr rfl rfl) rfl ?_
   refine WL.ev (Ev.pickF rfl rfl rfl) rfl ?_
   refine WL.nil (kr4 _ _ _ ?_)
   refine ⟨rfl, rfl, Subs.consB rfl ?_ ?_⟩
   ·
    first | (simp; omega) | (simp_all; done) | (refine decide_eq_decide.2 ?_; omega)
   ·
    first | ((repeat (first | exact Subs.refl | refine Subs.drop1 (by rfl) ?_)); done) | ((repeat (first | exact Subs.nil | refine Subs.cons rfl ?_)); done)
 ·
  refine CW.cond rfl (fun hc2 => ?_) (fun hc2 => ?_)
  ·
   try simp only [qs] at hc2
   have hbad := hc2
   refine Sq fun _ kh5 _ kr6 => ?_
   refine WL.call hasF45 rfl rfl (r13no_spec (1) _) fun v w1 h' => ?_
   obtain ⟨rfl, rfl⟩ := h'
   refine WL.ev (Ev.extract rfl rfl) rfl ?_
   refine WL.ev (Ev.extract rfl rfl) rfl ?_
   refine As rfl rfl ?_
   refine As rfl rfl ?_
   refine WL.nil (kr6 _ _ _ (kh5 _ _ _ ?_))
   refine CW.ret ?_
   refine bodyA.ret2 rfl rfl rfl ?_
   exact ⟨⟨0, 1, rfl, .inl ⟨by omega, rfl, rfl⟩⟩, hch⟩
  ·
   try simp only [qs] at hc2
   have hmd : 0 ≤ mode ∧ mode ≤ 4 := by have := hc2; omega
   refine CW.skip ?_
   refine kh3 _ _ _ ?_
   refine CW.seq fun _ kh7 => ?_
   refine CW.seqM 35 (decide (65536 < l.length ∨ 65536 < k.length)) ?_ ?_
   ·
    refine CW.region fun kR8 kr8 => ?_
    refine Mv rfl rfl ?_
    refine WL.ev (Ev.len rfl) rfl ?_
    refine WL.ev (Ev.gtr rfl rfl) rfl ?_
    refine Mv rfl rfl ?_
    refine WL.boolCase (fun hg3 => ?_) (fun hg3 => ?_)
    ·
     try simp only [qs] at hg3
     refine WL.pass rfl rfl rfl rfl rfl ?_
     refine WL.pass rfl rfl rfl rfl rfl ?_
     refine WL.pass rfl rfl rfl rfl rfl ?_
     refine WL.ev (Ev.pickT rfl rfl rfl) rfl ?_
     refine WL.nil (kr8 _ _ _ ?_)
     refine ⟨rfl, rfl, Subs.consB rfl ?_ ?_⟩
     ·
      first | (simp; omega) | (simp_all; done) | (refine decide_eq_decide.2 ?_; omega)
     ·
      first | ((repeat (first | exact Subs.refl | refine Subs.drop1 (by rfl) ?_)); done) | ((repeat (first | exact Subs.nil | refine Subs.cons rfl ?_)); done)
    ·
     try simp only [qs] at hg3
     refine WL.want rfl rfl rfl rfl ?_
     refine Mv rfl rfl ?_
     refine WL.want rfl rfl rfl rfl ?_
     refine WL.ev (Ev.len rfl) rfl ?_
     refine WL.want rfl rfl rfl rfl ?_
     refine WL.ev (Ev.gtr rfl rfl) rfl ?_
     refine WL.ev (Ev.pickF rfl rfl rfl) rfl ?_
     refine WL.nil (kr8 _ _ _ ?_)
     refine ⟨rfl, rfl, Subs.consB rfl ?_ ?_⟩
     ·
      first | (simp; omega) | (simp_all; done) | (refine decide_eq_decide.2 ?_; omega)
     ·
      first | ((repeat (first | exact Subs.refl | refine Subs.drop1 (by rfl) ?_)); done) | ((repeat (first | exact Subs.nil | refine Subs.cons rfl ?_)); done)
   ·
    refine CW.cond rfl (fun hc4 => ?_) (fun hc4 => ?_)
    ·
     try simp only [qs] at hc4
     have hlong := hc4
     refine Sq fun _ kh9 _ kr10 => ?_
     refine WL.call hasF45 rfl rfl (r13no_spec (2) _) fun v w2 h' => ?_
     obtain ⟨rfl, rfl⟩ := h'
     refine WL.ev (Ev.extract rfl rfl) rfl ?_
     refine WL.ev (Ev.extract rfl rfl) rfl ?_
     refine As rfl rfl ?_
     refine As rfl rfl ?_
     refine WL.nil (kr10 _ _ _ (kh9 _ _ _ ?_))
     refine CW.ret ?_
     refine bodyA.ret2 rfl rfl rfl ?_
     exact ⟨⟨0, 2, rfl, .inr ⟨hmd, .inl ⟨hlong, rfl, rfl⟩⟩⟩, hch⟩
    ·
     try simp only [qs] at hc4
     have hshort : ¬ (65536 < l.length ∨ 65536 < k.length) := hc4
     refine CW.skip ?_
     refine kh7 _ _ _ ?_
     refine CW.seq fun _ kh11 => ?_
     refine Sq fun _ kh12 _ kr13 => ?_
     refine Mv rfl rfl ?_
     refine WL.ev (Ev.len rfl) rfl ?_
     refine Mv rfl rfl ?_
     refine WL.ev (Ev.len rfl) rfl ?_
     refine WL.ev (Ev.neq rfl rfl) rfl ?_
     refine WL.nil (kr13 _ _ _ (kh12 _ _ _ ?_))
     refine CW.cond rfl (fun hc5 => ?_) (fun hc5 => ?_)
     ·
      try simp only [qs] at hc5
      have hne : l.length ≠ k.length := by omega
      refine Sq fun _ kh14 _ kr15 => ?_
      refine WL.call hasF45 rfl rfl (r13no_spec (4) _) fun v w3 h' => ?_
      obtain ⟨rfl, rfl⟩ := h'
      refine WL.ev (Ev.extract rfl rfl) rfl ?_
      refine WL.ev (Ev.extract rfl rfl) rfl ?_
      refine As rfl rfl ?_
      refine As rfl rfl ?_
      refine WL.nil (kr15 _ _ _ (kh14 _ _ _ ?_))
      refine CW.ret ?_
      refine bodyA.ret2 rfl rfl rfl ?_
      exact ⟨⟨0, 4, rfl, .inr ⟨hmd, .inr ⟨hshort, .inl ⟨hne, rfl, rfl⟩⟩⟩⟩, hch⟩
     ·
      try simp only [qs] at hc5
      have heq : l.length = k.length := by omega
      refine CW.skip ?_
      refine kh11 _ _ _ ?_
      refine Sq fun _ kh16 _ kr17 => ?_
      refine Mv rfl rfl ?_
      refine WL.call hasF56 rfl rfl (r13finite_spec _ l _ (hv0.keep0 hch)) fun v w4 h' => ?_
      obtain ⟨rfl, hC⟩ := h'
      have hch := hch.trans (Chg.any hC)
      refine As rfl rfl ?_
      refine WL.nil (kr17 _ _ _ (kh16 _ _ _ ?_))
      refine Sq fun _ kh18 _ kr19 => ?_
      refine Mv rfl rfl ?_
      refine WL.call hasF56 rfl rfl (r13finite_spec _ k _ (hk0.keep0 hch)) fun v w5 h' => ?_
      obtain ⟨rfl, hC⟩ := h'
      have hch := hch.trans (Chg.any hC)
      refine As rfl rfl ?_
      refine WL.nil (kr19 _ _ _ (kh18 _ _ _ ?_))
      refine CW.seq fun _ kh20 => ?_
      refine CW.seqM 56 (decide (¬ (finL l ∧ finL k))) ?_ ?_
      ·
       refine CW.region fun kR21 kr21 => ?_
       refine Mv rfl rfl ?_
       refine WL.ev (Ev.not rfl) rfl ?_
       refine Mv rfl rfl ?_
       refine WL.boolCase (fun hg6 => ?_) (fun hg6 => ?_)
       ·
        try simp only [qs] at hg6
        refine WL.pass rfl rfl rfl rfl rfl ?_
        refine WL.pass rfl rfl rfl rfl rfl ?_
        refine WL.ev (Ev.pickT rfl rfl rfl) rfl ?_
        refine WL.nil (kr21 _ _ _ ?_)
        refine ⟨rfl, rfl, Subs.consB rfl ?_ ?_⟩
        ·
         first | (simp_all; done) | (by_cases q1 : finL l <;> by_cases q2 : finL k <;> simp_all)
        ·
         first | ((repeat (first | exact Subs.refl | refine Subs.drop1 (by rfl) ?_)); done) | ((repeat (first | exact Subs.nil | refine Subs.cons rfl ?_)); done)
       ·
        try simp only [qs] at hg6
        refine WL.want rfl rfl rfl rfl ?_
        refine Mv rfl rfl ?_
        refine WL.want rfl rfl rfl rfl ?_
        refine WL.ev (Ev.not rfl) rfl ?_
        refine WL.ev (Ev.pickF rfl rfl rfl) rfl ?_
        refine WL.nil (kr21 _ _ _ ?_)
        refine ⟨rfl, rfl, Subs.consB rfl ?_ ?_⟩
        ·
         first | (simp_all; done) | (by_cases q1 : finL l <;> by_cases q2 : finL k <;> simp_all)
        ·
         first | ((repeat (first | exact Subs.refl | refine Subs.drop1 (by rfl) ?_)); done) | ((repeat (first | exact Subs.nil | refine Subs.cons rfl ?_)); done)
      ·
       refine CW.cond rfl (fun hc7 => ?_) (fun hc7 => ?_)
       ·
        try simp only [qs] at hc7
        have hnf : ¬ (finL l ∧ finL k) := by simpa using hc7
        refine Sq fun _ kh22 _ kr23 => ?_
        refine WL.call hasF45 rfl rfl (r13no_spec (30) _) fun v w6 h' => ?_
        obtain ⟨rfl, rfl⟩ := h'
        refine WL.ev (Ev.extract rfl rfl) rfl ?_
        refine WL.ev (Ev.extract rfl rfl) rfl ?_
        refine As rfl rfl ?_
        refine As rfl rfl ?_
        refine WL.nil (kr23 _ _ _ (kh22 _ _ _ ?_))
        refine CW.ret ?_
        refine bodyA.ret2 rfl rfl rfl ?_
        exact ⟨⟨0, 30, rfl, .inr ⟨hmd, .inr ⟨hshort, .inr ⟨heq, .inl ⟨hnf, rfl, rfl⟩⟩⟩⟩⟩, hch⟩
       ·
        try simp only [qs] at hc7
        have hff : finL l ∧ finL k := by have hcc := hc7; simpa using hcc
        refine CW.skip ?_
        refine kh20 _ _ _ ?_
        refine CW.seq fun _ kh24 => ?_
        refine Sq fun _ kh25 _ kr26 => ?_
        refine Mv rfl rfl ?_
        refine WL.ev (Ev.len rfl) rfl ?_
        refine WL.ev (Ev.eql rfl rfl) rfl ?_
        refine WL.nil (kr26 _ _ _ (kh25 _ _ _ ?_))
        refine CW.cond rfl (fun hc8 => ?_) (fun hc8 => ?_)
        ·
         try simp only [qs] at hc8
         have h0 : l = [] := List.length_eq_zero_iff.1 (by omega)
         refine Sq fun _ kh27 _ kr28 => ?_
         refine WL.call hasF45 rfl rfl (r13no_spec (3) _) fun v w7 h' => ?_
         obtain ⟨rfl, rfl⟩ := h'
         refine WL.ev (Ev.extract rfl rfl) rfl ?_
         refine WL.ev (Ev.extract rfl rfl) rfl ?_
         refine As rfl rfl ?_
         refine As rfl rfl ?_
         refine WL.nil (kr28 _ _ _ (kh27 _ _ _ ?_))
         refine CW.ret ?_
         refine bodyA.ret2 rfl rfl rfl ?_
         exact ⟨⟨0, 3, rfl, .inr ⟨hmd, .inr ⟨hshort, .inr ⟨heq, .inr ⟨hff, .inl ⟨h0, rfl, rfl⟩⟩⟩⟩⟩⟩, hch⟩
        ·
         try simp only [qs] at hc8
         have h0 : l ≠ [] := fun q => by rw [q] at hc8; exact hc8 rfl
         refine CW.skip ?_
         refine kh24 _ _ _ ?_
         refine Sq fun _ kh29 _ kr30 => ?_
         refine WL.allocB (l := [.bool false, .slice none 0 0, .int .i64 0]) rfl rfl fun b10 wm10 hb10 hcm10 hge10 => ?_
         have hgehch10 := Nat.le_trans hch.size hge10
         have hch := hch.trans (Chg.any hcm10)
         refine WL.nil (kr30 _ _ _ (kh29 _ _ _ ?_))
         refine Sq fun _ kh31 _ kr32 => ?_
         refine WL.allocB (l := [.bool false, .slice none 0 0, .int .i64 0]) rfl rfl fun b11 wm11 hb11 hcm11 hge11 => ?_
         have hgehch11 := Nat.le_trans hch.size hge11
         have hch := hch.trans (Chg.any hcm11)
         have hneb1011 : b10 ≠ b11 := by have := hb10.lt; omega
         have hb10 := hb10.keep0 hcm11
         refine WL.nil (kr32 _ _ _ (kh31 _ _ _ ?_))
         refine CW.seq fun _ kh33 => ?_
         refine Sq fun _ kh34 _ kr35 => ?_
         refine As rfl rfl ?_
         refine WL.nil (kr35 _ _ _ (kh34 _ _ _ ?_))
         refine CW.block ?_
         refine CW.loop (S := fun g : Nat × Value × Value => [(0, .slice al l.length cl), (1, .slice ak k.length ck), (2, .int .i64 mode), (10, .pointer (some ⟨b10, 0, none⟩)), (11, .pointer (some ⟨b11, 0, none⟩)), (12, .int .i64 (g.1 : Int))]) (Inv := KWd l k b10 b11 w) (mu := fun g => l.length - g.1) ((0, .slice none 0 0, .slice none 0 0)) ?_ ?_ ?_
         ·
          exact ⟨Nat.zero_le _, hb10, hb11, by rw [show sumP (l.take 0) (k.take 0) = 0 by simp [sumP], rsumD_zero, show Dy.zero.m = 0 from rfl, wd_zero]; exact NU.nil, by rw [List.take_zero, show sumI [] = 0 from rfl, rsumD_zero, show Dy.zero.m = 0 from rfl, wd_zero]; exact NU.nil, hch⟩
         ·
          repeat (first | exact Subs.nil | refine Subs.cons rfl ?_ | refine Subs.consI rfl (by omega) ?_)
         ·
          rintro ⟨i, rp, rq⟩ wr ⟨hi, hb10, hb11, hp, hq, hch⟩
          dsimp only at hi hb10 hb11 hp hq hch
          dsimp only
          have hopp := hp.one
          have hoqq := hq.one
          have hge10 := hgehch10
          have hge11 := hgehch11
          refine CW.seq fun _ kh36 => ?_
          refine Sq fun _ kh37 _ kr38 => ?_
          refine Mv rfl rfl ?_
          refine Mv rfl rfl ?_
          refine WL.ev (Ev.len rfl) rfl ?_
          refine WL.ev (Ev.lss rfl rfl) rfl ?_
          refine WL.nil (kr38 _ _ _ (kh37 _ _ _ ?_))
          refine CW.cond rfl (fun hc9 => ?_) (fun hc9 => ?_)
          ·
           try simp only [qs] at hc9
           have hx := D_getD hWl i
           have hy := D_getD hWk i
           have hfx := finL_getD hff.1 (i := i) (by omega)
           have hfy := finL_getD hff.2 (i := i) (by omega)
           have hX := fvI_in (l.getD i 0)
           have hY := fvI_in (k.getD i 0)
           have hZ := thv_in hfx hfy
           have hstN := sumP_step (l := l) (k := k) (i := i) (by omega) heq
           have hstW := sumI_step (l := k) (i := i) (by omega)
           have hNN : InB (sumP (l.take i) (k.take i)) := sumP_in (finL_tk hff.1 i) (finL_tk hff.2 i) (by rw [take_len (by omega)]; omega)
           have hNZ : InB (sumP (l.take (i + 1)) (k.take (i + 1))) := sumP_in (finL_tk hff.1 _) (finL_tk hff.2 _) (by rw [take_len (by omega)]; omega)
           rw [hstN] at hNZ
           have hWW : InB (sumI (k.take i)) := sumI_in (by rw [take_len (by omega)]; omega)
           have hWY : InB (sumI (k.take (i + 1))) := sumI_in (by rw [take_len (by omega)]; omega)
           rw [hstW] at hWY
           have okX := rsumD_ok hX
           have okY := rsumD_ok hY
           have okZ := rsumD_ok hZ
           have okN := rsumD_ok hNN
           have okW := rsumD_ok hWW
           have oX1 := okX.e
           have oY1 := okY.e
           have oZ1 := okZ.e
           have oN1 := okN.e
           have oW1 := okW.e
           have oX2 := okX.len
           have oY2 := okY.len
           have oZ2 := okZ.len
           have oN2 := okN.len
           have oW2 := okW.len
           refine CW.skip ?_
           refine kh36 _ _ _ ?_
           refine CW.seq fun _ kh39 => ?_
           refine CW.block ?_
           refine Sq fun _ kh40 _ kr41 => ?_
           refine Mv rfl rfl ?_
           refine Mv rfl rfl ?_
           refine WL.ev (Ev.ixR (i) rfl rfl (hrl.keep0 hch) (by omega) (by omega) (by simp; omega)) rfl ?_
           refine WL.ev (Ev.load rfl rfl ((hrl.keep0 hch).f64 (by first | omega | (simp; omega)))) rfl ?_
           refine WL.call hasF57 rfl rfl (r3Of_spec (l.getD i 0) _ hx) fun v w8 h' => ?_
           obtain ⟨hDx, hC⟩ := h'
           rw [floatD_sum hx hfx] at hDx
           obtain ⟨rx, dx, hdx, rfl, hNx⟩ := hDx.resolve_right (fun q => by cases q.1)
           cases hdx
           have hch := hch.trans (Chg.any hC)
           have hb10 := hb10.keep0 hC
           have hb11 := hb11.keep0 hC
           have hp := hp.keep0 hC
           have hq := hq.keep0 hC
           refine Mv rfl rfl ?_
           refine WL.ev (Ev.extract rfl rfl) rfl ?_
           refine WL.ev (Ev.extract rfl rfl) rfl ?_
           refine WL.allocB (l := [.bool false, .slice none 0 0, .int .i64 0]) rfl rfl fun b13 wm13 hb13 hcm13 hge13 => ?_
           have hgehch13 := Nat.le_trans hch.size hge13
           have hch := hch.trans (Chg.any hcm13)
           have hp := hp.keep0 hcm13
           have hq := hq.keep0 hcm13
           have hNx := hNx.keep0 hcm13
           have hneb1013 : b10 ≠ b13 := by have := hb10.lt; omega
           have hb10 := hb10.keep0 hcm13
           have hneb1113 : b11 ≠ b13 := by have := hb11.lt; omega
           have hb11 := hb11.keep0 hcm13
           refine WL.storeB rfl rfl rfl ao hb13 (by simp) rfl fun ws22 hb13_ hcs22 => ?_
           try simp only [Sx.splice, qt] at hb13_
           have hch := hch.s1 hcs22
           have hb10 := hb10.keep hcs22 (by simp; omega)
           have hb11 := hb11.keep hcs22 (by simp; omega)
           have hp := hp.keepBK hb13 hcs22 an
           have hq := hq.keepBK hb13 hcs22 an
           have hNx := hNx.keepBK hb13 hcs22 an
           have hb13 := hb13_
           refine As rfl rfl ?_
           refine WL.nil (kr41 _ _ _ (kh40 _ _ _ ?_))
           refine Sq fun _ kh42 _ kr43 => ?_
           refine Mv rfl rfl ?_
           refine Mv rfl rfl ?_
           refine WL.ev (Ev.ixR (i) rfl rfl (hrk.keep0 hch) (by omega) (by omega) (by simp; omega)) rfl ?_
           refine WL.ev (Ev.load rfl rfl ((hrk.keep0 hch).f64 (by first | omega | (simp; omega)))) rfl ?_
           refine WL.call hasF57 rfl rfl (r3Of_spec (k.getD i 0) _ hy) fun v w9 h' => ?_
           obtain ⟨hDy, hC⟩ := h'
           rw [floatD_sum hy hfy] at hDy
           obtain ⟨ry, dy, hdy, rfl, hNy⟩ := hDy.resolve_right (fun q => by cases q.1)
           cases hdy
           have hch := hch.trans (Chg.any hC)
           have hb10 := hb10.keep0 hC
           have hb11 := hb11.keep0 hC
           have hb13 := hb13.keep0 hC
           have hp := hp.keep0 hC
           have hq := hq.keep0 hC
           have hNx := hNx.keep0 hC
           refine Mv rfl rfl ?_
           refine WL.ev (Ev.extract rfl rfl) rfl ?_
           refine WL.ev (Ev.extract rfl rfl) rfl ?_
           refine WL.allocB (l := [.bool false, .slice none 0 0, .int .i64 0]) rfl rfl fun b15 wm15 hb15 hcm15 hge15 => ?_
           have hgehch15 := Nat.le_trans hch.size hge15
           have hch := hch.trans (Chg.any hcm15)
           have hp := hp.keep0 hcm15
           have hq := hq.keep0 hcm15
           have hNx := hNx.keep0 hcm15
           have hNy := hNy.keep0 hcm15
           have hneb1015 : b10 ≠ b15 := by have := hb10.lt; omega
           have hb10 := hb10.keep0 hcm15
           have hneb1115 : b11 ≠ b15 := by have := hb11.lt; omega
           have hb11 := hb11.keep0 hcm15
           have hneb1315 : b13 ≠ b15 := by have := hb13.lt; omega
           have hb13 := hb13.keep0 hcm15
           refine WL.storeB rfl rfl rfl ao hb15 (by simp) rfl fun ws23 hb15_ hcs23 => ?_
           try simp only [Sx.splice, qt] at hb15_
           have hch := hch.s1 hcs23
           have hb10 := hb10.keep hcs23 (by simp; omega)
           have hb11 := hb11.keep hcs23 (by simp; omega)
           have hb13 := hb13.keep hcs23 (by simp; omega)
           have hp := hp.keepBK hb15 hcs23 an
           have hq := hq.keepBK hb15 hcs23 an
           have hNx := hNx.keepBK hb15 hcs23 an
           have hNy := hNy.keepBK hb15 hcs23 an
           have hb15 := hb15_
           refine As rfl rfl ?_
           refine WL.nil (kr43 _ _ _ (kh42 _ _ _ ?_))
           refine Sq fun _ kh44 _ kr45 => ?_
           refine WL.ev (Ev.loadA rfl rfl hb13 rfl) rfl ?_
           refine WL.ev (Ev.loadA rfl rfl hb15 rfl) rfl ?_
           refine WL.call hasF58 rfl rfl (r3Mul_spec _ _ _ _ _ _ _ _ _ hNx hNy (by omega) (by omega) (by omega) (by omega)) fun v w10 h' => ?_
           obtain ⟨hDz, hC⟩ := h'
           rw [val_wd, val_wd, formD_self okX, formD_self okY, show both2 mulD (some (sumD (fvI (l.getD i 0)))) (some (sumD (fvI (k.getD i 0)))) = mulD (sumD (fvI (l.getD i 0))) (sumD (fvI (k.getD i 0))) from rfl, mulD_sum hfx hfy] at hDz
           obtain ⟨rz, dz, hdz, rfl, hNz⟩ := hDz.resolve_right (fun q => by cases q.1)
           cases hdz
           have hch := hch.trans (Chg.any hC)
           have hb10 := hb10.keep0 hC
           have hb11 := hb11.keep0 hC
           have hb13 := hb13.keep0 hC
           have hb15 := hb15.keep0 hC
           have hp := hp.keep0 hC
           have hq := hq.keep0 hC
           have hNx := hNx.keep0 hC
           have hNy := hNy.keep0 hC
           refine Mv rfl rfl ?_
           refine WL.ev (Ev.extract rfl rfl) rfl ?_
           refine WL.ev (Ev.extract rfl rfl) rfl ?_
           refine WL.allocB (l := [.bool false, .slice none 0 0, .int .i64 0]) rfl rfl fun b17 wm17 hb17 hcm17 hge17 => ?_
           have hgehch17 := Nat.le_trans hch.size hge17
           have hch := hch.trans (Chg.any hcm17)
           have hp := hp.keep0 hcm17
           have hq := hq.keep0 hcm17
           have hNx := hNx.keep0 hcm17
           have hNy := hNy.keep0 hcm17
           have hNz := hNz.keep0 hcm17
           have hneb1017 : b10 ≠ b17 := by have := hb10.lt; omega
           have hb10 := hb10.keep0 hcm17
           have hneb1117 : b11 ≠ b17 := by have := hb11.lt; omega
           have hb11 := hb11.keep0 hcm17
           have hneb1317 : b13 ≠ b17 := by have := hb13.lt; omega
           have hb13 := hb13.keep0 hcm17
           have hneb1517 : b15 ≠ b17 := by have := hb15.lt; omega
           have hb15 := hb15.keep0 hcm17
           refine WL.storeB rfl rfl rfl ao hb17 (by simp) rfl fun ws24 hb17_ hcs24 => ?_
           try simp only [Sx.splice, qt] at hb17_
           have hch := hch.s1 hcs24
           have hb10 := hb10.keep hcs24 (by simp; omega)
           have hb11 := hb11.keep hcs24 (by simp; omega)
           have hb13 := hb13.keep hcs24 (by simp; omega)
           have hb15 := hb15.keep hcs24 (by simp; omega)
           have hp := hp.keepBK hb17 hcs24 an
           have hq := hq.keepBK hb17 hcs24 an
           have hNx := hNx.keepBK hb17 hcs24 an
           have hNy := hNy.keepBK hb17 hcs24 an
           have hNz := hNz.keepBK hb17 hcs24 an
           have hb17 := hb17_
           refine As rfl rfl ?_
           refine WL.nil (kr45 _ _ _ (kh44 _ _ _ ?_))
           refine Sq fun _ kh46 _ kr47 => ?_
           refine WL.ev (Ev.loadA rfl rfl hb10 rfl) rfl ?_
           refine WL.ev (Ev.loadA rfl rfl hb17 rfl) rfl ?_
           refine WL.call hasF59 rfl rfl (r3Add_spec _ _ _ _ _ _ _ _ _ hp hNz (by omega) (by omega) (by omega) (by omega)) fun v w11 h' => ?_
           obtain ⟨hDa, hC⟩ := h'
           rw [val_wd, val_wd, formD_self okN, formD_self okZ, show both2 addD (some (sumD (sumP (l.take i) (k.take i)))) (some (sumD (thv (prodP (l.getD i 0) (k.getD i 0))))) = addD (sumD (sumP (l.take i) (k.take i))) (sumD (thv (prodP (l.getD i 0) (k.getD i 0)))) from rfl, addD_sum hNN hZ hNZ, ← hstN] at hDa
           obtain ⟨ra, da, hda, rfl, hNa⟩ := hDa.resolve_right (fun q => by cases q.1)
           cases hda
           have hch := hch.trans (Chg.any hC)
           have hb10 := hb10.keep0 hC
           have hb11 := hb11.keep0 hC
           have hb13 := hb13.keep0 hC
           have hb15 := hb15.keep0 hC
           have hb17 := hb17.keep0 hC
           have hp := hp.keep0 hC
           have hq := hq.keep0 hC
           have hNx := hNx.keep0 hC
           have hNy := hNy.keep0 hC
           have hNz := hNz.keep0 hC
           refine Mv rfl rfl ?_
           refine WL.ev (Ev.extract rfl rfl) rfl ?_
           refine WL.ev (Ev.extract rfl rfl) rfl ?_
           refine WL.storeB rfl rfl rfl ao hb10 (by simp) rfl fun ws25 hb10_ hcs25 => ?_
           try simp only [Sx.splice, qt] at hb10_
           have hch := hch.s1 hcs25
           have hb11 := hb11.keep hcs25 (by simp; omega)
           have hb13 := hb13.keep hcs25 (by simp; omega)
           have hb15 := hb15.keep hcs25 (by simp; omega)
           have hb17 := hb17.keep hcs25 (by simp; omega)
           have hp := hp.keepBK hb10 hcs25 an
           have hq := hq.keepBK hb10 hcs25 an
           have hNx := hNx.keepBK hb10 hcs25 an
           have hNy := hNy.keepBK hb10 hcs25 an
           have hNz := hNz.keepBK hb10 hcs25 an
           have hNa := hNa.keepBK hb10 hcs25 an
           have hb10 := hb10_
           refine WL.nil (kr47 _ _ _ (kh46 _ _ _ ?_))
           refine CW.region fun kR48 kr48 => ?_
           refine WL.ev (Ev.loadA rfl rfl hb11 rfl) rfl ?_
           refine WL.ev (Ev.loadA rfl rfl hb15 rfl) rfl ?_
           refine WL.call hasF59 rfl rfl (r3Add_spec _ _ _ _ _ _ _ _ _ hq hNy (by omega) (by omega) (by omega) (by omega)) fun v w12 h' => ?_
           obtain ⟨hDb, hC⟩ := h'
           rw [val_wd, val_wd, formD_self okW, formD_self okY, show both2 addD (some (sumD (sumI (k.take i)))) (some (sumD (fvI (k.getD i 0)))) = addD (sumD (sumI (k.take i))) (sumD (fvI (k.getD i 0))) from rfl, addD_sum hWW hY hWY, ← hstW] at hDb
           obtain ⟨rb, db, hdb, rfl, hNb⟩ := hDb.resolve_right (fun q => by cases q.1)
           cases hdb
           have hch := hch.trans (Chg.any hC)
           have hb10 := hb10.keep0 hC
           have hb11 := hb11.keep0 hC
           have hb13 := hb13.keep0 hC
           have hb15 := hb15.keep0 hC
           have hb17 := hb17.keep0 hC
           have hp := hp.keep0 hC
           have hq := hq.keep0 hC
           have hNx := hNx.keep0 hC
           have hNy := hNy.keep0 hC
           have hNz := hNz.keep0 hC
           have hNa := hNa.keep0 hC
           refine Mv rfl rfl ?_
           refine WL.ev (Ev.extract rfl rfl) rfl ?_
           refine WL.ev (Ev.extract rfl rfl) rfl ?_
           refine WL.storeB rfl rfl rfl ao hb11 (by simp) rfl fun ws26 hb11_ hcs26 => ?_
           try simp only [Sx.splice, qt] at hb11_
           have hch := hch.s1 hcs26
           have hb10 := hb10.keep hcs26 (by simp; omega)
           have hb13 := hb13.keep hcs26 (by simp; omega)
           have hb15 := hb15.keep hcs26 (by simp; omega)
           have hb17 := hb17.keep hcs26 (by simp; omega)
           have hp := hp.keepBK hb11 hcs26 an
           have hq := hq.keepBK hb11 hcs26 an
           have hNx := hNx.keepBK hb11 hcs26 an
           have hNy := hNy.keepBK hb11 hcs26 an
           have hNz := hNz.keepBK hb11 hcs26 an
           have hNa := hNa.keepBK hb11 hcs26 an
           have hNb := hNb.keepBK hb11 hcs26 an
           have hb11 := hb11_
           refine WL.nil (kr48 _ _ _ (kh39 _ _ _ ?_))
           refine CW.region fun kR49 kr49 => ?_
           refine Mv rfl rfl ?_
           first | refine WL.ev (Ev.addIn rfl rfl (by omega)) rfl ?_ | refine WL.ev (Ev.add rfl rfl) rfl ?_
           refine As rfl rfl ?_
           refine WL.nil (kr49 _ _ _ ?_)
           refine ⟨rfl, (i + 1, ra, rb), ?_, ?_, ?_⟩
           ·
            repeat (first | exact Subs.nil | refine Subs.cons rfl ?_ | refine Subs.consI rfl (by omega) ?_)
           ·
            exact ⟨by dsimp only; omega, hb10, hb11, hNa, hNb, hch⟩
           ·
            show l.length - (i + 1) < l.length - i; omega
          ·
           try simp only [qs] at hc9
           have hiX : i = l.length := by omega
           subst hiX
           rw [List.take_length, heq, List.take_length] at hb10 hp
           rw [heq, List.take_length] at hb11 hq
           have hNN : InB (sumP l k) := sumP_in hff.1 hff.2 (by omega)
           have hWW : InB (sumI k) := sumI_in (by omega)
           have okN := rsumD_ok hNN
           have okW := rsumD_ok hWW
           have oN1 := okN.e
           have oW1 := okW.e
           have oN2 := okN.len
           have oW2 := okW.len
           have hq2 := hq
           obtain ⟨⟨aq, cq, heq2, hcapq, hrq⟩, hWq, hlq⟩ := hq2
           have hw0 := rsumD_m0 hWW
           refine CW.exit ?_
           refine kh33 _ _ _ ?_
           refine CW.seq fun _ kh50 => ?_
           refine Sq fun _ kh51 _ kr52 => ?_
           refine WL.ev (Ev.fieldAddr rfl) rfl ?_
           refine WL.ev (Ev.load rfl rfl (hb11.at_ rfl)) rfl ?_
           rw [heq2]
           refine WL.ev (Ev.len rfl) rfl ?_
           refine WL.ev (Ev.eql rfl rfl) rfl ?_
           refine WL.nil (kr52 _ _ _ (kh51 _ _ _ ?_))
           refine CW.cond rfl (fun hc10 => ?_) (fun hc10 => ?_)
           ·
            try simp only [qs] at hc10
            have hz : sumI k = 0 := hw0.1 (wd_eq_nil.1 (List.length_eq_zero_iff.1 (by omega)))
            refine Sq fun _ kh53 _ kr54 => ?_
            refine WL.call hasF45 rfl rfl (r13no_spec (21) _) fun v w13 h' => ?_
            obtain ⟨rfl, rfl⟩ := h'
            refine WL.ev (Ev.extract rfl rfl) rfl ?_
            refine WL.ev (Ev.extract rfl rfl) rfl ?_
            refine As rfl rfl ?_
            refine As rfl rfl ?_
            refine WL.nil (kr54 _ _ _ (kh53 _ _ _ ?_))
            refine CW.ret ?_
            refine bodyA.ret2 rfl rfl rfl ?_
            exact ⟨⟨0, 21, rfl, .inr ⟨hmd, .inr ⟨hshort, .inr ⟨heq, .inr ⟨hff, .inr ⟨h0, wt_none hmd hNN hz⟩⟩⟩⟩⟩⟩, hch⟩
           ·
            try simp only [qs] at hc10
            have hz : sumI k ≠ 0 := fun q => hc10 (by rw [q]; simp [rsumD_zero, Dy.zero, wd_zero])
            obtain ⟨_, _, _, hsg⟩ := sumD_up hWW hz
            refine CW.skip ?_
            refine kh50 _ _ _ ?_
            refine CW.seq fun _ kh55 => ?_
            refine Sq fun _ kh56 _ kr57 => ?_
            refine WL.ev (Ev.fieldAddr rfl) rfl ?_
            refine WL.ev (Ev.load rfl rfl (hb11.at_ rfl)) rfl ?_
            refine WL.nil (kr57 _ _ _ (kh56 _ _ _ ?_))
            refine CW.cond rfl (fun hc11 => ?_) (fun hc11 => ?_)
            ·
             try simp only [qs] at hc11
             have hneg : sumI k < 0 := by have hcc := hc11; rw [hsg] at hcc; simpa using hcc
             refine Sq fun _ kh58 _ kr59 => ?_
             refine WL.ev (Ev.loadA rfl rfl hb10 rfl) rfl ?_
             refine WL.call hasF60 rfl rfl (r3Neg_spec _ _ _ _ _ hp (by omega) (by omega)) fun v w14 h' => ?_
             obtain ⟨hDn, hC⟩ := h'
             rw [val_wd, negD_sum hNN] at hDn
             obtain ⟨⟨rn, rfl, hNn⟩⟩ := hDn
             have hch := hch.trans (Chg.any hC)
             have hb10 := hb10.keep0 hC
             have hb11 := hb11.keep0 hC
             have hp := hp.keep0 hC
             have hq := hq.keep0 hC
             refine WL.storeB rfl rfl rfl ao hb10 (by simp) rfl fun ws27 hb10_ hcs27 => ?_
             try simp only [Sx.splice, qt] at hb10_
             have hch := hch.s1 hcs27
             have hb11 := hb11.keep hcs27 (by simp; omega)
             have hp := hp.keepBK hb10 hcs27 an
             have hq := hq.keepBK hb10 hcs27 an
             have hNn := hNn.keepBK hb10 hcs27 an
             have hb10 := hb10_
             refine WL.nil (kr59 _ _ _ (kh58 _ _ _ ?_))
             refine CW.region fun kR60 kr60 => ?_
             refine WL.ev (Ev.loadA rfl rfl hb11 rfl) rfl ?_
             refine WL.call hasF60 rfl rfl (r3Neg_spec _ _ _ _ _ hq (by omega) (by omega)) fun v w15 h' => ?_
             obtain ⟨hDm, hC⟩ := h'
             rw [val_wd, negD_sum hWW] at hDm
             obtain ⟨⟨rm, rfl, hNm⟩⟩ := hDm
             have okN2 := rsumD_ok hNN.neg
             have okW2 := rsumD_ok hWW.neg
             have oN3 := okN2.e
             have oW3 := okW2.e
             have oN4 := okN2.len
             have oW4 := okW2.len
             have hch := hch.trans (Chg.any hC)
             have hb10 := hb10.keep0 hC
             have hb11 := hb11.keep0 hC
             have hp := hp.keep0 hC
             have hq := hq.keep0 hC
             have hNn := hNn.keep0 hC
             refine WL.storeB rfl rfl rfl ao hb11 (by simp) rfl fun ws28 hb11_ hcs28 => ?_
             try simp only [Sx.splice, qt] at hb11_
             have hch := hch.s1 hcs28
             have hb10 := hb10.keep hcs28 (by simp; omega)
             have hp := hp.keepBK hb11 hcs28 an
             have hq := hq.keepBK hb11 hcs28 an
             have hNn := hNn.keepBK hb11 hcs28 an
             have hNm := hNm.keepBK hb11 hcs28 an
             have hb11 := hb11_
             refine WL.nil (kr60 _ _ _ (kh55 _ _ _ ?_))
             refine Sq fun _ kh61 _ kr62 => ?_
             refine WL.ev (Ev.loadA rfl rfl hb10 rfl) rfl ?_
             refine WL.ev (Ev.loadA rfl rfl hb11 rfl) rfl ?_
             refine WL.ev (Ev.build (vs := _) (cs := [_, _, _, _, _, _]) rfl rfl) rfl ?_
             refine Mv rfl rfl ?_
             refine WL.call hasF61 rfl rfl (r11Quot_spec _ _ _ _ _ _ _ _ mode _ hNn hNm (by omega) (by omega) (by omega) (by omega)) fun v w16 h' => ?_
             obtain ⟨⟨bits, e, rfl, hQ⟩, hC⟩ := h'
             rw [val_wd, val_wd] at hQ
             have hch := hch.trans (Chg.any hC)
             have hb10 := hb10.keep0 hC
             have hb11 := hb11.keep0 hC
             have hp := hp.keep0 hC
             have hq := hq.keep0 hC
             have hNn := hNn.keep0 hC
             have hNm := hNm.keep0 hC
             refine WL.ev (Ev.extract rfl rfl) rfl ?_
             refine WL.ev (Ev.extract rfl rfl) rfl ?_
             refine As rfl rfl ?_
             refine As rfl rfl ?_
             refine WL.nil (kr62 _ _ _ (kh61 _ _ _ ?_))
             refine CW.ret ?_
             refine bodyA.ret2 rfl rfl rfl ?_
             exact ⟨⟨bits, e, rfl, .inr ⟨hmd, .inr ⟨hshort, .inr ⟨heq, .inr ⟨hff, .inr ⟨h0, by rw [if_pos hneg, if_pos hneg]; exact hQ⟩⟩⟩⟩⟩⟩, hch⟩
            ·
             try simp only [qs] at hc11
             have hneg : ¬ sumI k < 0 := by have hcc := hc11; rw [hsg] at hcc; simpa using hcc
             refine CW.skip ?_
             refine kh55 _ _ _ ?_
             refine Sq fun _ kh63 _ kr64 => ?_
             refine WL.ev (Ev.loadA rfl rfl hb10 rfl) rfl ?_
             refine WL.ev (Ev.loadA rfl rfl hb11 rfl) rfl ?_
             refine WL.ev (Ev.build (vs := _) (cs := [_, _, _, _, _, _]) rfl rfl) rfl ?_
             refine Mv rfl rfl ?_
             refine WL.call hasF61 rfl rfl (r11Quot_spec _ _ _ _ _ _ _ _ mode _ hp hq (by omega) (by omega) (by omega) (by omega)) fun v w17 h' => ?_
             obtain ⟨⟨bits, e, rfl, hQ⟩, hC⟩ := h'
             rw [val_wd, val_wd] at hQ
             have hch := hch.trans (Chg.any hC)
             have hb10 := hb10.keep0 hC
             have hb11 := hb11.keep0 hC
             have hp := hp.keep0 hC
             have hq := hq.keep0 hC
             refine WL.ev (Ev.extract rfl rfl) rfl ?_
             refine WL.ev (Ev.extract rfl rfl) rfl ?_
             refine As rfl rfl ?_
             refine As rfl rfl ?_
             refine WL.nil (kr64 _ _ _ (kh63 _ _ _ ?_))
             refine CW.ret ?_
             refine bodyA.ret2 rfl rfl rfl ?_
             exact ⟨⟨bits, e, rfl, .inr ⟨hmd, .inr ⟨hshort, .inr ⟨heq, .inr ⟨hff, .inr ⟨h0, by rw [if_neg hneg, if_neg hneg]; exact hQ⟩⟩⟩⟩⟩⟩, hch⟩

end Go.Proofs.YtkkklaodligpdaaGreatDoor

/- Package steelyardlaw13: MeanWeighted. No condition. -/
namespace Go.Proofs.YtkkklaodligpdaaGreatDoor
open Go Sx Wd

set_option maxRecDepth 8000 in
set_option maxHeartbeats 2000000 in
theorem MeanWeighted_spec (v : Value) (l : List Nat) (u : Value) (k : List Nat) (mode : Int) (w : World) (hg : GW w) (hvl : NF w v l ∧ l.length ≤ 17592186044415) (hkl : NF w u k ∧ k.length ≤ 17592186044415) (hmode : -9223372036854775808 ≤ mode ∧ mode ≤ 9223372036854775807) : Ret Tryz.prog 4 [v, u, .int .i64 mode] w fun u w' => u = .bool true ∧ Chg [] w w' := by
 obtain ⟨hv, hlm⟩ := hvl
 obtain ⟨hk, hkm⟩ := hkl
 have hk0 := hk
 have hWk := hk.hw
 have hlk := hk.len
 have hv0 := hv
 have hWl := hv.hw
 have hll := hv.len
 have hch : Chg [] w w := Chg.refl _ _
 have hg0 := hg
 refine Ret.enter Tryz.func4 rfl rfl ?_
 simp only [args0, Nat.zero_add, Nat.reduceAdd]
 refine Sq fun _ kh1 _ kr2 => ?_
 refine As rfl rfl ?_
 refine WL.nil (kr2 _ _ _ (kh1 _ _ _ ?_))
 refine Sq fun _ kh3 _ kr4 => ?_
 refine WL.call hasF11 rfl rfl (live_spec _ (hg0.keep0 hch)) fun v w1 h' => ?_
 obtain ⟨rfl, hC⟩ := h'
 have hch := hch.trans (Chg.any hC)
 refine As rfl rfl ?_
 refine WL.nil (kr4 _ _ _ (kh3 _ _ _ ?_))
 refine Sq fun _ kh5 _ kr6 => ?_
 refine Mv rfl rfl ?_
 refine WL.call hasF12 rfl rfl (r1Lent_spec _ l _ (hv0.keep0 hch) hlm) fun v w2 h' => ?_
 obtain ⟨b, rfl, hB, hC, hge⟩ := h'
 have hch := hch.trans (Chg.any hC)
 refine As rfl rfl ?_
 refine WL.nil (kr6 _ _ _ (kh5 _ _ _ ?_))
 refine Sq fun _ kh7 _ kr8 => ?_
 refine Mv rfl rfl ?_
 refine WL.call hasF12 rfl rfl (r1Lent_spec _ k _ (hk0.keep0 hch) hkm) fun v w3 h' => ?_
 obtain ⟨b2, rfl, hB2, hC, hge2⟩ := h'
 have hch := hch.trans (Chg.any hC)
 have hB := hB.keep0 hC
 refine As rfl rfl ?_
 refine WL.nil (kr8 _ _ _ (kh7 _ _ _ ?_))
 refine Sq fun _ kh9 _ kr10 => ?_
 refine Mv rfl rfl ?_
 refine Mv rfl rfl ?_
 refine Mv rfl rfl ?_
 refine WL.call hasF17 rfl rfl (Weighted_spec _ _ l k mode _ (NF.lent hB hWl hll (by omega)) (NF.lent hB2 hWk hlk (by omega)) (hg0.keep0 hch)) fun v w4 h' => ?_
 obtain ⟨⟨bits, e, rfl, hM⟩, hC⟩ := h'
 have hch := hch.trans (Chg.any hC)
 have hB := hB.keep0 hC
 have hB2 := hB2.keep0 hC
 refine Mv rfl rfl ?_
 refine WL.ev (Ev.extract rfl rfl) rfl ?_
 refine WL.ev (Ev.extract rfl rfl) rfl ?_
 refine As rfl rfl ?_
 refine As rfl rfl ?_
 refine WL.nil (kr10 _ _ _ (kh9 _ _ _ ?_))
 refine Sq fun _ kh11 _ kr12 => ?_
 refine Mv rfl rfl ?_
 refine Mv rfl rfl ?_
 refine WL.call hasF14 rfl rfl (r1AsLent_spec b _ l _ hB (hv0.keep0 hch)) fun v w5 h' => ?_
 obtain ⟨rfl, hC⟩ := h'
 have hch := hch.trans (Chg.any hC)
 have hB := hB.keep0 hC
 have hB2 := hB2.keep0 hC
 refine As rfl rfl ?_
 refine WL.nil (kr12 _ _ _ (kh11 _ _ _ ?_))
 refine Sq fun _ kh13 _ kr14 => ?_
 refine Mv rfl rfl ?_
 refine Mv rfl rfl ?_
 refine WL.call hasF14 rfl rfl (r1AsLent_spec b2 _ k _ hB2 (hk0.keep0 hch)) fun v w6 h' => ?_
 obtain ⟨rfl, hC⟩ := h'
 have hch := hch.trans (Chg.any hC)
 have hB := hB.keep0 hC
 have hB2 := hB2.keep0 hC
 refine As rfl rfl ?_
 refine WL.nil (kr14 _ _ _ (kh13 _ _ _ ?_))
 refine Sq fun _ kh15 _ kr16 => ?_
 refine Mv rfl rfl ?_
 refine Mv rfl rfl ?_
 refine Mv rfl rfl ?_
 refine WL.call hasF18 rfl rfl (r13Weighted_spec _ _ l k mode _ (hv0.keep0 hch) (hk0.keep0 hch)) fun v w7 h' => ?_
 obtain ⟨⟨bits2, e2, rfl, hM2⟩, hC⟩ := h'
 obtain ⟨rfl, rfl⟩ := wt_unique hM hM2
 have hch := hch.trans (Chg.any hC)
 have hB := hB.keep0 hC
 have hB2 := hB2.keep0 hC
 refine Mv rfl rfl ?_
 refine WL.ev (Ev.extract rfl rfl) rfl ?_
 refine WL.ev (Ev.extract rfl rfl) rfl ?_
 refine As rfl rfl ?_
 refine As rfl rfl ?_
 refine WL.nil (kr16 _ _ _ (kh15 _ _ _ ?_))
 refine Sq fun _ kh17 _ kr18 => ?_
 refine Mv rfl rfl ?_
 refine Mv rfl rfl ?_
 refine WL.want rfl rfl rfl rfl ?_
 refine Mv rfl rfl ?_
 refine WL.ev (Ev.pickT rfl rfl rfl) rfl ?_
 refine Mv rfl rfl ?_
 refine WL.want rfl rfl rfl rfl ?_
 refine Mv rfl rfl ?_
 refine WL.ev (Ev.pickT rfl rfl rfl) rfl ?_
 refine Mv rfl rfl ?_
 refine WL.want rfl rfl rfl rfl ?_
 refine Mv rfl rfl ?_
 refine WL.want rfl rfl rfl rfl ?_
 refine Mv rfl rfl ?_
 refine WL.want rfl rfl rfl rfl ?_
 refine WL.ev (Ev.eql rfl rfl) rfl ?_
 rw [decide_eq_true rfl]
 refine WL.ev (Ev.pickT rfl rfl rfl) rfl ?_
 refine Mv rfl rfl ?_
 refine WL.want rfl rfl rfl rfl ?_
 refine Mv rfl rfl ?_
 refine WL.want rfl rfl rfl rfl ?_
 refine Mv rfl rfl ?_
 refine WL.want rfl rfl rfl rfl ?_
 refine WL.call hasF16 rfl rfl (exact_spec _ _ _) fun v w8 h' => ?_
 obtain ⟨rfl, rfl⟩ := h'
 rw [decide_eq_true rfl]
 refine WL.ev (Ev.pickT rfl rfl rfl) rfl ?_
 refine As rfl rfl ?_
 refine WL.nil (kr18 _ _ _ (kh17 _ _ _ ?_))
 refine CW.ret ?_
 refine bodyA.ret1 rfl rfl ?_
 exact ⟨rfl, hch⟩

end Go.Proofs.YtkkklaodligpdaaGreatDoor

/- What came in, opened; the listed table, opened. No condition. -/
namespace Go.Proofs.YtkkklaodligpdaaGreatDoor
open Go Sx Wd
open Go.ChangeShapes Go.WideShapes Go.ChangeAt Go.WideMaps Go.WideElems Go.RowKit

theorem own : ownKnob Tryz.prog.godebug = none := by kernel_rfl
theorem laidOut : laidOutB Tryz.prog = true := by kernel_rfl
theorem door_met (os : Os) (args : Array Value) : laidMetH Tryz.prog [("math/bits.deBruijn32tab", Rows.laid_math_bits_deBruijn32tab)] ((World.doorLaid Tryz.prog 400 os).forCall (fun _ _ => 0) ⟨#[], args, []⟩).memory :=
  laidMetH_of_parts3 (fuel := 8) (laidMet_of_run' 8 (by kernel_rfl) (by kernel_rfl)) (by kernel_rfl) (by kernel_rfl)
theorem gDeb : Tryz.prog.globalNamed "math/bits.deBruijn32tab" = some 1 := by kernel_rfl
theorem tDeb : (Tryz.prog.globals[1]?).map (·.type) = some 216 := by kernel_rfl
theorem deb_data {H : Type} : (Rows.laid_math_bits_deBruijn32tab : DataW H) = .agg (deb.map fun n : Nat => .lit (.int .u8 (n : Int))) := rfl
theorem gw_of_laid {W : World} (h : laidMetH Tryz.prog [("math/bits.deBruijn32tab", Rows.laid_math_bits_deBruijn32tab)] W) : GW W := by
  rw [MakeChecks.laidMetH_plain _ _ _ (by kernel_rfl)] at h
  obtain ⟨ps, ⟨g0, t0, cs0, f0, p0, q0, hg0, ht0, hv0, hd0, _, _⟩, _, _⟩ := h
  obtain rfl := Option.some.inj (gDeb.symm.trans hg0)
  obtain rfl := Option.some.inj (tDeb.symm.trans ht0)
  obtain ⟨xs, m1, rfl, hx1, hlen, hn3, hel⟩ := DataW.trod_array Tryz.underlying216 hd0
  have c8 : Tryz.prog.cellsOf 5 = 1 := by kernel_rfl
  simp only [Prod.mk.injEq] at hx1
  intro i hi
  have hi' := hel i hi
  rw [c8, Nat.mul_one] at hi'
  have hxi : xs[i]? = some (xs[i]'(by omega)) := List.getElem?_eq_getElem (by omega)
  rw [hxi] at hi'
  obtain ⟨k, e1, e2, _⟩ := DataW.trod_int Tryz.underlying5 hi'
  have hxs : (deb.map fun n : Nat => (DataW.lit (.int .u8 (n : Int)) : DataW Unit)) = xs.map (·.1) := by
    have := hx1.1
    rw [deb_data] at this
    exact DataW.agg.inj this
  have hdat : (deb.map fun n : Nat => (DataW.lit (.int .u8 (n : Int)) : DataW Unit))[i]? = some (.lit (.int .u8 ((deb.getD i 0 : Nat) : Int))) := by
    rw [List.getElem?_map, List.getElem?_eq_getElem (show i < deb.length from hi), List.getD_eq_getElem?_getD, List.getElem?_eq_getElem (show i < deb.length from hi)]; rfl
  rw [hxs, List.getElem?_map, hxi] at hdat
  simp only [Option.map_some] at hdat
  rw [e2] at hdat
  have hk : k = ((deb.getD i 0 : Nat) : Int) := by
    have := Option.some.inj hdat
    simp only [DataW.lit.injEq, Lit.int.injEq, true_and] at this
    exact this
  subst hk
  have hc : cs0[i]? = some (.int .u8 ((deb.getD i 0 : Nat) : Int)) := by
    have h3 : (cs0.toList.drop i)[0]? = some (.int .u8 ((deb.getD i 0 : Nat) : Int)) := by
      have := congrArg (fun l : List Value => l[0]?) e1
      simpa using this
    simpa using h3
  have := World.var?_cell hg0 hv0 i
  rw [hc] at this
  exact this

/-- One float cell, read. -/
theorem float_cell {H : Type} {enc : TypeId × Value → H} {P : Program} {w : World} {base : Nat} {spare : Nat → Bool} {held : Bool} {n : Nat} {e : TypeId} {v : Value} {x : DataW H × List MemPlace} (he : P.underlying e = some (.float .f64)) (h : DataW.trod enc P w base spare held n e [v] = some x) : ∃ b, v = .float .f64 b ∧ b < 18446744073709551616 := by
  cases n with
  | zero => simp [DataW.trod] at h
  | succ n =>
    simp only [DataW.trod, he] at h
    cases v <;> simp_all
    rename_i k b
    cases k <;> simp_all [Lit.wf]
/-- A slice of floats that came in. -/
theorem open_nf {H : Type} {enc : TypeId × Value → H} {P : Program} {w : World} {base b0 : Nat} {spare : Nat → Bool} {held : Bool} {t e : TypeId} {v : Value} {d : DataW H} {ps : List MemPlace} (ht : P.underlying t = some (.slice e)) (he : P.underlying e = some (.float .f64)) (hc : P.cellsOf e = 1) (hb : P.bytesOf e = 8) (hval : Value.okWide P w .any b0 t v) (h : DataW.Trod enc P w base spare held t v d ps)
    (hsz : ∀ elems spare', d = .slice elems spare' → (elems.length + spare'.length) * P.bytesOf e ≤ reachBytes) : ∃ l : List Nat, NF w v l ∧ l.length ≤ 17592186044415 := by
  obtain ⟨a, len, cap, rfl⟩ := okWide_slice ht hval
  obtain ⟨fuel, hf⟩ := h
  rcases Go.Deep.open_slice1 ht hc hf with ⟨hcs, _⟩ | ⟨ad, l, c, m, n, V, D, Pl, hcs, _, hlc, hcm, hm, hx, hV⟩
  · simp [Value.cells] at hcs
    obtain ⟨rfl, rfl, rfl⟩ := hcs
    exact ⟨[], ⟨⟨none, 0, rfl, Nat.le_refl _, RW.nil⟩, fun x hx => (by cases hx), by decide⟩, by decide⟩
  · simp [Value.cells] at hcs
    obtain ⟨rfl, rfl, rfl⟩ := hcs
    have hlm : len ≤ m := by rw [hm]; split <;> omega
    simp only [Prod.mk.injEq] at hx
    have h8 := hsz _ _ hx.1
    rw [hb] at h8
    simp only [List.length_map, List.length_range] at h8
    have hr : reachBytes = 140737488351232 := by decide
    have hlen : len ≤ 17592186044415 := by omega
    obtain ⟨f, hf2⟩ := Go.Deep.choose_lt (α := Nat) (n := len) (p := fun i b => V i = .float .f64 b ∧ b < 18446744073709551616) (fun i hi => float_cell he (hV i (by omega)).2)
    refine ⟨(List.range len).map f, ⟨⟨some ad, cap, by simp, by simpa using hlc, fun i y hy => ?_⟩, fun y hy => ?_, by simp; omega⟩, by simpa using hlen⟩
    · have hi : i < len := by
        by_cases q : i < len
        · exact q
        · rw [List.getElem?_eq_none (by simp; omega)] at hy; cases hy
      simp [List.getElem?_range hi] at hy
      subst hy
      exact ⟨ad, rfl, by rw [(hV i (by omega)).1, (hf2 i hi).1]; rfl⟩
    · obtain ⟨i, hi, rfl⟩ := List.mem_map.1 hy
      exact (hf2 i (List.mem_range.1 hi)).2
end Go.Proofs.YtkkklaodligpdaaGreatDoor

/- The statement on MeanWeighted. -/
namespace Go.Proofs.YtkkklaodligpdaaGreatDoor.meanWeighted
open Go.ChangeShapes Go.WideShapes Go.ChangeAt Go.RowKit

set_option maxRecDepth 100000 in
theorem lifted (os : Os) (started : os.Started) (H : Type) (enc : TypeId × Value → H) :
    ReturnsInHanded {} Tryz.checked os 4 .any (fun w args => (Rows.meanWeightedSpec.pre enc Tryz.prog Tryz.f4 Rows.meanWeightedRow.domain false w args ∧ laidMetH Tryz.prog [("math/bits.deBruijn32tab", Rows.laid_math_bits_deBruijn32tab)] w) ∧ sizedMet enc Tryz.prog Tryz.f4 (OpenSpec.ofChange Rows.meanWeightedSpec) false w args) (Rows.meanWeightedSpec.post enc Tryz.prog Tryz.f4 false true false false) := by
  refine returnsInHanded_of_change_and (C := Tryz.checked) (X := fun w _ => laidMetH Tryz.prog [("math/bits.deBruijn32tab", Rows.laid_math_bits_deBruijn32tab)] w) (fun _ _ _ hh h => h.of_heap hh) own started (by kernel_rfl) Tryz.func4
    (ChangeSpec.witness_shaped (enc := enc) (C := Tryz.checked) (os := os) (X := fun w _ => laidMetH Tryz.prog [("math/bits.deBruijn32tab", Rows.laid_math_bits_deBruijn32tab)] w) false (World.doorLaid Tryz.prog 400 os) #[.slice none 0 0, .slice none 0 0, .int .i64 0] 8 rfl (World.shaped_of_RefB (by kernel_rfl) (by kernel_rfl)) (by kernel_rfl) (by kernel_rfl) (by kernel_rfl) (door_met os _)) ?_
  intro W base args ds gs before hval0 hW hcnd hsz0 hL _
  have hGW := gw_of_laid hL
  have hval : ∀ (j : Nat) t v, Tryz.f4.params[j]? = some t → args[j]? = some v → Value.okWide Tryz.prog W .any base t v := hval0
  have hsz : (DataW.weightsEach Tryz.prog (Tryz.f4.params.toList ++ []) (ds ++ gs)).all (· ≤ reachBytes) = true := hsz0
  have hW' := hW
  obtain ⟨p, q, hA0, hV, rfl, hfz, hnd⟩ := hW
  have hA : DataW.TrodAll enc Tryz.prog W 0 (fun _ => true) true Tryz.f4.params.toList args.toList ds p := hA0
  rw [Tryz.params4] at hA hval hsz
  obtain ⟨v0, vs0, d0, ds0, p0, q0, hargs, rfl, rfl, h0, r0⟩ := trodAll_cons hA
  obtain ⟨v1, vs1, d1, ds1, p1, q1, rfl, rfl, rfl, h1, r1⟩ := trodAll_cons r0
  obtain ⟨v2, vs2, d2, ds2, p2, q2, rfl, rfl, rfl, h2, r2⟩ := trodAll_cons r1
  obtain ⟨rfl, rfl, rfl⟩ := trodAll_nil r2
  obtain rfl : args = #[v0, v1, v2] := by cases args; simp_all
  obtain ⟨rfl, rfl⟩ := trodVars_none hV
  simp only [List.append_nil] at hsz
  have k0 := h0
  have lt0 : ∀ x ∈ p0, x.block < W.heap.size := by obtain ⟨m, hm⟩ := k0; exact DataW.trod_lt m _ _ _ hm
  obtain ⟨l0, nf0⟩ := open_nf Tryz.underlying22 Tryz.underlying27 (by kernel_rfl) (by kernel_rfl) (hval 0 22 v0 rfl rfl) h0 (fun elems spare hd => sized_slice (j := 0) hsz rfl (by rw [← hd]; rfl) Tryz.underlying22)
  have k1 := h1
  have lt1 : ∀ x ∈ p1, x.block < W.heap.size := by obtain ⟨m, hm⟩ := k1; exact DataW.trod_lt m _ _ _ hm
  obtain ⟨l1, nf1⟩ := open_nf Tryz.underlying22 Tryz.underlying27 (by kernel_rfl) (by kernel_rfl) (hval 1 22 v1 rfl rfl) h1 (fun elems spare hd => sized_slice (j := 1) hsz rfl (by rw [← hd]; rfl) Tryz.underlying22)
  have k2 := h2
  have lt2 : ∀ x ∈ p2, x.block < W.heap.size := by obtain ⟨m, hm⟩ := k2; exact DataW.trod_lt m _ _ _ hm
  obtain ⟨a2, rfl, _, _, wf2⟩ := open_int Tryz.underlying3 (hval 2 3 v2 rfl rfl) h2
  have bd2 := bounds_i64 wf2
  clear hA0 hval0
  refine Calls.mono (MeanWeighted_spec v0 l0 v1 l1 a2 W hGW nf0 nf1 bd2) fun e W' ⟨v, he, hv, hc⟩ => ?_
  subst he
  subst hv
  have bel : Below W.heap.size W W' := hc.below
  exact ⟨_, rfl, _, _, _, [], _, [], hW', trodAll_mk1 (shut_bool Tryz.underlying4 _), (trodAll_cons_mk (Below.trod laidOut (by kernel_rfl) (of_decide_eq_true (by kernel_rfl)) k0 bel lt0) (trodAll_cons_mk (Below.trod laidOut (by kernel_rfl) (of_decide_eq_true (by kernel_rfl)) k1 bel lt1) (trodAll_cons_mk (Below.trod laidOut (by kernel_rfl) (of_decide_eq_true (by kernel_rfl)) k2 bel lt2) trodAll_mk0))), rfl, bel.frame _, fun h => by cases h⟩

theorem over : Rows.meanWeightedRow.holds Tryz.pinned (OpenSpec.ofChange Rows.meanWeightedSpec) :=
  OpenClaim.holds_of_wide 4 Tryz.f4 rfl rfl rfl rfl rfl rfl rfl ⟨rfl, rfl, rfl, rfl, rfl⟩ rfl rfl rfl rfl rfl (by kernel_rfl) Tryz.func4 (by kernel_rfl)
    (of_decide_eq_true (by kernel_rfl)) (by unfold Func.isWrapper; first | (rw [if_pos (by decide +kernel)]; kernel_rfl) | (rw [if_neg (by decide +kernel)]; exact ⟨rfl, rfl⟩))
    (fun os started H enc _ => lifted os started H enc)

theorem proved : Rows.MeanWeightedCardSaid :=
  Claim7.holds_tied_plain_at .later [] [.data] true Rows.meanWeightedCard.stood.harness false
    over (fun _ h => by cases h) (by kernel_rfl) (fun _ h => by cases h) meanWeighted_row_tie rfl ⟨rfl, rfl⟩ (by kernel_rfl) rfl
    (fun f fn hf hfn => by
      obtain rfl : f = 4 := Option.some.inj ((show Tryz.prog.funcNamed "steelyard/steelyardlaw13.MeanWeighted" = some 4 by kernel_rfl).symm.trans hf) |>.symm
      obtain rfl : fn = Tryz.f4 := (Option.some.inj (Tryz.func4.symm.trans hfn)).symm
      exact ⟨by kernel_rfl, fun j t ht => by
        have hm : t ∈ Tryz.f4.params.toList := by simpa using Array.mem_of_getElem? ht
        have hall : (Tryz.f4.params.toList.all fun u => !Tryz.prog.wantsStandIn u) = true := by kernel_rfl
        exact (show Tryz.prog.wantsStandIn t = false by simpa using List.all_eq_true.1 hall t hm)⟩)
    (by kernel_rfl)
end Go.Proofs.YtkkklaodligpdaaGreatDoor.meanWeighted
