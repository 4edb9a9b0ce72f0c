/- The statement on MeanNearest. -/
import Derived.Test.YtphnpchmdpjabaaGreatDoorNs4
import Derived.Laws.StructEq
import Derived.WalkKit
import Derived.ProofKit
import Derived.OpenShut
import Derived.ChangeOld
import Derived.Below
import Derived.Deep.Slices
import Derived.Laws.Cover2
import Derived.LaidMore
import Derived.SizedLaws
import Derived.SevenTiedAt
import Derived.Stop.Joined
import Derived.Test.YtphnpchmdpjabaaGreatDoorRows
import Derived.Test.YtphnpchmdpjabaaGreatDoorTie
import Derived.Test.YtphnpchmdpjabaaGreatDoorCards
set_option linter.unusedVariables false
set_option linter.unusedSimpArgs false
/- Package mean: Weighted. No condition. -/
namespace Go.Proofs.YtphnpchmdpjabaaGreatDoor
open Go Sx Wd
set_option exponentiation.threshold 5000

theorem sumD_zero : sumD 0 = Dy.zero := rfl
theorem sumD_form {S : Int} (h1 : -((16384 * BB : Nat) : Int) < S) (h2 : S < (16384 * BB : Nat)) (h0 : S ≠ 0) : sumD S = ⟨decide (S < 0), S.natAbs / 2 ^ tz S.natAbs, -2148 + tz S.natAbs⟩ := by
  unfold sumD
  rw [sumD_eq h1 h2, if_neg h0]; rfl
theorem sumD_m0 {S : Int} (h1 : -((16384 * BB : Nat) : Int) < S) (h2 : S < (16384 * BB : Nat)) : (sumD S).m = 0 ↔ S = 0 := by
  constructor
  · intro h
    apply Classical.byContradiction
    intro h0
    rw [sumD_form h1 h2 h0] at h
    have := (tz_spec (n := S.natAbs) (by omega)).1
    simp only at h
    rw [h] at this; cases this
  · intro h; rw [h]; rfl
theorem sumD_sg {S : Int} (h1 : -((16384 * BB : Nat) : Int) < S) (h2 : S < (16384 * BB : Nat)) : sgD (sumD S).neg (sumD S).m = if S < 0 then -1 else if S = 0 then 0 else 1 := by
  by_cases h0 : S = 0
  · subst h0; rfl
  · have hm : (sumD S).m ≠ 0 := fun e => h0 ((sumD_m0 h1 h2).1 e)
    unfold sgD
    rw [if_neg hm, sumD_form h1 h2 h0]
    by_cases h : S < 0
    · simp [h]
    · simp [h, h0]
theorem sumD_neg {S : Int} (h1 : -((16384 * BB : Nat) : Int) < S) (h2 : S < (16384 * BB : Nat)) : negD (formD (!(sumD S).neg) (sumD S).m (sumD S).e) = sumD (-S) := by
  by_cases h0 : S = 0
  · subst h0; rfl
  · have hok := sumD_ok h1 h2
    have h3 := formD_self hok
    have hm : (sumD S).m ≠ 0 := fun e => h0 ((sumD_m0 h1 h2).1 e)
    rw [sumD_form (S := -S) (by omega) (by omega) (by omega), Int.natAbs_neg]
    unfold formD at h3 ⊢
    rw [if_neg hm] at h3 ⊢
    unfold negD
    split at h3
    · cases h3
    · rename_i hq
      rw [if_neg hq]
      have h4 := Option.some.inj h3
      have h5 := congrArg Dy.m h4
      have h6 := congrArg Dy.e h4
      simp only at h5 h6
      show (⟨!(sumD S).neg, (sumD S).m / 2 ^ tz (sumD S).m, (sumD S).e + tz (sumD S).m⟩ : Dy) = _
      rw [h5, h6, sumD_form h1 h2 h0]
      have : (!decide (S < 0)) = decide (-S < 0) := by
        by_cases q : S < 0
        · rw [decide_eq_true q, decide_eq_false (by omega)]; rfl
        · rw [decide_eq_false q, decide_eq_true (by omega)]; rfl
      rw [this]
def QuoD (N W : Int) (mode : Int) (bits : Nat) (e : Int) : Prop := QuotP (sumD N).neg (sumD W).neg (sumD N).m (sumD W).m (sumD N).e (sumD W).e mode bits e
/-- What Weighted answers. -/
def wtR (l k : List Nat) (mode : Int) (bits : Nat) (e : Int) : Prop :=
  (¬ (0 ≤ mode ∧ mode ≤ 4) ∧ bits = 0 ∧ e = 1) ∨ ((0 ≤ mode ∧ mode ≤ 4) ∧
    (((65536 < l.length ∨ 65536 < k.length) ∧ bits = 0 ∧ e = 2) ∨ (¬ (65536 < l.length ∨ 65536 < k.length) ∧
      ((l.length ≠ k.length ∧ bits = 0 ∧ e = 4) ∨ (l.length = k.length ∧
        ((¬ (finL l ∧ finL k) ∧ bits = 0 ∧ e = 30) ∨ ((finL l ∧ finL k) ∧
          ((l = [] ∧ bits = 0 ∧ e = 3) ∨ (l ≠ [] ∧ QuoD (if sumI k < 0 then -sumP l k else sumP l k) (if sumI k < 0 then -sumI k else sumI k) mode bits e)))))))))
structure KWt (l k : List Nat) (b b6 b7 : Nat) (w0 : World) (g : Nat × List Nat × SP) (w : World) : Prop where
  hi : g.1 ≤ l.length
  hB : TB w b 107 g.2.1 g.2.2.cells
  hr : Rep g.2.1 (sumP (l.take g.1) (k.take g.1))
  hs : g.2.2.le g.1
  h6 : BK w b6 28 [.float .f64 0]
  h7 : BK w b7 29 [.int .i64 0]
  ch : Chg [] w0 w

set_option maxRecDepth 8000 in
set_option maxHeartbeats 2000000 in
theorem Weighted_spec (v1 v2 : Value) (l k : List Nat) (mode : Int) (w : World) (hv : NF w v1 l) (hk : NF w v2 k) (hg : GW w) : Ret Tryz.prog 25 [v1, v2, .int .i64 mode] w fun u w' => (∃ bits e, u = .tuple [.float .f64 bits, .int .i64 e].toArray ∧ wtR l k mode bits e) ∧ Chg [] w w' := by
 have hch : Chg [] w w := Chg.refl _ _
 have hv0 := hv
 have hk0 := hk
 obtain ⟨⟨al, cl, rfl, hcapl, hrl⟩, hWl, hll⟩ := hv
 obtain ⟨⟨ak, ck, rfl, hcapk, hrk⟩, hWk, hlk⟩ := hk
 have hg0 := hg
 refine Ret.enterD 31 hasF31 Tryz.func25 rfl rfl ?_
 simp only [args0, Nat.zero_add, Nat.reduceAdd]
 refine Sr fun _ kh1 => ?_
 refine WL.allocB (l := [.float .f64 0]) rfl rfl fun b6 wm6 hb6 hcm6 hge6 => ?_
 have hgehch6 := Nat.le_trans hch.size hge6
 have hch := hch.trans (Chg.any hcm6)
 refine WL.allocB (l := [.int .i64 0]) rfl rfl fun b7 wm7 hb7 hcm7 hge7 => ?_
 have hgehch7 := Nat.le_trans hch.size hge7
 have hch := hch.trans (Chg.any hcm7)
 have hneb67 : b6 ≠ b7 := by have := hb6.lt; omega
 have hb6 := hb6.keep0 hcm7
 refine zz (kh1 (Sr fun _ kh3 => ?_))
 refine WL.defer rfl ?_
 refine zz (kh3 (zc fun _ kh5 => ?_))
 refine CW.block ?_
 refine Sr fun _ kh6 => zm rfl ?_
 refine WL.call hasF32 rfl rfl (right_spec mode _) fun v w1 h' => ?_
 obtain ⟨rfl, rfl⟩ := h'
 refine WL.ev (Ev.not rfl) rfl ?_
 refine za rfl (zz (kh6 ?_))
 refine CW.cond rfl (fun hc1 => ?_) (fun hc1 => ?_)
 ·
  try simp only [qs] at hc1
  have hmode : ¬ (0 ≤ mode ∧ mode ≤ 4) := by simpa using hc1
  refine Sr fun _ kh8 => ?_
  refine WL.storeC rfl rfl o1 hb6 (by simp) rfl fun ws16 hb6_ hcs16 => ?_
  try simp only [Sx.splice, qt] at hb6_
  have hch := hch.s1 hcs16
  have hb7 := hb7.keep hcs16 (by simp; omega)
  have hb6 := hb6_
  refine WL.storeC rfl rfl o1 hb7 (by simp) rfl fun ws17 hb7_ hcs17 => ?_
  try simp only [Sx.splice, qt] at hb7_
  have hch := hch.s1 hcs17
  have hb6 := hb6.keep hcs17 (by simp; omega)
  have hb7 := hb7_
  refine zz (kh8 ?_)
  refine CW.ret ?_
  refine clean_door rfl rfl rfl hb6 hb7 hneb67 fun w9 hc9 => ?_
  have hch := hch.step hc9 (fun y hy => by simp only [List.mem_singleton] at hy; subst hy; exact .inr (by omega))
  exact ⟨⟨_, _, rfl, .inl ⟨hmode, rfl, rfl⟩⟩, hch⟩
 ·
  try simp only [qs] at hc1
  have hmode : 0 ≤ mode ∧ mode ≤ 4 := by simpa using hc1
  refine CW.seqM 15 (decide (65536 < l.length ∨ 65536 < k.length)) ?_ ?_
  ·
   refine CW.region fun kR10 kr10 => ?_
   refine zm rfl (zn rfl ?_)
   refine WL.ev (Ev.gtr rfl rfl) rfl ?_
   refine zm rfl ?_
   refine WL.boolCase (fun hg2 => ?_) (fun hg2 => ?_)
   ·
    try simp only [qs] at hg2
    refine zv rfl (zv rfl (zv rfl (zt rfl rfl (za rfl ?_))))
    refine WL.nil (kr10 _ _ _ ?_)
    refine ⟨rfl, rfl, Subs.consB rfl ?_ ?_⟩
    ·
     first | (simp; omega) | (refine decide_eq_decide.2 ?_; omega)
    ·
     exact SMg
   ·
    try simp only [qs] at hg2
    refine zw rfl (zm rfl (zw rfl (zn rfl (zw rfl ?_))))
    refine WL.ev (Ev.gtr rfl rfl) rfl ?_
    refine ze rfl rfl (za rfl ?_)
    refine WL.nil (kr10 _ _ _ ?_)
    refine ⟨rfl, rfl, Subs.consB rfl ?_ ?_⟩
    ·
     first | (simp; omega) | (refine decide_eq_decide.2 ?_; omega)
    ·
     exact SMg
  ·
   refine CW.cond rfl (fun hc3 => ?_) (fun hc3 => ?_)
   ·
    try simp only [qs] at hc3
    have hlong : 65536 < l.length ∨ 65536 < k.length := hc3
    refine Sr fun _ kh11 => ?_
    refine WL.storeC rfl rfl o1 hb6 (by simp) rfl fun ws18 hb6_ hcs18 => ?_
    try simp only [Sx.splice, qt] at hb6_
    have hch := hch.s1 hcs18
    have hb7 := hb7.keep hcs18 (by simp; omega)
    have hb6 := hb6_
    refine WL.storeC rfl rfl o1 hb7 (by simp) rfl fun ws19 hb7_ hcs19 => ?_
    try simp only [Sx.splice, qt] at hb7_
    have hch := hch.s1 hcs19
    have hb6 := hb6.keep hcs19 (by simp; omega)
    have hb7 := hb7_
    refine zz (kh11 ?_)
    refine CW.ret ?_
    refine clean_door rfl rfl rfl hb6 hb7 hneb67 fun w9 hc9 => ?_
    have hch := hch.step hc9 (fun y hy => by simp only [List.mem_singleton] at hy; subst hy; exact .inr (by omega))
    exact ⟨⟨_, _, rfl, .inr ⟨hmode, .inl ⟨hlong, rfl, rfl⟩⟩⟩, hch⟩
   ·
    try simp only [qs] at hc3
    have hlong : ¬ (65536 < l.length ∨ 65536 < k.length) := by have := hc3; omega
    refine Sr fun _ kh13 => zm rfl (zn rfl (zm rfl (zn rfl ?_)))
    refine WL.ev (Ev.neq rfl rfl) rfl ?_
    refine za rfl (zz (kh13 ?_))
    refine CW.cond rfl (fun hc4 => ?_) (fun hc4 => ?_)
    ·
     try simp only [qs] at hc4
     have hlen : l.length ≠ k.length := by omega
     refine Sr fun _ kh15 => ?_
     refine WL.storeC rfl rfl o1 hb6 (by simp) rfl fun ws20 hb6_ hcs20 => ?_
     try simp only [Sx.splice, qt] at hb6_
     have hch := hch.s1 hcs20
     have hb7 := hb7.keep hcs20 (by simp; omega)
     have hb6 := hb6_
     refine WL.storeC rfl rfl o1 hb7 (by simp) rfl fun ws21 hb7_ hcs21 => ?_
     try simp only [Sx.splice, qt] at hb7_
     have hch := hch.s1 hcs21
     have hb6 := hb6.keep hcs21 (by simp; omega)
     have hb7 := hb7_
     refine zz (kh15 ?_)
     refine CW.ret ?_
     refine clean_door rfl rfl rfl hb6 hb7 hneb67 fun w9 hc9 => ?_
     have hch := hch.step hc9 (fun y hy => by simp only [List.mem_singleton] at hy; subst hy; exact .inr (by omega))
     exact ⟨⟨_, _, rfl, .inr ⟨hmode, .inr ⟨hlong, .inl ⟨hlen, rfl, rfl⟩⟩⟩⟩, hch⟩
    ·
     try simp only [qs] at hc4
     have hlen : l.length = k.length := by omega
     refine Sr fun _ kh17 => zm rfl ?_
     refine WL.call hasF62 rfl rfl (mfinite_spec _ l _ (hv0.keep0 hch)) fun v w2 h' => ?_
     obtain ⟨rfl, hC32⟩ := h'
     have hch := hch.trans (Chg.any hC32)
     have hb6 := hb6.keep0 hC32
     have hb7 := hb7.keep0 hC32
     refine WL.ev (Ev.not rfl) rfl ?_
     refine zm rfl ?_
     refine WL.boolCase (fun hg5 => ?_) (fun hg5 => ?_)
     ·
      try simp only [qs] at hg5
      have hf1 : ¬ finL l := by simpa using hg5
      refine zv rfl (zv rfl (zv rfl (zt rfl rfl (za rfl (zz (kh17 ?_))))))
      refine CW.condT rfl ?_
      refine Sr fun _ kh19 => ?_
      refine WL.storeC rfl rfl o1 hb6 (by simp) rfl fun ws22 hb6_ hcs22 => ?_
      try simp only [Sx.splice, qt] at hb6_
      have hch := hch.s1 hcs22
      have hb7 := hb7.keep hcs22 (by simp; omega)
      have hb6 := hb6_
      refine WL.storeC rfl rfl o1 hb7 (by simp) rfl fun ws23 hb7_ hcs23 => ?_
      try simp only [Sx.splice, qt] at hb7_
      have hch := hch.s1 hcs23
      have hb6 := hb6.keep hcs23 (by simp; omega)
      have hb7 := hb7_
      refine zz (kh19 ?_)
      refine CW.ret ?_
      refine clean_door rfl rfl rfl hb6 hb7 hneb67 fun w9 hc9 => ?_
      have hch := hch.step hc9 (fun y hy => by simp only [List.mem_singleton] at hy; subst hy; exact .inr (by omega))
      exact ⟨⟨_, _, rfl, .inr ⟨hmode, .inr ⟨hlong, .inr ⟨hlen, .inl ⟨fun h => hf1 h.1, rfl, rfl⟩⟩⟩⟩⟩, hch⟩
     ·
      try simp only [qs] at hg5
      have hf1 : finL l := by simpa using hg5
      refine zw rfl (zm rfl (zw rfl ?_))
      refine WL.call hasF62 rfl rfl (mfinite_spec _ k _ (hk0.keep0 hch)) fun v w3 h' => ?_
      obtain ⟨rfl, hC36⟩ := h'
      have hch := hch.trans (Chg.any hC36)
      have hb6 := hb6.keep0 hC36
      have hb7 := hb7.keep0 hC36
      refine zw rfl ?_
      refine WL.ev (Ev.not rfl) rfl ?_
      refine ze rfl rfl (za rfl (zz (kh17 ?_)))
      refine CW.cond rfl (fun hc6 => ?_) (fun hc6 => ?_)
      ·
       try simp only [qs] at hc6
       have hf2 : ¬ finL k := by simpa using hc6
       refine Sr fun _ kh21 => ?_
       refine WL.storeC rfl rfl o1 hb6 (by simp) rfl fun ws24 hb6_ hcs24 => ?_
       try simp only [Sx.splice, qt] at hb6_
       have hch := hch.s1 hcs24
       have hb7 := hb7.keep hcs24 (by simp; omega)
       have hb6 := hb6_
       refine WL.storeC rfl rfl o1 hb7 (by simp) rfl fun ws25 hb7_ hcs25 => ?_
       try simp only [Sx.splice, qt] at hb7_
       have hch := hch.s1 hcs25
       have hb6 := hb6.keep hcs25 (by simp; omega)
       have hb7 := hb7_
       refine zz (kh21 ?_)
       refine CW.ret ?_
       refine clean_door rfl rfl rfl hb6 hb7 hneb67 fun w9 hc9 => ?_
       have hch := hch.step hc9 (fun y hy => by simp only [List.mem_singleton] at hy; subst hy; exact .inr (by omega))
       exact ⟨⟨_, _, rfl, .inr ⟨hmode, .inr ⟨hlong, .inr ⟨hlen, .inl ⟨fun h => hf2 h.2, rfl, rfl⟩⟩⟩⟩⟩, hch⟩
      ·
       try simp only [qs] at hc6
       have hf2 : finL k := by simpa using hc6
       have hfin : finL l ∧ finL k := ⟨hf1, hf2⟩
       refine Sr fun _ kh23 => zm rfl (zn rfl (zq rfl rfl (za rfl (zz (kh23 ?_)))))
       refine CW.cond rfl (fun hc7 => ?_) (fun hc7 => ?_)
       ·
        try simp only [qs] at hc7
        have hnil : l = [] := List.length_eq_zero_iff.1 (by omega)
        refine Sr fun _ kh25 => ?_
        refine WL.storeC rfl rfl o1 hb6 (by simp) rfl fun ws26 hb6_ hcs26 => ?_
        try simp only [Sx.splice, qt] at hb6_
        have hch := hch.s1 hcs26
        have hb7 := hb7.keep hcs26 (by simp; omega)
        have hb6 := hb6_
        refine WL.storeC rfl rfl o1 hb7 (by simp) rfl fun ws27 hb7_ hcs27 => ?_
        try simp only [Sx.splice, qt] at hb7_
        have hch := hch.s1 hcs27
        have hb6 := hb6.keep hcs27 (by simp; omega)
        have hb7 := hb7_
        refine zz (kh25 ?_)
        refine CW.ret ?_
        refine clean_door rfl rfl rfl hb6 hb7 hneb67 fun w9 hc9 => ?_
        have hch := hch.step hc9 (fun y hy => by simp only [List.mem_singleton] at hy; subst hy; exact .inr (by omega))
        exact ⟨⟨_, _, rfl, .inr ⟨hmode, .inr ⟨hlong, .inr ⟨hlen, .inr ⟨hfin, .inl ⟨hnil, rfl, rfl⟩⟩⟩⟩⟩⟩, hch⟩
       ·
        try simp only [qs] at hc7
        have hnn : l ≠ [] := fun e => by rw [e] at hc7; exact hc7 rfl
        have hinN := sumP_in hf1 hf2 (by omega)
        have hinW := sumI_in (l := k) (by omega)
        refine CW.skip ?_
        refine kh5 (Sr fun _ kh27 => ?_)
        refine WL.call hasF26 rfl rfl (New_spec _) fun v w4 h' => ?_
        obtain ⟨b, rfl, hB6, hge6, hC43⟩ := h'
        have hbge : w.heap.size ≤ b := Nat.le_trans hch.size hge6
        have hnb6 : b6 ≠ b := by have := hb6.lt; omega
        have hnb7 : b7 ≠ b := by have := hb7.lt; omega
        have hch := hch.trans (Chg.any hC43)
        have hb6 := hb6.keep0 hC43
        have hb7 := hb7.keep0 hC43
        refine za rfl (zz (kh27 (zc fun _ kh29 => Sr fun _ kh30 => zm rfl (zn rfl (zm rfl (zz (kh30 ?_)))))))
        refine CW.block ?_
        refine CW.loop (S := fun g : Nat × List Nat × SP => [(0, .slice al l.length cl), (1, .slice ak k.length ck), (2, .int .i64 mode), (6, .pointer (some ⟨b6, 0, none⟩)), (7, .pointer (some ⟨b7, 0, none⟩)), (8, .pointer (some ⟨b, 0, none⟩)), (45, .int .i64 (l.length : Int)), (46, .int .i64 (g.1 : Int))]) (Inv := KWt l k b b6 b7 w) (mu := fun g => l.length - g.1) ((0, List.replicate 67 0, SP.zero)) ?_ ?_ ?_
        ·
         exact ⟨Nat.zero_le _, hB6, by rw [List.take_zero, List.take_zero]; exact Rep.zero, ⟨by decide, by decide, by decide, by decide, by decide, by decide⟩, hb6, hb7, hch⟩
        ·
         exact SLp
        ·
         rintro ⟨i, C, s⟩ wr ⟨hi, hB, hr, hs, hb6, hb7, hch⟩
         dsimp only at hi hB hr hs hb6 hb7 hch
         dsimp only
         have hx := D_getD hWl i
         have hy := D_getD hWk i
         refine Sr fun _ kh32 => ?_
         refine WL.ev (Ev.lss rfl rfl) rfl ?_
         refine zz (kh32 (zc fun _ kh34 => ?_))
         refine CW.cond rfl (fun hc8 => ?_) (fun hc8 => ?_)
         ·
          try simp only [qs] at hc8
          have hst := sumP_step (l := l) (k := k) (i := i) (by omega) hlen
          have hin := sumP_in (l := l.take (i + 1)) (k := k.take (i + 1)) (finL_take hf1) (finL_take hf2) (by rw [List.length_take]; omega)
          rw [hst] at hin
          have hmx : (splitP (l.getD i 0)).cls ≤ 2 := ((finL_step (by omega)).1 (finL_take (i := i + 1) hf1)).2
          have hmy : (splitP (k.getD i 0)).cls ≤ 2 := ((finL_step (by omega)).1 (finL_take (i := i + 1) hf2)).2
          refine CW.skip ?_
          refine kh34 (zc fun _ kh35 => ?_)
          refine CW.block ?_
          refine Sr fun _ kh36 => zm rfl (za rfl (zz (kh36 ?_)))
          refine CW.regionTC 9 hmix (by kernel_rfl) fun kR38 kr38 hdr => ?_
          have hch := hch.trans (Chg.any hdr)
          have hB := hB.keep0 hdr
          have hb6 := hb6.keep0 hdr
          have hb7 := hb7.keep0 hdr
          refine ym rfl (ym rfl (ym rfl ?_))
          refine WS.ev (Ev.ixR (i) rfl rfl (hrl.keep0 hch) (by omega) (by omega) (by simp; omega)) rfl ?_
          refine WS.ev (Ev.load rfl rfl ((hrl.keep0 hch).f64 (by first | omega | (simp; omega)))) rfl ?_
          refine ym rfl (ym rfl ?_)
          refine WS.ev (Ev.ixR (i) rfl rfl (hrk.keep0 hch) (by omega) (by omega) (by simp; omega)) rfl ?_
          refine WS.ev (Ev.load rfl rfl ((hrk.keep0 hch).f64 (by first | omega | (simp; omega)))) rfl ?_
          refine WS.nil ?_
          refine WL.call hasF72 rfl rfl (acAddProduct_spec b C (l.getD i 0) (k.getD i 0) s (sumP (l.take i) (k.take i)) _ hB hr hx hy hmx hmy (hs.mono (by omega)) hin.1 hin.2) fun v w5 h' => ?_
          obtain ⟨rfl, C2, hB2, hr2, hC58⟩ := h'
          rw [← hst] at hr2
          have hch := hch.step hC58 (fun y hy => by simp only [List.mem_singleton] at hy; subst hy; exact .inr hbge)
          have hb6 := hb6.keep hC58 (by simp; omega)
          have hb7 := hb7.keep hC58 (by simp; omega)
          refine WL.nil (kr38 _ _ _ (kh35 ?_))
          refine CW.region fun kR39 kr39 => ?_
          first | refine WL.ev (Ev.addIn rfl rfl (by omega)) rfl ?_ | refine WL.ev (Ev.add rfl rfl) rfl ?_
          refine zm rfl ?_
          refine WL.nil (kr39 _ _ _ ?_)
          refine ⟨rfl, (i + 1, C2, cnt1 s (prodP (l.getD i 0) (k.getD i 0)).cls (prodP (l.getD i 0) (k.getD i 0)).neg), ?_, ?_, ?_⟩
          ·
           exact SLp
          ·
           exact ⟨by show i + 1 ≤ l.length; omega, hB2, hr2, cnt1_le hs _ _, hb6, hb7, hch⟩
          ·
           show l.length - (i + 1) < l.length - i; omega
         ·
          try simp only [qs] at hc8
          have hiX : i = l.length := by omega
          subst hiX
          rw [List.take_length, List.take_of_length_le (by omega)] at hr
          refine CW.exit ?_
          refine kh29 (Sr fun _ kh40 => zm rfl ?_)
          refine WL.call hasF28 rfl rfl (Exact_spec b C (sumP l k) _ hB hr (hg0.keep0 hch) hinN.1 hinN.2) fun v w6 h' => ?_
          obtain ⟨⟨rN, rfl, hNN⟩, hC61⟩ := h'
          have hch := hch.trans (Chg.any hC61)
          have hB := hB.keep0 hC61
          have hb6 := hb6.keep0 hC61
          have hb7 := hb7.keep0 hC61
          refine zm rfl ?_
          refine WL.call hasF43 rfl rfl (all_spec _ k _ (hk0.keep0 hch) (by omega)) fun v w7 h' => ?_
          obtain ⟨⟨ba, C3, sa, rfl, hBa, hRa, hsa⟩, hC63⟩ := h'
          have hch := hch.trans (Chg.any hC63)
          have hB := hB.keep0 hC63
          have hb6 := hb6.keep0 hC63
          have hb7 := hb7.keep0 hC63
          have hNN := hNN.keep0 hC63
          refine WL.call hasF28 rfl rfl (Exact_spec ba C3 (sumI k) _ hBa hRa (hg0.keep0 hch) hinW.1 hinW.2) fun v w8 h' => ?_
          obtain ⟨⟨rW, rfl, hNW⟩, hC64⟩ := h'
          have hch := hch.trans (Chg.any hC64)
          have hB := hB.keep0 hC64
          have hb6 := hb6.keep0 hC64
          have hb7 := hb7.keep0 hC64
          have hNN := hNN.keep0 hC64
          refine WL.ev (Ev.build (vs := _) (cs := [_, _, _, _, _, _]) rfl rfl) rfl ?_
          refine WL.allocB (l := [.bool false, .slice none 0 0, .int .i64 0, .bool false, .slice none 0 0, .int .i64 0]) rfl rfl fun b10 wm10 hb10 hcm10 hge10 => ?_
          have hgehch10 := Nat.le_trans hch.size hge10
          have hch := hch.trans (Chg.any hcm10)
          have hNN := hNN.keep0 hcm10
          have hNW := hNW.keep0 hcm10
          have hneb10 : b ≠ b10 := by have := hB.lt; omega
          have hB := hB.keep0 hcm10
          have hneb610 : b6 ≠ b10 := by have := hb6.lt; omega
          have hb6 := hb6.keep0 hcm10
          have hneb710 : b7 ≠ b10 := by have := hb7.lt; omega
          have hb7 := hb7.keep0 hcm10
          refine WL.storeB rfl rfl rfl ao hb10 (by simp) rfl fun ws28 hb10_ hcs28 => ?_
          try simp only [Sx.splice, qt] at hb10_
          have hch := hch.s1 hcs28
          have hB := hB.keep hcs28 (by simp; omega)
          have hb6 := hb6.keep hcs28 (by simp; omega)
          have hb7 := hb7.keep hcs28 (by simp; omega)
          have hNN := hNN.keepBK hb10 hcs28 an
          have hNW := hNW.keepBK hb10 hcs28 an
          have hb10 := hb10_
          refine zz (kh40 (zc fun _ kh42 => Sr fun _ kh43 => zf rfl ?_))
          refine WL.ev (Ev.loadB rfl rfl hb10 rfl rfl) rfl ?_
          try simp only [List.drop_succ_cons, List.drop_zero, List.take_succ_cons, List.take_zero]
          refine WL.call hasF58 rfl rfl (Sign_dspec (sumD (sumI k)).neg rW (wd (sumD (sumI k)).m) (sumD (sumI k)).e _ hNW) fun v w9 h' => ?_
          obtain ⟨rfl, hC68⟩ := h'
          rw [val_wd, sumD_sg hinW.1 hinW.2]
          have hch := hch.trans (Chg.any hC68)
          have hB := hB.keep0 hC68
          have hb6 := hb6.keep0 hC68
          have hb7 := hb7.keep0 hC68
          have hb10 := hb10.keep0 hC68
          have hNN := hNN.keep0 hC68
          have hNW := hNW.keep0 hC68
          refine WL.ev (Ev.lss rfl rfl) rfl ?_
          refine zz (kh43 ?_)
          refine CW.cond rfl (fun hc9 => ?_) (fun hc9 => ?_)
          ·
           try simp only [qs] at hc9
           have hneg : sumI k < 0 := Classical.byContradiction fun q => by rw [if_neg q] at hc9; split at hc9 <;> omega
           refine CW.regionKC 7 10 rfl hmix fun kR45 kr45 hS hdr => ?_
           have hch := hch.trans (Chg.any hdr)
           have hB := hB.keep0 hdr
           have hb6 := hb6.keep0 hdr
           have hb7 := hb7.keep0 hdr
           have hb10 := hb10.keep0 hdr
           have hNN := hNN.keep0 hdr
           have hNW := hNW.keep0 hdr
           have hch_r := hch
           have hB_r := hB
           have hb6_r := hb6
           have hb7_r := hb7
           have hb10_r := hb10
           refine wk 0 rfl hS (fun _ _ => Ev.fieldAddr rfl) (wk 1 rfl hS (fun _ hw' => Ev.loadB rfl rfl (hb10_r.keep0 hw') rfl rfl) ?_)
           try simp only [List.drop_succ_cons, List.drop_zero, List.take_succ_cons, List.take_zero]
           refine wk 3 rfl hS (fun _ _ => Ev.fieldAddr rfl) (wk 4 rfl hS (fun _ hw' => Ev.loadB rfl rfl (hb10_r.keep0 hw') rfl rfl) ?_)
           try simp only [List.drop_succ_cons, List.drop_zero, List.take_succ_cons, List.take_zero]
           refine WK.oneCall 2 rfl (by kernel_rfl) hasF59 rfl rfl (Neg_dspec (sumD (sumP l k)).neg rN (wd (sumD (sumP l k)).m) (sumD (sumP l k)).e _ hNN (hg0.keep0 hch) (ok_e (sumD_ok hinN.1 hinN.2))) fun v w10 h' => ?_
           obtain ⟨hD72, hC72⟩ := h'
           rw [val_wd, sumD_neg hinN.1 hinN.2] at hD72
           obtain ⟨rN, rfl, hNN2⟩ := hD72
           have hch := hch.trans (Chg.any hC72)
           have hB := hB.keep0 hC72
           have hb6 := hb6.keep0 hC72
           have hb7 := hb7.keep0 hC72
           have hb10 := hb10.keep0 hC72
           have hNN := hNN.keep0 hC72
           have hNW := hNW.keep0 hC72
           have hS := hS.trans hC72
           refine ⟨hS, ?_⟩
           refine wk 6 rfl hS (fun _ _ => Ev.fieldAddr rfl) ?_
           refine WK.oneCall 5 rfl (by kernel_rfl) hasF59 rfl rfl (Neg_dspec (sumD (sumI k)).neg rW (wd (sumD (sumI k)).m) (sumD (sumI k)).e _ hNW (hg0.keep0 hch) (ok_e (sumD_ok hinW.1 hinW.2))) fun v w11 h' => ?_
           obtain ⟨hD75, hC75⟩ := h'
           rw [val_wd, sumD_neg hinW.1 hinW.2] at hD75
           obtain ⟨rW, rfl, hNW2⟩ := hD75
           have hch := hch.trans (Chg.any hC75)
           have hB := hB.keep0 hC75
           have hb6 := hb6.keep0 hC75
           have hb7 := hb7.keep0 hC75
           have hb10 := hb10.keep0 hC75
           have hNN := hNN.keep0 hC75
           have hNW := hNW.keep0 hC75
           have hNN2 := hNN2.keep0 hC75
           have hS := hS.trans hC75
           refine ⟨hS, ?_⟩
           refine WK.storeB 7 rfl (by kernel_rfl) (by kernel_rfl) rfl rfl rfl ao hb10 (by simp) rfl fun ws29 hb10_ hcs29 => ?_
           try simp only [Sx.splice, qt] at hb10_
           have hch := hch.s1 hcs29
           have hB := hB.keep hcs29 (by simp; omega)
           have hb6 := hb6.keep hcs29 (by simp; omega)
           have hb7 := hb7.keep hcs29 (by simp; omega)
           have hNN := hNN.keepBK hb10 hcs29 an
           have hNW := hNW.keepBK hb10 hcs29 an
           have hNN2 := hNN2.keepBK hb10 hcs29 an
           have hNW2 := hNW2.keepBK hb10 hcs29 an
           have hb10 := hb10_
           refine WK.after 8 rfl (by kernel_rfl) (by kernel_rfl) (Ev.fieldAddr rfl) rfl ?_
           refine WK.storeB 9 rfl (by kernel_rfl) (by kernel_rfl) rfl rfl rfl ao hb10 (by simp) rfl fun ws30 hb10_ hcs30 => ?_
           try simp only [Sx.splice, qt] at hb10_
           have hch := hch.s1 hcs30
           have hB := hB.keep hcs30 (by simp; omega)
           have hb6 := hb6.keep hcs30 (by simp; omega)
           have hb7 := hb7.keep hcs30 (by simp; omega)
           have hNN := hNN.keepBK hb10 hcs30 an
           have hNW := hNW.keepBK hb10 hcs30 an
           have hNN2 := hNN2.keepBK hb10 hcs30 an
           have hNW2 := hNW2.keepBK hb10 hcs30 an
           have hb10 := hb10_
           refine WK.done (by kernel_rfl) (kr45 _ _ _ ?_)
           refine kh42 (zc fun _ kh46 => ?_)
           have hNN := hNN2
           have hNW := hNW2
           have hokN := sumD_ok (S := -sumP l k) (by omega) (by omega)
           have hokW := sumD_ok (S := -sumI k) (by omega) (by omega)
           refine CW.region fun kR47 kr47 => ?_
           refine zg hb10 rfl (zm rfl ?_)
           refine WL.call hasF73 rfl rfl (Quot_spec (sumD (-sumP l k)).neg (sumD (-sumI k)).neg rN rW (wd (sumD (-sumP l k)).m) (wd (sumD (-sumI k)).m) (sumD (-sumP l k)).e (sumD (-sumI k)).e mode _ hNN hNW (hg0.keep0 hch) (ok_e hokN) (ok_e hokW)) fun v w12 h' => ?_
           obtain ⟨⟨bits, e, rfl, hQ⟩, hC80⟩ := h'
           rw [val_wd, val_wd] at hQ
           have hch := hch.trans (Chg.any hC80)
           have hB := hB.keep0 hC80
           have hb6 := hb6.keep0 hC80
           have hb7 := hb7.keep0 hC80
           have hb10 := hb10.keep0 hC80
           have hNN := hNN.keep0 hC80
           have hNW := hNW.keep0 hC80
           have hNN2 := hNN2.keep0 hC80
           have hNW2 := hNW2.keep0 hC80
           refine zx rfl rfl (zx rfl rfl ?_)
           refine WL.storeC rfl rfl o1 hb6 (by simp) rfl fun ws31 hb6_ hcs31 => ?_
           try simp only [Sx.splice, qt] at hb6_
           have hch := hch.s1 hcs31
           have hB := hB.keep hcs31 (by simp; omega)
           have hb7 := hb7.keep hcs31 (by simp; omega)
           have hb10 := hb10.keep hcs31 (by simp; omega)
           have hNN2 := hNN2.keepBK hb6 hcs31 an
           have hNW2 := hNW2.keepBK hb6 hcs31 an
           have hb6 := hb6_
           refine WL.storeC rfl rfl o1 hb7 (by simp) rfl fun ws32 hb7_ hcs32 => ?_
           try simp only [Sx.splice, qt] at hb7_
           have hch := hch.s1 hcs32
           have hB := hB.keep hcs32 (by simp; omega)
           have hb6 := hb6.keep hcs32 (by simp; omega)
           have hb10 := hb10.keep hcs32 (by simp; omega)
           have hNN2 := hNN2.keepBK hb7 hcs32 an
           have hNW2 := hNW2.keepBK hb7 hcs32 an
           have hb7 := hb7_
           refine WL.nil (kr47 _ _ _ (kh46 ?_))
           refine CW.ret ?_
           refine clean_door rfl rfl rfl hb6 hb7 hneb67 fun w9 hc9 => ?_
           have hch := hch.step hc9 (fun y hy => by simp only [List.mem_singleton] at hy; subst hy; exact .inr (by omega))
           refine ⟨⟨_, _, rfl, .inr ⟨hmode, .inr ⟨hlong, .inr ⟨hlen, .inr ⟨hfin, .inr ⟨hnn, ?_⟩⟩⟩⟩⟩⟩, hch⟩
           rw [hQ.err]
           unfold QuoD
           rw [if_pos hneg, if_pos hneg]; exact hQ
          ·
           try simp only [qs] at hc9
           have hneg : ¬ sumI k < 0 := fun q => by rw [if_pos q] at hc9; omega
           refine CW.skip ?_
           refine kh42 (zc fun _ kh48 => ?_)
           have hokN := sumD_ok hinN.1 hinN.2
           have hokW := sumD_ok hinW.1 hinW.2
           refine CW.region fun kR49 kr49 => ?_
           refine zg hb10 rfl (zm rfl ?_)
           refine WL.call hasF73 rfl rfl (Quot_spec (sumD (sumP l k)).neg (sumD (sumI k)).neg rN rW (wd (sumD (sumP l k)).m) (wd (sumD (sumI k)).m) (sumD (sumP l k)).e (sumD (sumI k)).e mode _ hNN hNW (hg0.keep0 hch) (ok_e hokN) (ok_e hokW)) fun v w13 h' => ?_
           obtain ⟨⟨bits, e, rfl, hQ⟩, hC80⟩ := h'
           rw [val_wd, val_wd] at hQ
           have hch := hch.trans (Chg.any hC80)
           have hB := hB.keep0 hC80
           have hb6 := hb6.keep0 hC80
           have hb7 := hb7.keep0 hC80
           have hb10 := hb10.keep0 hC80
           have hNN := hNN.keep0 hC80
           have hNW := hNW.keep0 hC80
           refine zx rfl rfl (zx rfl rfl ?_)
           refine WL.storeC rfl rfl o1 hb6 (by simp) rfl fun ws33 hb6_ hcs33 => ?_
           try simp only [Sx.splice, qt] at hb6_
           have hch := hch.s1 hcs33
           have hB := hB.keep hcs33 (by simp; omega)
           have hb7 := hb7.keep hcs33 (by simp; omega)
           have hb10 := hb10.keep hcs33 (by simp; omega)
           have hb6 := hb6_
           refine WL.storeC rfl rfl o1 hb7 (by simp) rfl fun ws34 hb7_ hcs34 => ?_
           try simp only [Sx.splice, qt] at hb7_
           have hch := hch.s1 hcs34
           have hB := hB.keep hcs34 (by simp; omega)
           have hb6 := hb6.keep hcs34 (by simp; omega)
           have hb10 := hb10.keep hcs34 (by simp; omega)
           have hb7 := hb7_
           refine WL.nil (kr49 _ _ _ (kh48 ?_))
           refine CW.ret ?_
           refine clean_door rfl rfl rfl hb6 hb7 hneb67 fun w9 hc9 => ?_
           have hch := hch.step hc9 (fun y hy => by simp only [List.mem_singleton] at hy; subst hy; exact .inr (by omega))
           refine ⟨⟨_, _, rfl, .inr ⟨hmode, .inr ⟨hlong, .inr ⟨hlen, .inr ⟨hfin, .inr ⟨hnn, ?_⟩⟩⟩⟩⟩⟩, hch⟩
           rw [hQ.err]
           unfold QuoD
           rw [if_neg hneg, if_neg hneg]; exact hQ

end Go.Proofs.YtphnpchmdpjabaaGreatDoor

/- Products and signs of forms, as whole numbers of the lowest unit. No condition. -/
namespace Go.Proofs.YtphnpchmdpjabaaGreatDoor
open Go Sx Wd
set_option exponentiation.threshold 5000

theorem InB.neg {S : Int} (h : InB S) : InB (-S) := by
  obtain ⟨h1, h2⟩ := h
  exact ⟨by omega, by omega⟩
theorem sumD_up {S : Int} (h : InB S) (h0 : S ≠ 0) : ∃ a : Nat, S.natAbs = (sumD S).m * 2 ^ a ∧ (sumD S).e = -2148 + (a : Int) ∧ (sumD S).neg = decide (S < 0) := by
  obtain ⟨-, ha⟩ := tz_spec (n := S.natAbs) (by omega)
  have hx := sumD_val h h0
  exact ⟨tz S.natAbs, by rw [hx]; exact ha, by rw [hx], by rw [hx]⟩
theorem negD_sum {S : Int} (h : InB S) : negD (formD (!(sumD S).neg) (sumD S).m (sumD S).e) = sumD (-S) := by
  by_cases h0 : S = 0
  · subst h0; rfl
  · obtain ⟨a, h1, h2, h3⟩ := sumD_up h h0
    rw [← formD_scale (k := a) (f := -2148) (by omega), ← h1, h3, show S.natAbs = (-S).natAbs by omega, sumD_some h.neg (neg := !decide (S < 0)) (fun hn => by rw [← decide_not]; exact decide_eq_decide.2 (by omega))]
    rfl
end Go.Proofs.YtphnpchmdpjabaaGreatDoor

/- Package mean: Middle, Of. No condition. -/
namespace Go.Proofs.YtphnpchmdpjabaaGreatDoor
open Go Sx Wd
set_option exponentiation.threshold 5000

theorem NF.of_row {w : World} {a : Option Addr} {l : List Nat} {k c : Nat} (h : RW w a (l.map f64v)) (hw : ∀ x ∈ l, x < 18446744073709551616) (hl : l.length ≤ 70368744177664) (hk : k = l.length) (hc : k ≤ c) : NF w (.slice a k c) l := by
  subst hk
  exact ⟨⟨a, c, rfl, hc, h⟩, hw, hl⟩
theorem meanR.err {l : List Nat} {mode pn pi : Int} {bits : Nat} {e : Int} (h : meanR l mode pn pi bits e) : (if e = 0 then bits else 0) = bits := by
  rcases h with ⟨_, rfl, rfl⟩ | ⟨_, ⟨_, rfl, rfl⟩ | ⟨_, ⟨_, rfl⟩ | ⟨_, ⟨_, rfl, rfl⟩ | ⟨_, h⟩⟩⟩⟩
  · simp
  · simp
  · simp
  · simp
  · exact h.err
/-- What Middle answers. -/
def midR (x y : Nat) (mode : Int) (bits : Nat) (e : Int) : Prop :=
  (¬ (0 ≤ mode ∧ mode ≤ 4) ∧ bits = 0 ∧ e = 1) ∨ ((0 ≤ mode ∧ mode ≤ 4) ∧
    ((¬ ((splitP x).cls ≤ 2 ∧ (splitP y).cls ≤ 2) ∧ bits = 0 ∧ e = 30) ∨ (((splitP x).cls ≤ 2 ∧ (splitP y).cls ≤ 2) ∧ meanR [x, y] mode 0 0 bits e)))
set_option maxRecDepth 8000 in
set_option maxHeartbeats 1000000 in
theorem Middle_spec (x y : Nat) (mode : Int) (w : World) (hx : x < 18446744073709551616) (hy : y < 18446744073709551616) (hg : GW w) : Ret Tryz.prog 29 [.float .f64 x, .float .f64 y, .int .i64 mode] w fun u w' => (∃ bits e, u = .tuple [.float .f64 bits, .int .i64 e].toArray ∧ midR x y mode bits e) ∧ Chg [] w w' := by
 have hch : Chg [] w w := Chg.refl _ _
 have hg0 := hg
 refine Ret.enterD 31 hasF31 Tryz.func29 rfl rfl ?_
 simp only [args0, Nat.zero_add, Nat.reduceAdd]
 refine Sr fun _ kh1 => ?_
 refine WL.allocB (l := [.float .f64 0]) rfl rfl fun b6 wm6 hb6 hcm6 hge6 => ?_
 have hgehch6 := Nat.le_trans hch.size hge6
 have hch := hch.trans (Chg.any hcm6)
 refine WL.allocB (l := [.int .i64 0]) rfl rfl fun b7 wm7 hb7 hcm7 hge7 => ?_
 have hgehch7 := Nat.le_trans hch.size hge7
 have hch := hch.trans (Chg.any hcm7)
 have hneb67 : b6 ≠ b7 := by have := hb6.lt; omega
 have hb6 := hb6.keep0 hcm7
 refine zz (kh1 (Sr fun _ kh3 => ?_))
 refine WL.defer rfl ?_
 refine zz (kh3 (zc fun _ kh5 => Sr fun _ kh6 => zm rfl ?_))
 refine WL.call hasF32 rfl rfl (right_spec mode _) fun v w1 h' => ?_
 obtain ⟨rfl, rfl⟩ := h'
 refine WL.ev (Ev.not rfl) rfl ?_
 refine zz (kh6 ?_)
 refine CW.cond rfl (fun hc1 => ?_) (fun hc1 => ?_)
 ·
  try simp only [qs] at hc1
  have hmode : ¬ (0 ≤ mode ∧ mode ≤ 4) := by simpa using hc1
  refine Sr fun _ kh8 => ?_
  refine WL.storeC rfl rfl o1 hb6 (by simp) rfl fun ws35 hb6_ hcs35 => ?_
  try simp only [Sx.splice, qt] at hb6_
  have hch := hch.s1 hcs35
  have hb7 := hb7.keep hcs35 (by simp; omega)
  have hb6 := hb6_
  refine WL.storeC rfl rfl o1 hb7 (by simp) rfl fun ws36 hb7_ hcs36 => ?_
  try simp only [Sx.splice, qt] at hb7_
  have hch := hch.s1 hcs36
  have hb6 := hb6.keep hcs36 (by simp; omega)
  have hb7 := hb7_
  refine zz (kh8 ?_)
  refine CW.ret ?_
  refine clean_door rfl rfl rfl hb6 hb7 hneb67 fun w9 hc9 => ?_
  have hch := hch.step hc9 (fun y hy => by simp only [List.mem_singleton] at hy; subst hy; exact .inr (by omega))
  exact ⟨⟨_, _, rfl, .inl ⟨hmode, rfl, rfl⟩⟩, hch⟩
 ·
  try simp only [qs] at hc1
  have hmode : 0 ≤ mode ∧ mode ≤ 4 := by simpa using hc1
  refine CW.skip ?_
  refine kh5 (zc fun _ kh10 => Sr fun _ kh11 => zm rfl ?_)
  refine WL.call hasF78 rfl rfl (Class_spec x _ hx) fun v w2 h' => ?_
  obtain ⟨rfl, hC12⟩ := h'
  have hch := hch.trans (Chg.any hC12)
  have hb6 := hb6.keep0 hC12
  have hb7 := hb7.keep0 hC12
  refine WL.ev (Ev.gtr rfl rfl) rfl ?_
  refine zm rfl ?_
  refine WL.boolCase (fun hg2 => ?_) (fun hg2 => ?_)
  ·
   try simp only [qs] at hg2
   have h1 : 2 < (splitP x).cls := by have := hg2; omega
   refine zv rfl (zv rfl (zv rfl (zt rfl rfl (zz (kh11 ?_)))))
   refine CW.condT rfl ?_
   refine Sr fun _ kh13 => ?_
   refine WL.storeC rfl rfl o1 hb6 (by simp) rfl fun ws37 hb6_ hcs37 => ?_
   try simp only [Sx.splice, qt] at hb6_
   have hch := hch.s1 hcs37
   have hb7 := hb7.keep hcs37 (by simp; omega)
   have hb6 := hb6_
   refine WL.storeC rfl rfl o1 hb7 (by simp) rfl fun ws38 hb7_ hcs38 => ?_
   try simp only [Sx.splice, qt] at hb7_
   have hch := hch.s1 hcs38
   have hb6 := hb6.keep hcs38 (by simp; omega)
   have hb7 := hb7_
   refine zz (kh13 ?_)
   refine CW.ret ?_
   refine clean_door rfl rfl rfl hb6 hb7 hneb67 fun w9 hc9 => ?_
   have hch := hch.step hc9 (fun y hy => by simp only [List.mem_singleton] at hy; subst hy; exact .inr (by omega))
   exact ⟨⟨_, _, rfl, .inr ⟨hmode, .inl ⟨fun h => by have := h.1; omega, rfl, rfl⟩⟩⟩, hch⟩
  ·
   try simp only [qs] at hg2
   have h1 : (splitP x).cls ≤ 2 := by have := hg2; omega
   refine zw rfl (zm rfl (zw rfl ?_))
   refine WL.call hasF78 rfl rfl (Class_spec y _ hy) fun v w3 h' => ?_
   obtain ⟨rfl, hC16⟩ := h'
   have hch := hch.trans (Chg.any hC16)
   have hb6 := hb6.keep0 hC16
   have hb7 := hb7.keep0 hC16
   refine zw rfl ?_
   refine WL.ev (Ev.gtr rfl rfl) rfl ?_
   refine ze rfl rfl (zz (kh11 ?_))
   refine CW.cond rfl (fun hc3 => ?_) (fun hc3 => ?_)
   ·
    try simp only [qs] at hc3
    have h2 : 2 < (splitP y).cls := by have := hc3; omega
    refine Sr fun _ kh15 => ?_
    refine WL.storeC rfl rfl o1 hb6 (by simp) rfl fun ws39 hb6_ hcs39 => ?_
    try simp only [Sx.splice, qt] at hb6_
    have hch := hch.s1 hcs39
    have hb7 := hb7.keep hcs39 (by simp; omega)
    have hb6 := hb6_
    refine WL.storeC rfl rfl o1 hb7 (by simp) rfl fun ws40 hb7_ hcs40 => ?_
    try simp only [Sx.splice, qt] at hb7_
    have hch := hch.s1 hcs40
    have hb6 := hb6.keep hcs40 (by simp; omega)
    have hb7 := hb7_
    refine zz (kh15 ?_)
    refine CW.ret ?_
    refine clean_door rfl rfl rfl hb6 hb7 hneb67 fun w9 hc9 => ?_
    have hch := hch.step hc9 (fun y hy => by simp only [List.mem_singleton] at hy; subst hy; exact .inr (by omega))
    exact ⟨⟨_, _, rfl, .inr ⟨hmode, .inl ⟨fun h => by have := h.2; omega, rfl, rfl⟩⟩⟩, hch⟩
   ·
    try simp only [qs] at hc3
    have h2 : (splitP y).cls ≤ 2 := by have := hc3; omega
    refine CW.skip ?_
    refine kh10 (Sr fun _ kh17 => zm rfl (zm rfl ?_))
    refine WL.buildSlice (m := 2) (cs := [f64v (x), f64v (y)]) (by decide) (by decide) rfl (by kernel_rfl) rfl fun b21 w21 hn21 => ?_
    have hcm21 := hn21.chg
    have hge21 := hn21.ge
    have hb21 : FB w21 b21 _ [x, y] := hn21.at_
    have hgehch21 := Nat.le_trans hch.size hge21
    have hch := hch.trans (Chg.any hcm21)
    have hneb621 : b6 ≠ b21 := by have := hb6.lt; omega
    have hb6 := hb6.keep0 hcm21
    have hneb721 : b7 ≠ b21 := by have := hb7.lt; omega
    have hb7 := hb7.keep0 hcm21
    refine zm rfl ?_
    refine WL.call hasF66 rfl rfl (Plain_spec _) fun v w4 h' => ?_
    obtain ⟨rfl, hC23⟩ := h'
    have hch := hch.trans (Chg.any hC23)
    have hb6 := hb6.keep0 hC23
    have hb7 := hb7.keep0 hC23
    have hb21 := hb21.keep0 hC23
    refine WL.call hasF15 rfl rfl (Mean_spec _ [x, y] mode 0 0 _ (NF.of_row hb21.row (by intro z hz; simp at hz; rcases hz with rfl | rfl <;> assumption) (by simp) rfl (by simp)) (hg0.keep0 hch)) fun v w5 h' => ?_
    obtain ⟨⟨bits, e, rfl, hM⟩, hC24⟩ := h'
    have hch := hch.trans (Chg.any hC24)
    have hb6 := hb6.keep0 hC24
    have hb7 := hb7.keep0 hC24
    have hb21 := hb21.keep0 hC24
    refine zx rfl rfl (zx rfl rfl ?_)
    refine WL.storeC rfl rfl o1 hb6 (by simp) rfl fun ws41 hb6_ hcs41 => ?_
    try simp only [Sx.splice, qt] at hb6_
    have hch := hch.s1 hcs41
    have hb7 := hb7.keep hcs41 (by simp; omega)
    have hb21 := hb21.keep hcs41 (by simp; omega)
    have hb6 := hb6_
    refine WL.storeC rfl rfl o1 hb7 (by simp) rfl fun ws42 hb7_ hcs42 => ?_
    try simp only [Sx.splice, qt] at hb7_
    have hch := hch.s1 hcs42
    have hb6 := hb6.keep hcs42 (by simp; omega)
    have hb21 := hb21.keep hcs42 (by simp; omega)
    have hb7 := hb7_
    refine zz (kh17 ?_)
    refine CW.ret ?_
    refine clean_door rfl rfl rfl hb6 hb7 hneb67 fun w9 hc9 => ?_
    have hch := hch.step hc9 (fun y hy => by simp only [List.mem_singleton] at hy; subst hy; exact .inr (by omega))
    refine ⟨⟨_, _, rfl, .inr ⟨hmode, .inr ⟨⟨h1, h2⟩, ?_⟩⟩⟩, hch⟩
    rw [hM.err]; exact hM

end Go.Proofs.YtphnpchmdpjabaaGreatDoor

/- Means as plain numbers: what told and Weighted come to; the values that the statements ask. No condition. -/
namespace Go.Proofs.YtphnpchmdpjabaaGreatDoor
open Go Sx Wd
set_option exponentiation.threshold 9000

theorem sgD_one (n : Nat) (neg : Bool) (h : n ≠ 0) (hn : neg = false) : sgD neg n = 1 := by unfold sgD; rw [if_neg h, hn]; rfl
theorem intD_form {n : Nat} (h0 : n ≠ 0) (hn : n < 18446744073709551616) : ∃ t : Nat, n = (intD (n : Int)).m * 2 ^ t ∧ (intD (n : Int)).e = t ∧ (intD (n : Int)).neg = false := by
  have h := intD_eq (n := (n : Int)) (by omega)
  rw [show decide ((n : Int) < 0) = false from decide_eq_false (by omega), Int.natAbs_natCast] at h
  obtain ⟨t, h1, h2, h3⟩ := formD_val h h0
  exact ⟨t, h1, by omega, h3⟩
/-- The exact sum S (in units of 2^-2148) through n, rounded. -/
def MeanQ (S : Int) (n : Nat) (mode : Int) (bits : Nat) : Prop :=
  ∃ r, IsNear S.natAbs (n * 2 ^ 1073) (decide (S < 0)) mode r ∧ r ≤ 9218868437227405312 ∧ bits = (if S < 0 then r + 9223372036854775808 else r)
/-- A ratio of forms by what they were made of. -/
theorem near_forms {x y : Nat} {ex ey : Int} {s t : Nat} {A B : Nat} {neg : Bool} {mode : Int} {r : Nat} {u v : Nat} (hy : y ≠ 0) (hA : A = x * 2 ^ s * 2 ^ u) (hB : B = y * 2 ^ t * 2 ^ v) (he : ex - ey + 1075 + (t : Int) + (v : Int) = (s : Int) + (u : Int)) :
    IsNear (dyA x (ex - ey)) (y * dyB (ex - ey)) neg mode r ↔ IsNear A B neg mode r := by
  have hB0 : 0 < B := by rw [hB]; exact Nat.mul_pos (Nat.mul_pos (by omega) (Nat.two_pow_pos _)) (Nat.two_pow_pos _)
  have hD0 : 0 < y * dyB (ex - ey) := Nat.mul_pos (by omega) (dyB_pos _)
  have hv : dyA x (ex - ey) * B = A * (y * dyB (ex - ey)) := by
    rw [hA, hB]
    unfold dyA dyB
    have e : (ex - ey + 1075).toNat + t + v = s + u + (-(ex - ey + 1075)).toNat := by omega
    calc x * 2 ^ (ex - ey + 1075).toNat * (y * 2 ^ t * 2 ^ v) = x * y * (2 ^ (ex - ey + 1075).toNat * 2 ^ t * 2 ^ v) := by ac_rfl
      _ = x * y * (2 ^ s * 2 ^ u * 2 ^ (-(ex - ey + 1075)).toNat) := by rw [← Nat.pow_add, ← Nat.pow_add, e, Nat.pow_add, Nat.pow_add]
      _ = _ := by ac_rfl
  exact ⟨fun h => h.congr hD0 hB0 hv, fun h => h.congr hB0 hD0 hv.symm⟩
theorem quot_sum {S : Int} {n : Nat} {mode : Int} {bits : Nat} {e : Int} (h1 : -((16384 * BB : Nat) : Int) < S) (h2 : S < (16384 * BB : Nat)) (hS : S ≠ 0) (hn : n ≠ 0) (hn2 : n ≤ 1099511627776) (hm : 0 ≤ mode ∧ mode ≤ 4)
    (h : QuotP (sumD S).neg (intD n).neg (sumD S).m (intD n).m (sumD S).e (intD n).e mode bits e) : e = 0 ∧ MeanQ S n mode bits := by
  have hokS := sumD_ok h1 h2
  have hokN := intD_ok (n := (n : Int)) (by omega)
  obtain ⟨t, q1, q2, q3⟩ := intD_form hn (by omega)
  have hm0 : (intD (n : Int)).m ≠ 0 := fun e => by rw [e, Nat.zero_mul] at q1; exact hn q1
  have hsg := sgD_one (intD (n : Int)).m (intD (n : Int)).neg hm0 q3
  have hf1 := formD_self hokS
  have hf2 := formD_self hokN
  have hform := sumD_form h1 h2 hS
  have htz := (tz_spec (n := S.natAbs) (by omega)).2
  rcases h with ⟨hh, _⟩ | ⟨_, ⟨hh, _⟩ | ⟨_, hh, _⟩ | ⟨_, x, y, hx, hy, ⟨hh, _⟩ | ⟨hy0, r, hN, hr, hb, he⟩⟩⟩
  · exact absurd hm hh
  · rw [hsg] at hh; exact absurd hh (by decide)
  · rw [hf1, hf2] at hh; rcases hh with hh | hh <;> cases hh
  · rw [hf2] at hy; cases hy; exact absurd hh hm0
  · rw [hf1] at hx; cases hx
    rw [hf2] at hy; cases hy
    have hneg : (sumD S).neg = decide (S < 0) := by rw [hform]
    have hmS : S.natAbs = (sumD S).m * 2 ^ tz S.natAbs := by rw [hform]; exact htz
    have heS : (sumD S).e = -2148 + tz S.natAbs := by rw [hform]
    rw [hneg] at hN hb
    refine ⟨he, r, (near_forms (s := tz S.natAbs) (t := t) (u := 0) (v := 1073) hy0 (A := S.natAbs) (B := n * 2 ^ 1073) (by rw [Nat.pow_zero, Nat.mul_one]; exact hmS) (by rw [← q1]) (by omega)).1 hN, hr, ?_⟩
    rw [hb]
    by_cases q : S < 0
    · simp [q]
    · simp [q]
/-- What told answers of a sum. -/
theorem told_sum {S : Int} {n : Nat} {s : SP} {mode : Int} {bits : Nat} {e : Int} (h1 : -((16384 * BB : Nat) : Int) < S) (h2 : S < (16384 * BB : Nat)) (hn : n ≠ 0) (hn2 : n ≤ 1099511627776) (hm : 0 ≤ mode ∧ mode ≤ 4)
    (h : toldR (sumD S) n s mode bits e) : e = 0 ∧ ((S = 0 ∧ bits = noughtP s mode) ∨ (S ≠ 0 ∧ MeanQ S n mode bits)) := by
  rcases h with ⟨hz, hb, he⟩ | ⟨hz, hq⟩
  · exact ⟨he, .inl ⟨(sumD_m0 h1 h2).1 hz, hb⟩⟩
  · have hS : S ≠ 0 := fun e => hz ((sumD_m0 h1 h2).2 e)
    obtain ⟨he, hM⟩ := quot_sum h1 h2 hS hn hn2 hm hq
    exact ⟨he, .inr ⟨hS, hM⟩⟩
/-- Mean of a list of finite numbers. -/
theorem mean_fin {l : List Nat} {mode pn pi : Int} {bits : Nat} {e : Int} (h : meanR l mode pn pi bits e) (hm : 0 ≤ mode ∧ mode ≤ 4) (hs : siftE l pn pi = 0) (hv : verdP (cntP l) pn pi = none) (hf : filP l ≠ []) :
    e = 0 ∧ ((sumI (filP l) = 0 ∧ bits = noughtP (cntP l) mode) ∨ (sumI (filP l) ≠ 0 ∧ MeanQ (sumI (filP l)) (filP l).length mode bits)) := by
  have hl := (siftE_len hs).1
  have hfl := filP_le l
  have hin := sumI_in (l := filP l) (by omega)
  rcases h with ⟨hh, _⟩ | ⟨_, ⟨hh, _⟩ | ⟨_, ⟨hh, _⟩ | ⟨_, ⟨hh, _⟩ | ⟨_, hT⟩⟩⟩⟩
  · exact absurd hm hh
  · exact absurd hs hh
  · rw [hv] at hh; cases hh
  · exact absurd hh hf
  · exact told_sum hin.1 hin.2 (fun e => hf (List.length_eq_zero_iff.1 e)) (by omega) hm hT
/-- What a ratio of sums comes to. -/
theorem quo_sum {N W : Int} {mode : Int} {bits : Nat} {e : Int} (h1 : -((16384 * BB : Nat) : Int) < N) (h2 : N < (16384 * BB : Nat)) (h3 : 0 < W) (h4 : W < (16384 * BB : Nat)) (hm : 0 ≤ mode ∧ mode ≤ 4)
    (h : QuoD N W mode bits e) : e = 0 ∧ ∃ r, IsNear (N.natAbs * 2 ^ 1075) W.natAbs (decide (N < 0)) mode r ∧ r ≤ 9218868437227405312 ∧ bits = (if N < 0 then r + 9223372036854775808 else r) := by
  have hW : -((16384 * BB : Nat) : Int) < W := by omega
  have hokN := sumD_ok h1 h2
  have hokW := sumD_ok hW h4
  have hsg := sumD_sg hW h4
  rw [if_neg (by omega), if_neg (by omega)] at hsg
  have hm0 : (sumD W).m ≠ 0 := fun e => by have := (sumD_m0 hW h4).1 e; omega
  have hf1 := formD_self hokN
  have hf2 := formD_self hokW
  have hformW := sumD_form hW h4 (by omega)
  have htzW := (tz_spec (n := W.natAbs) (by omega)).2
  have hmW : W.natAbs = (sumD W).m * 2 ^ tz W.natAbs := by rw [hformW]; exact htzW
  have heW : (sumD W).e = -2148 + tz W.natAbs := by rw [hformW]
  unfold QuoD at h
  rcases h with ⟨hh, _⟩ | ⟨_, ⟨hh, _⟩ | ⟨_, hh, _⟩ | ⟨_, x, y, hx, hy, ⟨hh, _⟩ | ⟨hy0, r, hN, hr, hb, he⟩⟩⟩
  · exact absurd hm hh
  · rw [hsg] at hh; exact absurd hh (by decide)
  · rw [hf1, hf2] at hh; rcases hh with hh | hh <;> cases hh
  · rw [hf2] at hy; cases hy; exact absurd hh hm0
  · rw [hf1] at hx; cases hx
    rw [hf2] at hy; cases hy
    refine ⟨he, r, ?_, hr, ?_⟩
    · by_cases hN0 : N = 0
      · subst hN0
        have e1 : dyA (sumD 0).m ((sumD 0).e - (sumD W).e) = 0 := by unfold dyA; rw [sumD_zero]; simp [Dy.zero]
        rw [e1] at hN
        have : r = 0 := hN.unique (Nat.mul_pos (by omega) (dyB_pos _)) (near_zero (Nat.mul_pos (by omega) (dyB_pos _)) _ _)
        subst this
        simp only [Int.natAbs_zero, Nat.zero_mul]
        exact near_zero (by omega) _ _
      · have hform := sumD_form h1 h2 hN0
        have htz := (tz_spec (n := N.natAbs) (by omega)).2
        have hneg : (sumD N).neg = decide (N < 0) := by rw [hform]
        have hmN : N.natAbs = (sumD N).m * 2 ^ tz N.natAbs := by rw [hform]; exact htz
        have heN : (sumD N).e = -2148 + tz N.natAbs := by rw [hform]
        rw [hneg] at hN
        exact (near_forms (s := tz N.natAbs) (t := tz W.natAbs) (u := 1075) (v := 0) hy0 (A := N.natAbs * 2 ^ 1075) (B := W.natAbs) (by rw [← hmN]) (by rw [Nat.pow_zero, Nat.mul_one]; exact hmW) (by omega)).1 hN
    · rw [hb]
      by_cases hN0 : N = 0
      · subst hN0; rfl
      · rw [sumD_form h1 h2 hN0]
        by_cases q : N < 0
        · simp [q]
        · simp [q]
/-- A value that is the number r. -/
theorem near_is {A B : Nat} {neg : Bool} {mode : Int} {r : Nat} (hr : r < 9218868437227405312) (hB : 0 < B) (h : 2 * nz r * B = A) : IsNear A B neg mode r :=
  ⟨r, hr, Nat.le_of_eq h, .inl (by have := nz_lt_succ r; rw [← h]; exact Nat.mul_lt_mul_of_pos_right (by omega) hB), by rw [if_pos h]⟩
end Go.Proofs.YtphnpchmdpjabaaGreatDoor

/- The order of finite numbers, by their values; the least and the greatest of two. No condition. -/
namespace Go.Proofs.YtphnpchmdpjabaaGreatDoor
open Go Sx Wd
set_option exponentiation.threshold 9000
set_option maxRecDepth 4000

theorem splitP_small {x : Nat} (h1 : x % 9223372036854775808 < 4503599627370496) : splitP x = if 0 < x % 4503599627370496 then ⟨decide (x / 9223372036854775808 % 2 = 1), 1, -1074, x % 4503599627370496⟩ else ⟨decide (x / 9223372036854775808 % 2 = 1), 0, -1074, 0⟩ := by
  have e : x / 4503599627370496 % 2048 = 0 := by omega
  unfold splitP
  rw [e, if_neg (fun hh => absurd hh.1 (by decide)), if_neg (by decide), if_neg (by decide)]
theorem splitP_norm {x : Nat} (h1 : ¬ x % 9223372036854775808 < 4503599627370496) (h2 : x % 9223372036854775808 < 9218868437227405312) : splitP x = ⟨decide (x / 9223372036854775808 % 2 = 1), 2, -1074 + ((x / 4503599627370496 % 2048 : Nat) : Int) - 1, x % 4503599627370496 + 4503599627370496⟩ := by
  have e : x / 4503599627370496 % 2048 ≠ 2047 := by omega
  have e2 : 0 < x / 4503599627370496 % 2048 := by omega
  unfold splitP
  rw [if_neg (fun hh => e hh.1), if_neg e, if_pos e2]
theorem read_fin {x : Nat} (h : (splitP x).cls ≤ 2) : ∃ (m p : Nat), Ieee.double.read x = .number (x / 9223372036854775808 % 2 == 1) m ((p : Int) - 1074) ∧ fvN x = m * 2 ^ (p + 1074) ∧ nz (x % 9223372036854775808) = m * 2 ^ p ∧ (splitP x).neg = decide (x / 9223372036854775808 % 2 = 1) := by
  have hr := (cls_le2 x).1 h
  have hlp : Ieee.double.leastPlace = -1074 := by decide
  unfold Ieee.Format.read
  simp only [Fl.double_sign, Fl.double_inf, Fl.double_bin, hlp]
  by_cases h1 : x % 9223372036854775808 < 4503599627370496
  · rw [if_pos h1]
    have hs := splitP_small h1
    refine ⟨x % 9223372036854775808, 0, rfl, ?_, ?_, ?_⟩
    · unfold fvN
      rw [hs]
      by_cases h2 : 0 < x % 4503599627370496
      · rw [if_pos h2]
        dsimp only
        rw [if_pos (.inl rfl), show x % 9223372036854775808 = x % 4503599627370496 by omega]
        rfl
      · rw [if_neg h2]
        dsimp only
        rw [if_neg (by decide), show x % 9223372036854775808 = 0 by omega, Nat.zero_mul]
    · unfold nz; rw [if_pos h1]; simp
    · rw [hs]; split <;> rfl
  · rw [if_neg h1, if_pos hr]
    have hs := splitP_norm h1 hr
    refine ⟨4503599627370496 + x % 9223372036854775808 % 4503599627370496, x % 9223372036854775808 / 4503599627370496 - 1, ?_, ?_, ?_, ?_⟩
    · rw [show (-1074 : Int) + ((x % 9223372036854775808 / 4503599627370496 - 1 : Nat) : Int) = ((x % 9223372036854775808 / 4503599627370496 - 1 : Nat) : Int) - 1074 by omega]
    · unfold fvN
      rw [hs]
      dsimp only
      rw [if_pos (.inr rfl), show x % 4503599627370496 + 4503599627370496 = 4503599627370496 + x % 9223372036854775808 % 4503599627370496 by omega, show (-1074 + ((x / 4503599627370496 % 2048 : Nat) : Int) - 1 + 2148).toNat = x % 9223372036854775808 / 4503599627370496 - 1 + 1074 by omega]
    · unfold nz; rw [if_neg h1]
    · rw [hs]
theorem fvN_nz {x : Nat} (h : (splitP x).cls ≤ 2) : fvN x = nz (x % 9223372036854775808) * 2 ^ 1074 := by
  obtain ⟨m, p, _, h2, h3, _⟩ := read_fin h
  rw [h2, h3, Nat.pow_add, Nat.mul_assoc]
theorem fvI_nz {x : Nat} (h : (splitP x).cls ≤ 2) (hx : x < 18446744073709551616) : fvI x = if 9223372036854775808 ≤ x then -((nz (x % 9223372036854775808) * 2 ^ 1074 : Nat) : Int) else ((nz (x % 9223372036854775808) * 2 ^ 1074 : Nat) : Int) := by
  obtain ⟨m, p, _, _, _, h4⟩ := read_fin h
  unfold fvI
  rw [h4, fvN_nz h]
  by_cases q : 9223372036854775808 ≤ x
  · rw [if_pos (by simp; omega), if_pos q]
  · rw [if_neg (by simp; omega), if_neg q]
section
variable {P : Program} {s : Sl} {w : World} {ty : TypeId} {x y : Operand} {t t' : TypeId} {a b : Nat}
end
end Go.Proofs.YtphnpchmdpjabaaGreatDoor

/- Means of finite numbers: from the least to the greatest; of like numbers; signs turned. No condition. -/
namespace Go.Proofs.YtphnpchmdpjabaaGreatDoor
open Go Sx Wd
set_option exponentiation.threshold 9000

theorem near_ge {A B : Nat} {neg : Bool} {mode : Int} {r k0 : Nat} (h : IsNear A B neg mode r) (hB : 0 < B) (hk : k0 < 9218868437227405312) (hle : 2 * nz k0 * B ≤ A) : k0 ≤ r := by
  obtain ⟨k, h1, h2, h3, rfl⟩ := h
  have hkk : k0 ≤ k := by
    apply Nat.le_of_not_lt
    intro hlt
    rcases h3 with h3 | h3
    · have h4 := Nat.mul_le_mul_right B (Nat.mul_le_mul_left 2 (nz_le (show k + 1 ≤ k0 from hlt)))
      omega
    · omega
  split
  · exact hkk
  · split <;> omega
theorem near_le {A B : Nat} {neg : Bool} {mode : Int} {r k0 : Nat} (h : IsNear A B neg mode r) (hB : 0 < B) (hle : A ≤ 2 * nz k0 * B) : r ≤ k0 := by
  obtain ⟨k, h1, h2, h3, rfl⟩ := h
  have key : ∀ {a b : Nat}, 2 * nz a * B ≤ 2 * nz b * B → a ≤ b := by
    intro a b hab
    have h4 := Nat.le_of_mul_le_mul_right hab hB
    apply Nat.le_of_not_lt
    intro hlt
    have := nz_mono hlt
    omega
  split
  · rename_i he; exact key (by omega)
  · rename_i he
    have h5 : k < k0 := by
      apply Nat.lt_of_le_of_ne (key (by omega))
      rintro rfl; omega
    split <;> omega
theorem kind_fin (x : Nat) : kindP x ≤ 2 ↔ (splitP x).cls ≤ 2 := by
  have := splitP_cls x
  unfold kindP
  split
  · omega
  · split
    · omega
    · split
      · omega
      · split
        · omega
        · split <;> omega
theorem cnt_fin : ∀ (l : List Nat) (s : SP), finL l → (l.foldl (fun s x => countP s (kindP x)) s).na = s.na ∧ (l.foldl (fun s x => countP s (kindP x)) s).up = s.up ∧ (l.foldl (fun s x => countP s (kindP x)) s).dn = s.dn
  | [], s, _ => ⟨rfl, rfl, rfl⟩
  | x :: l, s, h => by
    have h1 := cnt_fin l (countP s (kindP x)) (fun z hz => h z (List.mem_cons_of_mem _ hz))
    have h2 := (kind_fin x).2 (h x (List.mem_cons_self ..))
    simp only [List.foldl_cons]
    obtain ⟨a, b, c⟩ := h1
    rw [a, b, c]
    unfold countP
    refine ⟨?_, ?_, ?_⟩ <;> dsimp only <;> rw [if_neg (by omega)] <;> rfl
theorem fil_fin {l : List Nat} (h : finL l) : filP l = l := by
  unfold filP
  rw [List.filter_eq_self]
  intro x hx
  unfold finP
  simpa using (kind_fin x).2 (h x hx)
theorem sift_fin {l : List Nat} {pn pi : Int} (h : finL l) (hl : l.length ≤ 65536) (hm : mayQ pn pi) : siftE l pn pi = 0 ∧ verdP (cntP l) pn pi = none := by
  obtain ⟨a, b, c⟩ := cnt_fin l SP.zero h
  have a' : (cntP l).na = 0 := a
  have b' : (cntP l).up = 0 := b
  have c' : (cntP l).dn = 0 := c
  constructor
  · unfold siftE
    rw [if_neg (fun q => q hm), if_neg (by omega), a', b', c', if_neg (by omega), if_neg (by omega)]
  · unfold verdP
    rw [a', b', c']
    split
    · rfl
    · rw [if_neg (by omega), if_neg (by omega), if_neg (by omega)]
/-- Mean of finite numbers. -/
theorem mean_fin2 {l : List Nat} {mode pn pi : Int} {bits : Nat} {e : Int} (h : meanR l mode pn pi bits e) (hf : finL l) (hl : l.length ≤ 65536) (hne : l ≠ []) (hm : 0 ≤ mode ∧ mode ≤ 4) (hp : mayQ pn pi) :
    e = 0 ∧ ((sumI l = 0 ∧ bits = noughtP (cntP l) mode) ∨ (sumI l ≠ 0 ∧ MeanQ (sumI l) l.length mode bits)) := by
  obtain ⟨h1, h2⟩ := sift_fin hf hl hp
  have := mean_fin h hm h1 h2 (by rw [fil_fin hf]; exact hne)
  rwa [fil_fin hf] at this
theorem nought_two (s : SP) (mode : Int) : noughtP s mode = 0 ∨ noughtP s mode = 9223372036854775808 := by
  unfold noughtP
  split
  · exact .inr rfl
  · exact .inl rfl
theorem fv_zero : fvI 0 = 0 ∧ fvI 9223372036854775808 = 0 ∧ (splitP 0).cls = 0 ∧ (splitP 9223372036854775808).cls = 0 := by decide +kernel
theorem sum_ge {v : Int} : ∀ {l : List Nat}, (∀ x ∈ l, v ≤ fvI x) → (l.length : Int) * v ≤ sumI l
  | [], _ => by simp [sumI]
  | x :: l, h => by
    have h1 := sum_ge (l := l) (fun z hz => h z (List.mem_cons_of_mem _ hz))
    have h2 := h x (List.mem_cons_self ..)
    have e : sumI (x :: l) = fvI x + sumI l := by simp [sumI]
    rw [e, List.length_cons, Int.natCast_add, Int.add_mul]
    have : ((1 : Nat) : Int) * v = v := by simp
    omega
theorem sum_le {v : Int} : ∀ {l : List Nat}, (∀ x ∈ l, fvI x ≤ v) → sumI l ≤ (l.length : Int) * v
  | [], _ => by simp [sumI]
  | x :: l, h => by
    have h1 := sum_le (l := l) (fun z hz => h z (List.mem_cons_of_mem _ hz))
    have h2 := h x (List.mem_cons_self ..)
    have e : sumI (x :: l) = fvI x + sumI l := by simp [sumI]
    rw [e, List.length_cons, Int.natCast_add, Int.add_mul]
    have : ((1 : Nat) : Int) * v = v := by simp
    omega
theorem fin_mod {x : Nat} (h : (splitP x).cls ≤ 2) : x % 9223372036854775808 < 9218868437227405312 := (cls_le2 x).1 h
theorem fin_of {r : Nat} (h : r < 9218868437227405312) : (splitP r).cls ≤ 2 ∧ (splitP (r + 9223372036854775808)).cls ≤ 2 := ⟨(cls_le2 r).2 (by omega), (cls_le2 _).2 (by omega)⟩
theorem fv_pos {r : Nat} (h : r < 9218868437227405312) : fvI r = (nz r * 2 ^ 1074 : Nat) := by
  rw [fvI_nz (fin_of h).1 (by omega), if_neg (by omega), Nat.mod_eq_of_lt (by omega)]
theorem fv_neg {r : Nat} (h : r < 9218868437227405312) : fvI (r + 9223372036854775808) = -((nz r * 2 ^ 1074 : Nat) : Int) := by
  rw [fvI_nz (fin_of h).2 (by omega), if_pos (by omega), show (r + 9223372036854775808) % 9223372036854775808 = r by omega]
theorem unit2 (k n : Nat) : 2 * nz k * (n * 2 ^ 1073) = n * (nz k * 2 ^ 1074) := by
  rw [show (2 : Nat) ^ 1074 = 2 * 2 ^ 1073 by rw [← Nat.pow_succ']]; ac_rfl
/-- The rounded mean lies where the exact one lies. -/
theorem meanQ_between {S : Int} {n : Nat} {mode : Int} {bits lo hi : Nat} (hn : n ≠ 0) (h : MeanQ S n mode bits) (hS : S ≠ 0) (hlo : (splitP lo).cls ≤ 2) (hhi : (splitP hi).cls ≤ 2) (hl64 : lo < 18446744073709551616) (hh64 : hi < 18446744073709551616)
    (h1 : (n : Int) * fvI lo ≤ S) (h2 : S ≤ (n : Int) * fvI hi) : bits < 18446744073709551616 ∧ (splitP bits).cls ≤ 2 ∧ fvI lo ≤ fvI bits ∧ fvI bits ≤ fvI hi := by
  obtain ⟨r, hN, hr, hb⟩ := h
  have hB : 0 < n * 2 ^ 1073 := Nat.mul_pos (by omega) (Nat.two_pow_pos _)
  have ml := fin_mod hlo
  have mh := fin_mod hhi
  have el := fvI_nz hlo hl64
  have eh := fvI_nz hhi hh64
  have hp := Nat.two_pow_pos 1074
  by_cases hneg : S < 0
  · rw [if_pos hneg] at hb
    have hl0 : fvI lo < 0 := by
      apply Int.lt_of_not_ge; intro q
      have : 0 ≤ (n : Int) * fvI lo := Int.mul_nonneg (by omega) q
      omega
    have hlb : 9223372036854775808 ≤ lo := by
      apply Nat.le_of_not_lt; intro q
      rw [if_neg (by omega)] at el; omega
    rw [if_pos hlb] at el
    have hle : S.natAbs ≤ 2 * nz (lo % 9223372036854775808) * (n * 2 ^ 1073) := by
      rw [unit2]
      rw [el, Int.mul_neg, ← Int.natCast_mul] at h1
      omega
    have hrk := near_le hN hB hle
    have hrf : r < 9218868437227405312 := by omega
    have e5 := fv_neg hrf
    rw [← hb] at e5
    refine ⟨by omega, by rw [hb]; exact (fin_of hrf).2, ?_, ?_⟩
    · rw [e5, el]
      have := Nat.mul_le_mul_right (2 ^ 1074) (nz_le hrk)
      omega
    · by_cases hh0 : 0 ≤ fvI hi
      · rw [e5]; omega
      · have hhb : 9223372036854775808 ≤ hi := by
          apply Nat.le_of_not_lt; intro q
          rw [if_neg (by omega)] at eh; omega
        rw [if_pos hhb] at eh
        have hge : 2 * nz (hi % 9223372036854775808) * (n * 2 ^ 1073) ≤ S.natAbs := by
          rw [unit2]
          rw [eh, Int.mul_neg, ← Int.natCast_mul] at h2
          omega
        have hkr := near_ge hN hB mh hge
        rw [e5, eh]
        have := Nat.mul_le_mul_right (2 ^ 1074) (nz_le hkr)
        omega
  · rw [if_neg hneg] at hb
    have hh0 : 0 < fvI hi := by
      apply Int.lt_of_not_ge; intro q
      have : (n : Int) * fvI hi ≤ 0 := Int.mul_nonpos_of_nonneg_of_nonpos (by omega) q
      omega
    have hhb : ¬ 9223372036854775808 ≤ hi := by
      intro q
      rw [if_pos q] at eh; omega
    rw [if_neg hhb] at eh
    have hle : S.natAbs ≤ 2 * nz (hi % 9223372036854775808) * (n * 2 ^ 1073) := by
      rw [unit2]
      rw [eh, ← Int.natCast_mul] at h2
      omega
    have hrk := near_le hN hB hle
    have hrf : r < 9218868437227405312 := by omega
    have e5 := fv_pos hrf
    subst hb
    refine ⟨by omega, (fin_of hrf).1, ?_, ?_⟩
    · by_cases hl0 : fvI lo ≤ 0
      · rw [e5]; omega
      · have hlb : ¬ 9223372036854775808 ≤ lo := by
          intro q
          rw [if_pos q] at el; omega
        rw [if_neg hlb] at el
        have hge : 2 * nz (lo % 9223372036854775808) * (n * 2 ^ 1073) ≤ S.natAbs := by
          rw [unit2]
          rw [el, ← Int.natCast_mul] at h1
          omega
        have hkr := near_ge hN hB ml hge
        rw [e5, el]
        have := Nat.mul_le_mul_right (2 ^ 1074) (nz_le hkr)
        omega
    · rw [e5, eh]
      have := Nat.mul_le_mul_right (2 ^ 1074) (nz_le hrk)
      omega
/-- A mean lies from the least to the greatest. -/
theorem mean_between {l : List Nat} {mode : Int} {bits lo hi : Nat} {e : Int} (h : meanR l mode 0 0 bits e) (hf : finL l) (hl : l.length ≤ 65536) (hne : l ≠ []) (hm : 0 ≤ mode ∧ mode ≤ 4)
    (hlo : (splitP lo).cls ≤ 2) (hhi : (splitP hi).cls ≤ 2) (hl64 : lo < 18446744073709551616) (hh64 : hi < 18446744073709551616) (h1 : ∀ x ∈ l, fvI lo ≤ fvI x) (h2 : ∀ x ∈ l, fvI x ≤ fvI hi) :
    e = 0 ∧ bits < 18446744073709551616 ∧ (splitP bits).cls ≤ 2 ∧ fvI lo ≤ fvI bits ∧ fvI bits ≤ fvI hi := by
  have hp : mayQ 0 0 := ⟨by decide, by decide⟩
  obtain ⟨he, hh⟩ := mean_fin2 h hf hl hne hm hp
  have hn : l.length ≠ 0 := fun q => hne (List.length_eq_zero_iff.1 q)
  have s1 := sum_ge h1
  have s2 := sum_le h2
  refine ⟨he, ?_⟩
  rcases hh with ⟨hz, hb⟩ | ⟨hz, hM⟩
  · rw [hz] at s1 s2
    have hlo0 : fvI lo ≤ 0 := by
      apply Int.le_of_not_gt; intro q
      have : 0 < (l.length : Int) * fvI lo := Int.mul_pos (by omega) q
      omega
    have hhi0 : 0 ≤ fvI hi := by
      apply Int.le_of_not_gt; intro q
      have : (l.length : Int) * fvI hi < 0 := Int.mul_neg_of_pos_of_neg (by omega) q
      omega
    obtain ⟨z1, z2, z3, z4⟩ := fv_zero
    rcases nought_two (cntP l) mode with q | q
    · rw [hb, q, z1, z3]; exact ⟨by decide, by decide, hlo0, hhi0⟩
    · rw [hb, q, z2, z4]; exact ⟨by decide, by decide, hlo0, hhi0⟩
  · exact meanQ_between hn hM hz hlo hhi hl64 hh64 s1 s2
theorem sum_like (n v : Nat) : sumI (List.replicate n v) = (n : Int) * fvI v := by
  induction n with
  | zero => simp [sumI]
  | succ n ih =>
    have e : sumI (v :: List.replicate n v) = fvI v + sumI (List.replicate n v) := by simp [sumI]
    rw [List.replicate_succ, e, ih, Int.natCast_add, Int.add_mul]
    simp; omega
theorem nz_zero {k : Nat} : nz k = 0 ↔ k = 0 := by
  constructor
  · intro h
    apply Classical.byContradiction
    intro h0
    have := nz_mono (show 0 < k by omega)
    omega
  · intro h; rw [h]; decide
end Go.Proofs.YtphnpchmdpjabaaGreatDoor

/- The nearest number to a value; forms of sums, put against one another. No condition. -/
namespace Go.Proofs.YtphnpchmdpjabaaGreatDoor
open Go Sx Wd
set_option exponentiation.threshold 9000

/-- What is nearest by Even: no number is nearer. -/
theorem near_best {A B : Nat} {neg : Bool} {r : Nat} (hB : 0 < B) (h : IsNear A B neg 0 r) (hr : r < 9218868437227405312) (j : Nat) : (((2 * nz r * B : Nat) : Int) - (A : Int)).natAbs ≤ (((2 * nz j * B : Nat) : Int) - (A : Int)).natAbs := by
  obtain ⟨k, k1, k2, k3, hk⟩ := h
  have e1 : (nz k + nz (k + 1)) * B + (nz k + nz (k + 1)) * B = 2 * nz k * B + 2 * nz (k + 1) * B := by
    rw [← Nat.add_mul, ← Nat.add_mul]; congr 1; omega
  have hup : A ≤ 2 * nz (k + 1) * B := by
    rcases k3 with q | q
    · omega
    · apply Classical.byContradiction
      intro q2
      have hm : (nz k + nz (k + 1)) * B < A := by
        have h2 := Nat.mul_le_mul_right B (Nat.mul_le_mul_left 2 (Nat.le_of_lt (nz_lt_succ k)))
        omega
      have hne : ¬ 2 * nz k * B = A := by
        intro q3
        have h2 := Nat.mul_le_mul_right B (Nat.mul_le_mul_left 2 (Nat.le_of_lt (nz_lt_succ k)))
        omega
      rw [if_neg hne] at hk
      have hu : upM 0 neg k A ((nz k + nz (k + 1)) * B) = true := by
        unfold upM
        rw [if_pos rfl, decide_eq_true hm]; rfl
      rw [if_pos hu] at hk
      omega
  have far : ∀ i, i ≤ k → 2 * nz i * B ≤ 2 * nz k * B := fun i hi => Nat.mul_le_mul_right B (Nat.mul_le_mul_left 2 (nz_le hi))
  have far2 : ∀ i, k + 1 ≤ i → 2 * nz (k + 1) * B ≤ 2 * nz i * B := fun i hi => Nat.mul_le_mul_right B (Nat.mul_le_mul_left 2 (nz_le hi))
  have hj : 2 * nz j * B ≤ 2 * nz k * B ∨ 2 * nz (k + 1) * B ≤ 2 * nz j * B := by
    by_cases q : j ≤ k
    · exact .inl (far j q)
    · exact .inr (far2 j (by omega))
  by_cases hne : 2 * nz k * B = A
  · rw [if_pos hne] at hk; subst hk; omega
  · rw [if_neg hne] at hk
    unfold upM at hk
    rw [if_pos rfl] at hk
    generalize (nz k + nz (k + 1)) * B = M at *
    by_cases q1 : M < A
    · rw [decide_eq_true q1, Bool.true_or, if_pos rfl] at hk; subst hk; omega
    · rw [decide_eq_false q1, Bool.false_or] at hk
      by_cases q2 : M = A
      · split at hk <;> subst hk <;> omega
      · rw [decide_eq_false q2, Bool.false_and, if_neg (by decide)] at hk; subst hk; omega
/-- The mean by Even: no number is nearer to the exact mean. -/
theorem mean_best {l : List Nat} {x y : Nat} {e : Int} (h : meanR l 0 0 0 x e) (hf : finL l) (hl : l.length ≤ 65536) (hne : l ≠ []) (hxf : (splitP x).cls ≤ 2) (hx : x < 18446744073709551616) (hy : (splitP y).cls ≤ 2) (hy64 : y < 18446744073709551616) :
    (fvI x * (l.length : Int) - sumI l).natAbs ≤ (fvI y * (l.length : Int) - sumI l).natAbs := by
  have hn : l.length ≠ 0 := fun q => hne (List.length_eq_zero_iff.1 q)
  obtain ⟨-, hxx⟩ := mean_fin2 h hf hl hne ⟨by decide, by decide⟩ ⟨by decide, by decide⟩
  generalize sumI l = S at *
  generalize l.length = n at *
  obtain ⟨z1, z2, z3, z4⟩ := fv_zero
  rcases hxx with ⟨h0, hb⟩ | ⟨h0, hM⟩
  · have hx0 : fvI x = 0 := by rcases nought_two (cntP l) 0 with q | q <;> rw [hb, q] <;> assumption
    rw [hx0, h0]; simp
  · obtain ⟨r, hN, hr, hb⟩ := hM
    have hB : 0 < n * 2 ^ 1073 := Nat.mul_pos (by omega) (Nat.two_pow_pos _)
    have mx := fin_mod hxf
    have hr2 : r < 9218868437227405312 := by
      split at hb <;> omega
    have hbest := near_best hB hN hr2 (y % 9223372036854775808)
    have hrx : fvI x = if S < 0 then -((nz r * 2 ^ 1074 : Nat) : Int) else ((nz r * 2 ^ 1074 : Nat) : Int) := by
      by_cases q : S < 0
      · rw [if_pos q] at hb ⊢; rw [hb]; exact fv_neg hr2
      · rw [if_neg q] at hb ⊢; rw [hb]; exact fv_pos hr2
    have hyv := fvI_nz hy hy64
    have e1 : ∀ k : Nat, ((nz k * 2 ^ 1074 : Nat) : Int) * (n : Int) = ((2 * nz k * (n * 2 ^ 1073) : Nat) : Int) := fun k => by
      rw [unit2, ← Int.natCast_mul, Nat.mul_comm n]
    have ex : fvI x * (n : Int) = if S < 0 then -((2 * nz r * (n * 2 ^ 1073) : Nat) : Int) else ((2 * nz r * (n * 2 ^ 1073) : Nat) : Int) := by
      rw [hrx]; split
      · rw [Int.neg_mul, e1]
      · rw [e1]
    have ey : fvI y * (n : Int) = if 9223372036854775808 ≤ y then -((2 * nz (y % 9223372036854775808) * (n * 2 ^ 1073) : Nat) : Int) else ((2 * nz (y % 9223372036854775808) * (n * 2 ^ 1073) : Nat) : Int) := by
      rw [hyv]; split
      · rw [Int.neg_mul, e1]
      · rw [e1]
    rw [ex, ey]
    generalize 2 * nz r * (n * 2 ^ 1073) = R at *
    generalize 2 * nz (y % 9223372036854775808) * (n * 2 ^ 1073) = Y at *
    split <;> split <;> omega
/-! ### Forms of sums -/
theorem formD_sumD {S : Int} (h : InB S) : formD (sumD S).neg (sumD S).m (sumD S).e = some (sumD S) := formD_self (rsumD_ok h)
theorem negF_sum {S : Int} (h : InB S) : formD (!(sumD S).neg) (sumD S).m (sumD S).e = some (sumD (-S)) := by
  by_cases h0 : S = 0
  · subst h0; rfl
  · obtain ⟨a, h1, h2, h3⟩ := sumD_up h h0
    rw [← formD_scale (k := a) (f := -2148) (by omega), ← h1, h3, show S.natAbs = (-S).natAbs by omega]
    exact sumD_some h.neg (neg := !decide (S < 0)) (fun hn => by rw [← decide_not]; exact decide_eq_decide.2 (by omega))
theorem mulD_int {S : Int} {n : Nat} (h : InB S) (hn : n ≠ 0) (hn2 : n < 18446744073709551616) (hP : InB (S * (n : Int))) : mulD (sumD S) (intD (n : Int)) = some (sumD (S * (n : Int))) := by
  have hok := rsumD_ok h
  have hok2 := intD_ok (n := (n : Int)) (by omega)
  rw [← mulD_form hok hok2]
  obtain ⟨t, q1, q2, q3⟩ := intD_form hn hn2
  by_cases h0 : S = 0
  · subst h0
    rw [show (sumD 0).m = 0 from rfl, Nat.zero_mul, formD_zero, Int.zero_mul]; rfl
  · obtain ⟨a, h1, h2, h3⟩ := sumD_up h h0
    have hS : S * (n : Int) ≠ 0 := by
      intro q
      rcases Int.mul_eq_zero.1 q with q | q
      · exact h0 q
      · omega
    have hv : (S * (n : Int)).natAbs = (sumD S).m * (intD (n : Int)).m * 2 ^ (a + t) := by
      rw [Int.natAbs_mul, Int.natAbs_natCast, h1, Nat.pow_add]
      calc (sumD S).m * 2 ^ a * n = (sumD S).m * 2 ^ a * ((intD (n : Int)).m * 2 ^ t) := by rw [← q1]
        _ = _ := by simp only [Nat.mul_comm, Nat.mul_left_comm, Nat.mul_assoc]
    rw [← formD_scale (k := a + t) (f := -2148) (by omega), ← hv, h3, q3]
    refine sumD_some hP fun _ => ?_
    have : (S * (n : Int) < 0) ↔ S < 0 := by
      constructor
      · intro q
        apply Int.lt_of_not_ge; intro q2
        have := Int.mul_nonneg q2 (show (0 : Int) ≤ n by omega)
        omega
      · intro q; exact Int.mul_neg_of_neg_of_pos q (by omega)
    rw [Bool.bne_false]
    exact decide_eq_decide.2 this.symm
theorem splitP_exp {x : Nat} (h : (splitP x).cls = 1 ∨ (splitP x).cls = 2) : -1074 ≤ (splitP x).exp := by
  unfold splitP at h ⊢
  by_cases a : x / 4503599627370496 % 2048 = 2047 ∧ x % 4503599627370496 ≠ 0
  · rw [if_pos a] at h; simp at h
  · rw [if_neg a] at h ⊢
    by_cases b : x / 4503599627370496 % 2048 = 2047
    · rw [if_pos b] at h; simp at h
    · rw [if_neg b] at h ⊢
      by_cases d : 0 < x / 4503599627370496 % 2048
      · rw [if_pos d] at h ⊢; dsimp only; omega
      · rw [if_neg d] at h ⊢
        by_cases f : 0 < x % 4503599627370496
        · rw [if_pos f]; simp
        · rw [if_neg f]; simp
theorem fin_form {x : Nat} (h : (splitP x).cls = 1 ∨ (splitP x).cls = 2) : formD (splitP x).neg (splitP x).frac (splitP x).exp = some (sumD (fvI x)) := by
  have he := splitP_exp h
  rw [← formD_scale (k := ((splitP x).exp + 2148).toNat) (f := -2148) (by omega)]
  have e1 : fvN x = (splitP x).frac * 2 ^ ((splitP x).exp + 2148).toNat := by unfold fvN; rw [if_pos h]
  rw [← e1, ← rfvI_abs]
  refine sumD_some (fvI_in x) fun hn => ?_
  unfold fvI at hn ⊢
  cases hg : (splitP x).neg
  · rw [if_neg (by decide)]; exact (decide_eq_false (by omega)).symm
  · rw [hg, if_pos rfl] at hn
    rw [if_pos rfl]; exact (decide_eq_true (by omega)).symm
theorem bl_sgn {x y : Nat} : (bl x < bl y → sgn x y = -1) ∧ (bl y < bl x → sgn x y = 1) := by
  constructor
  · intro h
    have h1 := bl_lt x
    have h2 := lt_bl.1 (show bl y - 1 < bl y by omega)
    have h3 := Nat.pow_le_pow_right (n := 2) (by decide) (show bl x ≤ bl y - 1 by omega)
    unfold sgn; rw [if_pos (by omega)]
  · intro h
    have h1 := bl_lt y
    have h2 := lt_bl.1 (show bl x - 1 < bl x by omega)
    have h3 := Nat.pow_le_pow_right (n := 2) (by decide) (show bl y ≤ bl x - 1 by omega)
    unfold sgn; rw [if_neg (by omega), if_pos (by omega)]
theorem sgn_swap (a b : Nat) : -sgn a b = sgn b a := by
  unfold sgn
  split <;> split <;> (try split) <;> omega
/-- Two forms' order. -/
def cmpV (m : Nat) (e : Int) (n : Nat) (f : Int) : Int := sgn (m * 2 ^ (e - min e f).toNat) (n * 2 ^ (f - min e f).toNat)
def cmpD (na : Bool) (m : Nat) (e : Int) (nb : Bool) (n : Nat) (f : Int) : Int :=
  if sgD na m < sgD nb n then -1 else if sgD nb n < sgD na m then 1 else if sgD na m = 0 then 0 else sgD na m * cmpV m e n f
theorem cmpV_sum {S T : Int} (hS : InB S) (hT : InB T) (h0 : S ≠ 0) (h1 : T ≠ 0) : cmpV (sumD S).m (sumD S).e (sumD T).m (sumD T).e = sgn S.natAbs T.natAbs := by
  obtain ⟨a, a1, a2, _⟩ := sumD_up hS h0
  obtain ⟨b, b1, b2, _⟩ := sumD_up hT h1
  unfold cmpV
  obtain ⟨c, hc⟩ : ∃ c, c = min a b := ⟨_, rfl⟩
  have he : min (sumD S).e (sumD T).e = -2148 + (c : Int) := by omega
  rw [he, show ((sumD S).e - (-2148 + (c : Int))).toNat = a - c by omega, show ((sumD T).e - (-2148 + (c : Int))).toNat = b - c by omega]
  have hp : S.natAbs = (sumD S).m * 2 ^ (a - c) * 2 ^ c := by rw [Nat.mul_assoc, ← Nat.pow_add, show a - c + c = a by omega]; exact a1
  have hq : T.natAbs = (sumD T).m * 2 ^ (b - c) * 2 ^ c := by rw [Nat.mul_assoc, ← Nat.pow_add, show b - c + c = b by omega]; exact b1
  rw [hp, hq]
  generalize (sumD S).m * 2 ^ (a - c) = p
  generalize (sumD T).m * 2 ^ (b - c) = q
  have hc2 := Nat.two_pow_pos c
  unfold sgn
  have k1 : p * 2 ^ c < q * 2 ^ c ↔ p < q := ⟨fun h => Nat.lt_of_mul_lt_mul_right h, fun h => Nat.mul_lt_mul_of_pos_right h hc2⟩
  have k2 : q * 2 ^ c < p * 2 ^ c ↔ q < p := ⟨fun h => Nat.lt_of_mul_lt_mul_right h, fun h => Nat.mul_lt_mul_of_pos_right h hc2⟩
  simp only [k1, k2]
theorem cmpD_sum {S T : Int} (hS : InB S) (hT : InB T) : cmpD (sumD S).neg (sumD S).m (sumD S).e (sumD T).neg (sumD T).m (sumD T).e = if S < T then -1 else if T < S then 1 else 0 := by
  have s1 := sumD_sg hS.1 hS.2
  have s2 := sumD_sg hT.1 hT.2
  unfold cmpD
  rw [s1, s2]
  by_cases h0 : S = 0
  · subst h0
    by_cases h1 : T = 0
    · subst h1; rfl
    · by_cases h2 : T < 0
      · simp [h2]; omega
      · simp [h1, h2]; omega
  · by_cases h1 : T = 0
    · subst h1
      by_cases h2 : S < 0
      · simp [h2]
      · simp [h0, h2]; omega
    · have hv := cmpV_sum hS hT h0 h1
      rw [hv]
      unfold sgn
      by_cases h2 : S < 0 <;> by_cases h3 : T < 0
      · simp only [h2, h3, if_true]
        simp only [show ¬ ((-1 : Int) < -1) by omega, show ¬ ((-1 : Int) = 0) by omega, if_false]
        by_cases q1 : S < T
        · rw [if_pos q1, if_neg (by omega), if_pos (by omega)]; decide
        · rw [if_neg q1]
          by_cases q2 : T < S
          · rw [if_pos q2, if_pos (by omega)]; decide
          · rw [if_neg q2, if_neg (by omega), if_neg (by omega)]; decide
      · simp only [h2, h3, h1, if_true, if_false]
        rw [if_pos (by decide), if_pos (by omega)]
      · simp only [h2, h3, h0, if_true, if_false]
        rw [if_neg (by decide), if_pos (by decide), if_neg (by omega), if_pos (by omega)]
      · simp only [h2, h3, h0, h1, if_false]
        simp only [show ¬ ((1 : Int) < 1) by omega, show ¬ ((1 : Int) = 0) by omega, if_false]
        by_cases q1 : S < T
        · rw [if_pos q1, if_pos (by omega)]; decide
        · rw [if_neg q1]
          by_cases q2 : T < S
          · rw [if_pos q2, if_neg (by omega), if_pos (by omega)]; decide
          · rw [if_neg q2, if_neg (by omega), if_neg (by omega)]; decide
theorem fv_small (x : Nat) {n : Nat} (hn : n ≤ 1099511627776) : InB (fvI x * (n : Int)) := by
  have h := sumI_in (l := List.replicate n x) (by simpa using hn)
  rw [sum_like, Int.mul_comm] at h
  exact h
theorem InB.bound {S : Int} (h : S.natAbs < 2 ^ 4230) : InB S := by
  have h2 : 2 ^ 4230 < 16384 * BB := by rw [BB_pow]; exact Nat.pow_lt_pow_right (by decide) (by decide)
  unfold InB
  generalize 16384 * BB = M at *
  generalize 2 ^ 4230 = N at *
  omega
end Go.Proofs.YtphnpchmdpjabaaGreatDoor

/- Equality of numbers' parts. No condition. -/
namespace Go.Proofs.YtphnpchmdpjabaaGreatDoor
open Go Sx

theorem fieldsOf_of {P : Program} {t : TypeId} {fs : Array Field} (h : P.underlying t = some (.struct fs)) : P.fieldsOf t = fs := by unfold Program.fieldsOf; rw [h]
theorem run_eqParts (n1 n2 : Bool) (c1 c2 e1 e2 f1 f2 : Int) (w : World) : (Op.equalIn 10000 82 (.agg [.bool n1, .int .i64 c1, .int .i64 e1, .int .u64 f1].toArray) (.agg [.bool n2, .int .i64 c2, .int .i64 e2, .int .u64 f2].toArray)).run Tryz.prog w = .ok (n1 == n2 && (c1 == c2 && (e1 == e2 && f1 == f2))) w := by
  have hu := Tryz.underlying82
  have hf := fieldsOf_of hu
  have ht : Tryz.prog.underlying 82 = some (.struct (Program.fieldsOf Tryz.prog 82)) := by rw [hf]; exact hu
  rw [run_equalIn_struct w 9999 _ _ _ ht (by kernel_rfl), hf]
  have b1 : (isAgg 4).run Tryz.prog w = .ok false w := (inferInstance : HasT Tryz.prog 4 _ _ _ _).isAgg
  have b2 : (isAgg 3).run Tryz.prog w = .ok false w := (inferInstance : HasT Tryz.prog 3 _ _ _ _).isAgg
  have b3 : (isAgg 74).run Tryz.prog w = .ok false w := (inferInstance : HasT Tryz.prog 74 _ _ _ _).isAgg
  have q1 : ∀ a b : Bool, (Op.equalIn 9999 4 (.bool a) (.bool b)).run Tryz.prog w = .ok (a == b) w := fun a b => run_equalIn_bool' w 9998 _ a b Tryz.underlying4
  have q2 : ∀ a b : Int, (Op.equalIn 9999 3 (.int .i64 a) (.int .i64 b)).run Tryz.prog w = .ok (a == b) w := fun a b => run_equalIn_int w 9998 _ .i64 .i64 a b Tryz.underlying3
  have q3 : ∀ a b : Int, (Op.equalIn 9999 74 (.int .u64 a) (.int .u64 b)).run Tryz.prog w = .ok (a == b) w := fun a b => run_equalIn_int w 9998 _ .u64 .u64 a b Tryz.underlying74
  cases h1 : (n1 == n2) <;> cases h2 : (c1 == c2) <;> cases h3 : (e1 == e2) <;> cases h4 : (f1 == f2) <;> simp [Op.eqFields, part, b1, b2, b3, q1, q2, q3, h1, h2, h3, h4]
theorem Ev.eqlParts {s : Sl} {w : World} {ty t' : TypeId} {x y : Operand} {n1 n2 : Bool} {c1 c2 e1 e2 f1 f2 : Int} (hx : opnd s x = some (.agg [.bool n1, .int .i64 c1, .int .i64 e1, .int .u64 f1].toArray)) (hy : opnd s y = some (.agg [.bool n2, .int .i64 c2, .int .i64 e2, .int .u64 f2].toArray)) :
    Ev Tryz.prog s (.binOp .eql 82 x y t') ty w (.bool (n1 == n2 && (c1 == c2 && (e1 == e2 && f1 == f2)))) w :=
  run_bin hx hy (fun _ _ => run_eqGuard_agg _ _ _ _ _ _ _ (by kernel_rfl)) (by rw [run_eql_struct, run_eqParts]; rfl)
end Go.Proofs.YtphnpchmdpjabaaGreatDoor

/- Package dyad: Of. No condition. -/
namespace Go.Proofs.YtphnpchmdpjabaaGreatDoor
open Go Sx Wd Fl

theorem parts_eq (n b : Bool) (c f : Nat) (e : Int) : (n == b && ((c : Int) == 0 && (e == e && (f : Int) == 0))) = ((n == b) && decide (c = 0 ∧ f = 0)) := by
  have h1 : ((c : Int) == 0) = decide (c = 0) := by rw [Bool.eq_iff_iff]; simp
  have h2 : ((f : Int) == 0) = decide (f = 0) := by rw [Bool.eq_iff_iff]; simp
  rw [h1, h2, beq_self_eq_true, Bool.true_and, Bool.decide_and]
theorem cls0_frac {x : Nat} : (splitP x).cls = 0 → (splitP x).frac = 0 := by
  unfold splitP
  by_cases a : x / 4503599627370496 % 2048 = 2047 ∧ x % 4503599627370496 ≠ 0
  · rw [if_pos a]; simp
  · rw [if_neg a]
    by_cases b : x / 4503599627370496 % 2048 = 2047
    · rw [if_pos b]; simp
    · rw [if_neg b]
      by_cases d : 0 < x / 4503599627370496 % 2048
      · rw [if_pos d]; simp
      · rw [if_neg d]
        by_cases f : 0 < x % 4503599627370496
        · rw [if_pos f]; simp
        · rw [if_neg f]; simp
theorem splitP_frac (x : Nat) : (splitP x).frac < 9007199254740992 := by
  unfold splitP
  split
  · simp
  · split
    · simp
    · split
      · dsimp only; omega
      · split
        · dsimp only; omega
        · simp
theorem splitP_range (x : Nat) : -5000 ≤ (splitP x).exp ∧ (splitP x).exp ≤ 5000 := by
  unfold splitP
  split
  · simp
  · split
    · simp
    · split
      · dsimp only; omega
      · split
        · dsimp only; omega
        · simp

set_option maxRecDepth 8000 in
set_option maxHeartbeats 4000000 in
theorem dOf_spec (x : Nat) (w : World) (hx : x < 18446744073709551616) (hg : GW w) : Ret Tryz.prog 16 [.float .f64 x] w fun u w' => (((splitP x).cls ≤ 2 ∧ ∃ r, u = .tuple [.agg [.bool (sumD (fvI x)).neg, r, .int .i64 (sumD (fvI x)).e].toArray, .int .i64 0].toArray ∧ NU w' r (wd (sumD (fvI x)).m)) ∨ (¬ (splitP x).cls ≤ 2 ∧ u = .tuple [.agg [.bool false, .slice none 0 0, .int .i64 0].toArray, .int .i64 30].toArray)) ∧ Chg [] w w' := by
 have hch : Chg [] w w := Chg.refl _ _
 refine Ret.enter Tryz.func16 rfl rfl ?_
 simp only [args0, Nat.zero_add, Nat.reduceAdd]
 refine Sr fun _ kh1 => ?_
 refine WL.allocB (l := [.bool false, .slice none 0 0, .int .i64 0]) rfl rfl fun b2 wm2 hb2 hcm2 hge2 => ?_
 have hgehch2 := Nat.le_trans hch.size hge2
 have hch := hch.trans (Chg.any hcm2)
 refine za rfl (zz (kh1 (Sr fun _ kh3 => zm rfl ?_)))
 refine WL.call hasF44 rfl rfl (Split_spec x _ hx) fun v w1 h' => ?_
 obtain ⟨rfl, hC⟩ := h'
 have hch := hch.trans (Chg.any hC)
 have hb2 := hb2.keep0 hC
 refine WL.allocB (l := [.bool false, .int .i64 0, .int .i64 0, .int .u64 0]) rfl rfl fun b4 wm4 hb4 hcm4 hge4 => ?_
 have hgehch4 := Nat.le_trans hch.size hge4
 have hch := hch.trans (Chg.any hcm4)
 have hneb24 : b2 ≠ b4 := by have := hb2.lt; omega
 have hb2 := hb2.keep0 hcm4
 refine WL.storeB rfl rfl rfl ao hb4 (by simp) rfl fun ws1 hb4_ hcs1 => ?_
 try simp only [Sx.splice, qt] at hb4_
 have hch := hch.s1 hcs1
 have hb2 := hb2.keep hcs1 (by simp; omega)
 have hb4 := hb4_
 refine zz (kh3 (Sr fun _ kh5 => zf rfl (zl hb4 rfl rfl ?_)))
 refine WL.ev (Ev.build (vs := _) (cs := [_, _, _, _]) rfl rfl) rfl ?_
 refine WL.allocB (l := [.bool false, .int .i64 0, .int .i64 0, .int .u64 0]) rfl rfl fun b5 wm5 hb5 hcm5 hge5 => ?_
 have hgehch5 := Nat.le_trans hch.size hge5
 have hch := hch.trans (Chg.any hcm5)
 have hneb25 : b2 ≠ b5 := by have := hb2.lt; omega
 have hb2 := hb2.keep0 hcm5
 have hneb45 : b4 ≠ b5 := by have := hb4.lt; omega
 have hb4 := hb4.keep0 hcm5
 refine WL.storeB rfl rfl rfl ao hb5 (by simp) rfl fun ws2 hb5_ hcs2 => ?_
 try simp only [Sx.splice, qt] at hb5_
 have hch := hch.s1 hcs2
 have hb2 := hb2.keep hcs2 (by simp; omega)
 have hb4 := hb4.keep hcs2 (by simp; omega)
 have hb5 := hb5_
 refine zz (kh5 (Sr fun _ kh7 => zg hb5 rfl ?_))
 refine WL.allocB (l := [.bool false, .int .i64 0, .int .i64 0, .int .u64 0]) rfl rfl fun b6 wm6 hb6 hcm6 hge6 => ?_
 have hgehch6 := Nat.le_trans hch.size hge6
 have hch := hch.trans (Chg.any hcm6)
 have hneb26 : b2 ≠ b6 := by have := hb2.lt; omega
 have hb2 := hb2.keep0 hcm6
 have hneb46 : b4 ≠ b6 := by have := hb4.lt; omega
 have hb4 := hb4.keep0 hcm6
 have hneb56 : b5 ≠ b6 := by have := hb5.lt; omega
 have hb5 := hb5.keep0 hcm6
 refine WL.storeB rfl rfl rfl ao hb6 (by simp) rfl fun ws3 hb6_ hcs3 => ?_
 try simp only [Sx.splice, qt] at hb6_
 have hch := hch.s1 hcs3
 have hb2 := hb2.keep hcs3 (by simp; omega)
 have hb4 := hb4.keep hcs3 (by simp; omega)
 have hb5 := hb5.keep hcs3 (by simp; omega)
 have hb6 := hb6_
 refine zz (kh7 (Sr fun _ kh9 => zf rfl ?_))
 refine WL.storeC rfl rfl o1 hb6 (by simp) rfl fun ws4 hb6_ hcs4 => ?_
 try simp only [Sx.splice, qt] at hb6_
 have hch := hch.s1 hcs4
 have hb2 := hb2.keep hcs4 (by simp; omega)
 have hb4 := hb4.keep hcs4 (by simp; omega)
 have hb5 := hb5.keep hcs4 (by simp; omega)
 have hb6 := hb6_
 refine zz (kh9 (zc fun _ kh11 => ?_))
 refine CW.block ?_
 refine CW.seqM 14 (decide ((splitP x).cls = 3 ∨ (splitP x).cls = 4)) ?_ ?_
 ·
  refine CW.region fun kR12 kr12 => ?_
  refine zf rfl (zl hb4 rfl rfl (zq rfl rfl (zm rfl ?_)))
  refine WL.boolCase (fun hg1 => ?_) (fun hg1 => ?_)
  ·
   try simp only [qs] at hg1
   refine zv rfl (zv rfl (zv rfl (zt rfl rfl (za rfl ?_))))
   refine WL.nil (kr12 _ _ _ ?_)
   refine ⟨rfl, rfl, Subs.consB rfl ?_ ?_⟩
   ·
    first | (simp; omega) | (simp_all; done) | (refine decide_eq_decide.2 ?_; omega)
   ·
    exact SMg
  ·
   try simp only [qs] at hg1
   refine zw rfl (zf rfl (zw rfl (zl hb4 rfl rfl (zw rfl (zq rfl rfl (ze rfl rfl (za rfl ?_)))))))
   refine WL.nil (kr12 _ _ _ ?_)
   refine ⟨rfl, rfl, Subs.consB rfl ?_ ?_⟩
   ·
    first | (simp; omega) | (simp_all; done) | (refine decide_eq_decide.2 ?_; omega)
   ·
    exact SMg
 ·
  refine CW.cond rfl (fun hc2 => ?_) (fun hc2 => ?_)
  ·
   try simp only [qs] at hc2
   have hodd : ¬ (splitP x).cls ≤ 2 := by have := hc2; omega
   refine Sr fun _ kh13 => ?_
   refine WL.ev (Ev.build (vs := _) (cs := [_, _, _]) rfl rfl) rfl ?_
   refine WL.storeB rfl rfl rfl ao hb2 (by simp) rfl fun ws5 hb2_ hcs5 => ?_
   try simp only [Sx.splice, qt] at hb2_
   have hch := hch.s1 hcs5
   have hb4 := hb4.keep hcs5 (by simp; omega)
   have hb5 := hb5.keep hcs5 (by simp; omega)
   have hb6 := hb6.keep hcs5 (by simp; omega)
   have hb2 := hb2_
   refine za rfl (zz (kh13 ?_))
   refine CW.ret ?_
   refine bodyA.retR2 rfl (RVal.cell rfl (hb2.varA rfl rfl)) (RVal.tmp rfl) ?_
   exact ⟨.inr ⟨hodd, rfl⟩, hch⟩
  ·
   try simp only [qs] at hc2
   have hfx : (splitP x).cls ≤ 2 := by have := hc2; have := splitP_cls x; omega
   refine CW.seqM 24 (decide ((splitP x).cls = 0 ∧ (splitP x).frac = 0)) ?_ ?_
   ·
    refine CW.region fun kR15 kr15 => ?_
    refine zg hb4 rfl (zg hb5 rfl ?_)
    refine WL.ev (Ev.eqlParts rfl rfl) rfl ?_
    rw [parts_eq]
    refine zm rfl ?_
    refine WL.boolCase (fun hg3 => ?_) (fun hg3 => ?_)
    ·
     try simp only [qs] at hg3
     refine zv rfl (zv rfl (zv rfl (zt rfl rfl (za rfl ?_))))
     refine WL.nil (kr15 _ _ _ ?_)
     refine ⟨rfl, rfl, Subs.consB rfl ?_ ?_⟩
     ·
      generalize (splitP x).neg = nn at *
      by_cases hP : (splitP x).cls = 0 ∧ (splitP x).frac = 0
      · (try rw [decide_eq_true hP] at *) <;> cases nn <;> simp_all
      · (try rw [decide_eq_false hP] at *) <;> cases nn <;> simp_all
     ·
      exact SMg
    ·
     try simp only [qs] at hg3
     refine zw rfl (zg hb4 rfl (zw rfl (zg hb6 rfl (zw rfl ?_))))
     refine WL.ev (Ev.eqlParts rfl rfl) rfl ?_
     rw [parts_eq]
     refine ze rfl rfl (za rfl ?_)
     refine WL.nil (kr15 _ _ _ ?_)
     refine ⟨rfl, rfl, Subs.consB rfl ?_ ?_⟩
     ·
      generalize (splitP x).neg = nn at *
      by_cases hP : (splitP x).cls = 0 ∧ (splitP x).frac = 0
      · (try rw [decide_eq_true hP] at *) <;> cases nn <;> simp_all
      · (try rw [decide_eq_false hP] at *) <;> cases nn <;> simp_all
     ·
      exact SMg
   ·
    refine CW.cond rfl (fun hc4 => ?_) (fun hc4 => ?_)
    ·
     try simp only [qs] at hc4
     have hq : (splitP x).cls = 0 ∧ (splitP x).frac = 0 := hc4
     refine Sr fun _ kh16 => ?_
     refine WL.ev (Ev.build (vs := _) (cs := [_, _, _]) rfl rfl) rfl ?_
     refine WL.storeB rfl rfl rfl ao hb2 (by simp) rfl fun ws6 hb2_ hcs6 => ?_
     try simp only [Sx.splice, qt] at hb2_
     have hch := hch.s1 hcs6
     have hb4 := hb4.keep hcs6 (by simp; omega)
     have hb5 := hb5.keep hcs6 (by simp; omega)
     have hb6 := hb6.keep hcs6 (by simp; omega)
     have hb2 := hb2_
     refine za rfl (zz (kh16 ?_))
     refine CW.ret ?_
     refine bodyA.retR2 rfl (RVal.cell rfl (hb2.varA rfl rfl)) (RVal.tmp rfl) ?_
     refine ⟨.inl ⟨hfx, ?_⟩, hch⟩
     have hz : fvI x = 0 := fvI_zero (by omega)
     rw [hz]
     exact ⟨.slice none 0 0, rfl, by rw [show (sumD 0).m = 0 from rfl, wd_zero]; exact NU.nil⟩
    ·
     try simp only [qs] at hc4
     have hq : (splitP x).cls = 1 ∨ (splitP x).cls = 2 := by have := hc4; have h2 := cls0_frac (x := x); omega
     have hff := fin_form hq
     have hfl := splitP_frac x
     have hex := splitP_range x
     refine CW.skip ?_
     refine kh11 (zc fun _ kh18 => ?_)
     refine CW.regionKC 10 12 rfl hmix fun kR19 kr19 hS hdr => ?_
     have hch := hch.trans (Chg.any hdr)
     have hb2 := hb2.keep0 hdr
     have hb4 := hb4.keep0 hdr
     have hb5 := hb5.keep0 hdr
     have hb6 := hb6.keep0 hdr
     have hch_r := hch
     have hb2_r := hb2
     have hb4_r := hb4
     have hb5_r := hb5
     have hb6_r := hb6
     refine wk 0 rfl hS (fun _ _ => Ev.fieldAddr rfl) (wk 1 rfl hS (fun _ hw' => Ev.load rfl rfl ((hb4_r.keep0 hw').at_ rfl)) (wk 2 rfl hS (fun _ _ => Ev.fieldAddr rfl) (wk 3 rfl hS (fun _ hw' => Ev.load rfl rfl ((hb4_r.keep0 hw').at_ rfl)) (wk 5 rfl hS (fun _ _ => Ev.fieldAddr rfl) (wk 6 rfl hS (fun _ hw' => Ev.load rfl rfl ((hb4_r.keep0 hw').at_ rfl)) ?_)))))
     refine WK.oneCall 4 rfl (by kernel_rfl) hasF46 rfl rfl (Of_spec (splitP x).frac _ (by omega)) fun v w2 h' => ?_
     obtain ⟨hN, hC⟩ := h'
     have hch := hch.trans (Chg.any hC)
     have hb2 := hb2.keep0 hC
     have hb4 := hb4.keep0 hC
     have hb5 := hb5.keep0 hC
     have hb6 := hb6.keep0 hC
     have hS := hS.trans hC
     refine ⟨hS, ?_⟩
     refine WK.oneCall 7 rfl (by kernel_rfl) hasF45 rfl rfl (form_spec (splitP x).neg _ (wd (splitP x).frac) (splitP x).exp _ hN (hg.keep0 hch) (by omega)) fun v w3 h' => ?_
     obtain ⟨hD, hC⟩ := h'
     rw [val_wd, hff] at hD
     obtain ⟨r, d, hd, rfl, hNr⟩ := hD.resolve_right (fun q => by cases q.1)
     cases hd
     have hch := hch.trans (Chg.any hC)
     have hb2 := hb2.keep0 hC
     have hb4 := hb4.keep0 hC
     have hb5 := hb5.keep0 hC
     have hb6 := hb6.keep0 hC
     have hN := hN.keep0 hC
     have hS := hS.trans hC
     refine ⟨hS, ?_⟩
     refine wk 8 rfl hS (fun _ _ => Ev.extract rfl rfl) (wk 9 rfl hS (fun _ _ => Ev.extract rfl rfl) ?_)
     refine WK.storeB 10 rfl (by kernel_rfl) (by kernel_rfl) rfl rfl rfl ao hb2 (by simp) rfl fun ws7 hb2_ hcs7 => ?_
     try simp only [Sx.splice, qt] at hb2_
     have hch := hch.s1 hcs7
     have hb4 := hb4.keep hcs7 (by simp; omega)
     have hb5 := hb5.keep hcs7 (by simp; omega)
     have hb6 := hb6.keep hcs7 (by simp; omega)
     have hNr := hNr.keepBK hb2 hcs7 an
     have hb2 := hb2_
     refine WK.after 11 rfl (by kernel_rfl) (by kernel_rfl) (Ev.assign rfl) rfl ?_
     refine WK.done (by kernel_rfl) (kr19 _ _ _ ?_)
     refine kh18 ?_
     refine CW.ret ?_
     refine bodyA.retR2 rfl (RVal.cell rfl (hb2.varA rfl rfl)) (RVal.tmp rfl) ?_
     exact ⟨.inl ⟨hfx, r, rfl, hNr⟩, hch⟩

end Go.Proofs.YtphnpchmdpjabaaGreatDoor

/- Package dyad: higher. No condition. -/
namespace Go.Proofs.YtphnpchmdpjabaaGreatDoor
open Go Sx Wd Fl

theorem rep_get {p i : Nat} {L : List Nat} : (List.replicate p 0 ++ L).getD (p + i) 0 = L.getD i 0 := by
  rw [List.getD_eq_getElem?_getD, List.getElem?_append_right (by simp), List.length_replicate, Nat.add_sub_cancel_left, ← List.getD_eq_getElem?_getD]
theorem rep_set2 {p i v : Nat} {L : List Nat} : (List.replicate p 0 ++ L).set (p + i) v = List.replicate p 0 ++ L.set i v := by
  rw [List.set_append_right _ _ (by simp), List.length_replicate, Nat.add_sub_cancel_left]
theorem val_zeros2 (k : Nat) (l : List Nat) : val (List.replicate k 0 ++ l) = val l * 2 ^ (32 * k) := by
  rw [val_append, val_replicate, List.length_replicate, Nat.zero_add, Nat.mul_comm]
structure KHi (l : List Nat) (p s : Nat) (w0 : World) (b : Nat) (g : Nat × List Nat) (w : World) : Prop where
  up : UpI l s g.1 g.2
  hB : OB w b 116 (List.replicate p 0 ++ g.2)
  ch : Chg [] w0 w

set_option maxRecDepth 8000 in
set_option maxHeartbeats 4000000 in
theorem higher_spec (v : Value) (l : List Nat) (k p s : Nat) (w : World) (h : NU w v l) (hlm : l.length ≤ 1000000) (hk : k ≤ 1000000000) (hp : p = k / 32) (hsd : s = k % 32) : Ret Tryz.prog 134 [v, .int .i64 (k : Int)] w fun u w' => ∃ L, NU w' u L ∧ val L = val l * 2 ^ k ∧ Chg [] w w' := by
 obtain ⟨⟨al, cl, rfl, hcapl, hrl⟩, hWl, hll⟩ := h
 have hch : Chg [] w w := Chg.refl _ _
 have hs : s < 32 := by omega
 have hquo : (k : Int) / 32 = (p : Int) := by omega
 have hrem : (k : Int) % 32 = (s : Int) := by omega
 refine Ret.enter Tryz.func134 rfl rfl ?_
 simp only [args0, Nat.zero_add, Nat.reduceAdd]
 refine Sr fun _ kh1 => za rfl (zz (kh1 (Sr fun _ kh3 => zm rfl ?_)))
 refine WL.ev (Ev.quoIn rfl rfl (by omega) (by simp only [IntKind.max, IntKind.signed, IntKind.bits]; omega) (by omega)) rfl ?_
 rw [hquo]
 refine zm rfl (zn rfl ?_)
 first | refine WL.ev (Ev.addIn rfl rfl (by omega)) rfl ?_ | refine WL.ev (Ev.add rfl rfl) rfl ?_
 first | refine WL.ev (Ev.addIn rfl rfl (by omega)) rfl ?_ | refine WL.ev (Ev.add rfl rfl) rfl ?_
 refine WL.makeU (((p + (l).length) + 1)) (((p + (l).length) + 1)) rfl rfl (by omega) (by omega) (by omega) (by omega) (by omega) rfl fun b15 wm15 hb15 hcm15 hge15 => ?_
 have hgehch15 := Nat.le_trans hch.size hge15
 have hch := hch.trans (Chg.any hcm15)
 refine za rfl (zz (kh3 (zc fun _ kh5 => Sr fun _ kh6 => zm rfl (zn rfl (zm rfl (zz (kh6 ?_)))))))
 refine CW.block ?_
 refine CW.loop (S := fun g : Nat × List Nat => [(1, .int .i64 (k : Int)), (5, .slice (some ⟨b15, 0, none⟩) (p + l.length + 1) (p + l.length + 1)), (16, .slice al l.length cl), (17, .int .i64 (l.length : Int)), (18, .int .i64 (g.1 : Int))]) (Inv := KHi l p s w b15) (mu := fun g => l.length - g.1) ((0, List.replicate (l.length + 1) 0)) ?_ ?_ ?_
 ·
  exact ⟨UpI.zero l s, by rw [List.replicate_append_replicate, show p + (l.length + 1) = p + l.length + 1 by omega]; exact hb15, hch⟩
 ·
  exact SLp
 ·
  rintro ⟨i, L⟩ wr ⟨hAd, hb15, hch⟩
  dsimp only at hAd hb15 hch
  dsimp only
  have hiX := hAd.le
  have hLl := hAd.len
  have hWL := hAd.w
  refine Sr fun _ kh8 => ?_
  refine WL.ev (Ev.lss rfl rfl) rfl ?_
  refine zz (kh8 (zc fun _ kh10 => ?_))
  refine CW.cond rfl (fun hc1 => ?_) (fun hc1 => ?_)
  ·
   try simp only [qs] at hc1
   have hst := hAd.step hs hWl (by omega)
   have hxl := hWl.getD i
   have hg1 : (List.replicate p 0 ++ L).getD (p + i) 0 = L.getD i 0 := rep_get
   have hWLi := hWL.getD i
   have hlen2 : (List.replicate p 0 ++ L).length = p + l.length + 1 := by simp; omega
   generalize hLL : List.replicate p 0 ++ L = LL at *
   refine CW.skip ?_
   refine kh10 (zc fun _ kh11 => ?_)
   refine CW.block ?_
   refine Sr fun _ kh12 => zm rfl ?_
   refine WL.ev (Ev.ixR (i) rfl rfl (hrl.keep0 hch) (by omega) (by omega) (by simp; omega)) rfl ?_
   refine WL.ev (Ev.load rfl rfl ((hrl.keep0 hch).u32 (by first | omega | (simp; omega)))) rfl ?_
   have hw22 := hWl.getD (i)
   refine za rfl (za rfl (zz (kh12 (Sr fun _ kh14 => zm rfl ?_))))
   refine WL.ev (Ev.convIn rfl rfl (in_u64 (by omega))) rfl ?_
   refine zm rfl ?_
   refine WL.ev (Ev.remIn rfl rfl (by omega) (by omega)) rfl ?_
   rw [hrem]
   refine WL.ev (Ev.shlU64 rfl rfl) rfl ?_
   refine za rfl (zz (kh14 (Sr fun _ kh16 => zm rfl (zm rfl ?_))))
   refine WL.ev (Ev.quoIn rfl rfl (by omega) (by simp only [IntKind.max, IntKind.signed, IntKind.bits]; omega) (by omega)) rfl ?_
   rw [hquo]
   refine zm rfl ?_
   first | refine WL.ev (Ev.addIn rfl rfl (by omega)) rfl ?_ | refine WL.ev (Ev.add rfl rfl) rfl ?_
   refine WL.ev (Ev.ixB ((p + i)) rfl rfl (by omega) (by omega)) rfl ?_
   refine WL.ev (Ev.load rfl rfl (hb15.u32 (by first | omega | (simp; omega)))) rfl ?_
   rw [hg1]
   refine zm rfl ?_
   refine WL.ev (Ev.conv32 rfl rfl) rfl ?_
   refine WL.ev (Ev.orU rfl rfl rfl (by simp only [IntKind.bits]; omega) (by simp only [IntKind.bits]; omega)) rfl ?_
   refine WL.ev (Ev.ixB ((p + i)) rfl rfl (by omega) (by omega)) rfl ?_
   refine WL.storeU rfl rfl hb15 (by first | omega | (simp; done) | (simp; omega)) fun ws8 hb15_ hcs8 => ?_
   have hch := hch.s1 hcs8
   have hb15 := hb15_
   refine zz (kh16 ?_)
   refine CW.region fun kR18 kr18 => ?_
   refine zm rfl (zm rfl ?_)
   refine WL.ev (Ev.quoIn rfl rfl (by omega) (by simp only [IntKind.max, IntKind.signed, IntKind.bits]; omega) (by omega)) rfl ?_
   rw [hquo]
   refine zm rfl ?_
   first | refine WL.ev (Ev.addIn rfl rfl (by omega)) rfl ?_ | refine WL.ev (Ev.add rfl rfl) rfl ?_
   first | refine WL.ev (Ev.addIn rfl rfl (by omega)) rfl ?_ | refine WL.ev (Ev.add rfl rfl) rfl ?_
   refine zm rfl ?_
   refine WL.ev (Ev.shrU (b := 32) rfl rfl (by simp only [IntKind.bits]; omega)) rfl ?_
   refine WL.ev (Ev.conv32 rfl rfl) rfl ?_
   refine WL.ev (Ev.ixB (((p + i) + 1)) rfl rfl (by omega) (by omega)) rfl ?_
   refine WL.storeU rfl rfl hb15 (by first | omega | (simp; done) | (simp; omega)) fun ws9 hb15_ hcs9 => ?_
   have hch := hch.s1 hcs9
   have hb15 := hb15_
   refine WL.nil (kr18 _ _ _ (kh11 ?_))
   refine CW.region fun kR19 kr19 => ?_
   first | refine WL.ev (Ev.addIn rfl rfl (by omega)) rfl ?_ | refine WL.ev (Ev.add rfl rfl) rfl ?_
   refine zm rfl ?_
   refine WL.nil (kr19 _ _ _ ?_)
   refine ⟨rfl, (i + 1, ((L.set i (L.getD i 0 ||| (l.getD i 0 * 2 ^ s % 18446744073709551616 % 4294967296))).set (i + 1) (l.getD i 0 * 2 ^ s % 18446744073709551616 / 2 ^ 32 % 4294967296))), ?_, ?_, ?_⟩
   ·
    exact SLp
   ·
    refine ⟨hst.2, ?_, hch⟩
    rw [← hLL, Nat.add_assoc, rep_set2, rep_set2] at hb15
    exact hb15
   ·
    show l.length - (i + 1) < l.length - i; omega
  ·
   try simp only [qs] at hc1
   have hiX2 : i = l.length := by omega
   subst hiX2
   refine CW.exit ?_
   refine kh5 (Sr fun _ kh20 => zm rfl (za rfl (zz (kh20 ?_))))
   refine CW.ret ?_
   refine bodyA.ret1 rfl rfl ?_
   refine ⟨_, NU.of_block hb15 (W_append.2 ⟨W_replicate _, hWL⟩) (by simp; omega) (by simp; omega) (Nat.le_refl _), ?_, hch⟩
   rw [val_zeros2, hAd.done, Nat.mul_assoc, ← Nat.pow_add, show s + 32 * p = k by omega]

end Go.Proofs.YtphnpchmdpjabaaGreatDoor

/- Package dyad: size, Cmp. No condition. -/
namespace Go.Proofs.YtphnpchmdpjabaaGreatDoor
open Go Sx Wd Fl

theorem bl_W {l : List Nat} {k : Nat} (h : W l) (hk : l.length ≤ k) : bl (val l) ≤ 32 * k :=
  bl_le.2 (Nat.lt_of_lt_of_le (val_lt h) (Nat.pow_le_pow_right (by decide) (by omega)))
theorem wrap_sub {a b : Int} {d : Nat} (h : (d : Int) = a - b) (hd : d < 18446744073709551616) : IntKind.u64.wrap (IntKind.u64.wrap a - IntKind.u64.wrap b) = (d : Int) := by
  simp only [IntKind.wrap_u64]
  omega

set_option maxRecDepth 8000 in
set_option maxHeartbeats 4000000 in
theorem sizeGe_spec (na nb : Bool) (va vb : Value) (la lb : List Nat) (ea eb : Int) (w : World) (ha : NU w va la) (hb : NU w vb lb) (hla : la.length ≤ 1000000) (hlb : lb.length ≤ 1000000) (hea : -1000000000000 ≤ ea ∧ ea ≤ 1000000000000) (heb : -1000000000000 ≤ eb ∧ eb ≤ 1000000000000) (hz : val la ≠ 0) (hge : eb ≤ ea) (d : Nat) (hd : (d : Int) = ea - eb) : Ret Tryz.prog 105 [.agg [.bool na, va, .int .i64 ea].toArray, .agg [.bool nb, vb, .int .i64 eb].toArray] w fun u w' => u = .int .i64 (sgn (val la * 2 ^ d) (val lb)) ∧ Chg [] w w' := by
 have ha0 := ha
 have hb0 := hb
 have hoa := ha.one
 have hob := hb.one
 have hch : Chg [] w w := Chg.refl _ _
 have hba := bl_W ha.hw hla
 have hbb := bl_W hb.hw hlb
 have hlw := wd_length_val_le ha.hw
 refine Ret.enter Tryz.func105 rfl rfl ?_
 simp only [args0, Nat.zero_add, Nat.reduceAdd]
 refine Sr fun _ kh1 => ?_
 refine WL.boxB rfl rfl rfl fun b2 wm2 hb2 hcm2 hge2 => ?_
 have hgehch2 := Nat.le_trans hch.size hge2
 have hch := hch.trans (Chg.any hcm2)
 refine WL.boxB rfl rfl rfl fun b3 wm3 hb3 hcm3 hge3 => ?_
 have hgehch3 := Nat.le_trans hch.size hge3
 have hch := hch.trans (Chg.any hcm3)
 have hneb23 : b2 ≠ b3 := by have := hb2.lt; omega
 have hb2 := hb2.keep0 hcm3
 refine za rfl (zz (kh1 (zc fun _ kh3 => Sr fun _ kh4 => zf rfl (zl hb2 rfl rfl (zf rfl (zl hb3 rfl rfl ?_))))))
 refine WL.ev (Ev.lss rfl rfl) rfl ?_
 rw [decide_eq_false (show ¬ ea < eb by omega)]
 refine zz (kh4 ?_)
 refine CW.condF rfl ?_
 refine CW.skip ?_
 refine kh3 (Sr fun _ kh6 => zf rfl (zl hb2 rfl rfl ?_))
 refine WL.ev (Ev.conv rfl rfl) rfl ?_
 refine zf rfl (zl hb3 rfl rfl ?_)
 refine WL.ev (Ev.conv rfl rfl) rfl ?_
 refine WL.ev (Ev.sub rfl rfl) rfl ?_
 rw [wrap_sub hd (by omega)]
 refine za rfl (zz (kh6 (zc fun _ kh8 => ?_)))
 refine CW.regionHC 10 rfl hmix fun kR9 kr9 hS hdr => ?_
 have hch := hch.trans (Chg.any hdr)
 have hb2 := hb2.keep0 hdr
 have hb3 := hb3.keep0 hdr
 have hch_r := hch
 have hb2_r := hb2
 have hb3_r := hb3
 refine wh 0 rfl hS (fun _ _ => Ev.fieldAddr rfl) (wh 1 rfl hS (fun _ hw' => Ev.load rfl rfl ((hb2_r.keep0 hw').at_ rfl)) (wh 4 rfl hS (fun _ _ => Ev.fieldAddr rfl) (wh 5 rfl hS (fun _ hw' => Ev.load rfl rfl ((hb3_r.keep0 hw').at_ rfl)) ?_)))
 refine WH.oneCall 2 rfl (by kernel_rfl) hasF96 rfl rfl (Len_spec _ la _ (ha0.keep0 hch)) fun v w1 h' => ?_
 obtain ⟨rfl, rfl⟩ := h'
 refine ⟨hS, ?_⟩
 refine wh 3 rfl hS (fun _ _ => Ev.convIn rfl rfl (in_u64 (by omega))) ?_
 refine WH.oneCall 6 rfl (by kernel_rfl) hasF96 rfl rfl (Len_spec _ lb _ (hb0.keep0 hch)) fun v w2 h' => ?_
 obtain ⟨rfl, rfl⟩ := h'
 refine ⟨hS, ?_⟩
 refine wh 7 rfl hS (fun _ _ => Ev.convIn rfl rfl (in_u64 (by omega))) (wh 8 rfl hS (fun _ _ => Ev.assign rfl) (wh 9 rfl hS (fun _ _ => Ev.assign rfl) ?_))
 refine WH.done (by kernel_rfl) (kr9 _ _ _ ?_)
 refine kh8 (zc fun _ kh10 => ?_)
 refine CW.block ?_
 refine CW.seqM 32 (decide (bl (val lb) < bl (val la) + d)) ?_ ?_
 ·
  refine CW.region fun kR11 kr11 => ?_
  refine zm rfl (zm rfl ?_)
  refine WL.ev (Ev.gtr rfl rfl) rfl ?_
  refine zm rfl ?_
  refine WL.boolCase (fun hg1 => ?_) (fun hg1 => ?_)
  ·
   try simp only [qs] at hg1
   refine zv rfl (zv rfl (zv rfl (zv rfl (zv rfl (zt rfl rfl (za rfl ?_))))))
   refine WL.nil (kr11 _ _ _ ?_)
   refine ⟨rfl, rfl, Subs.consB rfl ?_ ?_⟩
   ·
    first | (simp; omega) | (simp_all; done) | (refine decide_eq_decide.2 ?_; omega)
   ·
    exact SMg
  ·
   try simp only [qs] at hg1
   refine zw rfl (zm rfl (zw rfl (zm rfl (zw rfl ?_))))
   first | refine WL.ev (Ev.add64In rfl rfl (by omega)) rfl ?_ | refine WL.ev (Ev.add64 rfl rfl) rfl ?_
   refine zw rfl (zm rfl (zw rfl ?_))
   refine WL.ev (Ev.gtr rfl rfl) rfl ?_
   refine ze rfl rfl (za rfl ?_)
   refine WL.nil (kr11 _ _ _ ?_)
   refine ⟨rfl, rfl, Subs.consB rfl ?_ ?_⟩
   ·
    first | (simp; omega) | (simp_all; done) | (refine decide_eq_decide.2 ?_; omega)
   ·
    exact SMg
 ·
  refine CW.cond rfl (fun hc2 => ?_) (fun hc2 => ?_)
  ·
   try simp only [qs] at hc2
   have hq : bl (val lb) < bl (val la) + d := hc2
   refine Sr fun _ kh12 => za rfl (zz (kh12 ?_))
   refine CW.ret ?_
   refine bodyA.ret1 rfl rfl ?_
   refine ⟨?_, hch⟩
   rw [bl_sgn.2 (by rw [bl_mul_pow hz]; exact hq)]
  ·
   try simp only [qs] at hc2
   have hq : ¬ bl (val lb) < bl (val la) + d := hc2
   refine Sr fun _ kh14 => zm rfl (zm rfl ?_)
   first | refine WL.ev (Ev.add64In rfl rfl (by omega)) rfl ?_ | refine WL.ev (Ev.add64 rfl rfl) rfl ?_
   refine zm rfl ?_
   refine WL.ev (Ev.lss rfl rfl) rfl ?_
   refine za rfl (zz (kh14 ?_))
   refine CW.cond rfl (fun hc3 => ?_) (fun hc3 => ?_)
   ·
    try simp only [qs] at hc3
    have hq2 : bl (val la) + d < bl (val lb) := by have := hc3; omega
    refine Sr fun _ kh16 => za rfl (zz (kh16 ?_))
    refine CW.ret ?_
    refine bodyA.ret1 rfl rfl ?_
    refine ⟨?_, hch⟩
    rw [bl_sgn.1 (by rw [bl_mul_pow hz]; exact hq2)]
   ·
    try simp only [qs] at hc3
    refine CW.skip ?_
    refine kh10 (zc fun _ kh18 => ?_)
    refine CW.regionHC 10 rfl hmix fun kR19 kr19 hS hdr => ?_
    have hch := hch.trans (Chg.any hdr)
    have hb2 := hb2.keep0 hdr
    have hb3 := hb3.keep0 hdr
    have hch_r := hch
    have hb2_r := hb2
    have hb3_r := hb3
    refine wh 0 rfl hS (fun _ _ => Ev.fieldAddr rfl) (wh 1 rfl hS (fun _ hw' => Ev.load rfl rfl ((hb2_r.keep0 hw').at_ rfl)) (wh 3 rfl hS (fun _ _ => Ev.move rfl) (wh 4 rfl hS (fun _ _ => Ev.convIn rfl rfl (in_i64 (by omega))) (wh 6 rfl hS (fun _ _ => Ev.fieldAddr rfl) (wh 7 rfl hS (fun _ hw' => Ev.load rfl rfl ((hb3_r.keep0 hw').at_ rfl)) ?_)))))
    refine WH.oneCall 2 rfl (by kernel_rfl) hasF92 rfl rfl (Norm_spec _ la _ (ha0.keep0 hch)) fun v w3 h' => ?_
    obtain ⟨hN, hC⟩ := h'
    have hch := hch.trans (Chg.any hC)
    have hb2 := hb2.keep0 hC
    have hb3 := hb3.keep0 hC
    have hS := hS.trans hC
    refine ⟨hS, ?_⟩
    refine WH.oneCall 5 rfl (by kernel_rfl) hasF134 rfl rfl (higher_spec _ (wd (val la)) d _ _ _ hN (by omega) (by omega) rfl rfl) fun v w4 h' => ?_
    obtain ⟨L, hL, hvL, hC⟩ := h'
    have hch := hch.trans (Chg.any hC)
    have hb2 := hb2.keep0 hC
    have hb3 := hb3.keep0 hC
    have hN := hN.keep0 hC
    have hS := hS.trans hC
    refine ⟨hS, ?_⟩
    refine WH.oneCall 8 rfl (by kernel_rfl) hasF50 rfl rfl (Cmp_spec _ _ L lb _ hL (hb0.keep0 hch)) fun v w5 h' => ?_
    obtain ⟨rfl, hC⟩ := h'
    have hch := hch.trans (Chg.any hC)
    have hb2 := hb2.keep0 hC
    have hb3 := hb3.keep0 hC
    have hL := hL.keep0 hC
    have hS := hS.trans hC
    refine ⟨hS, ?_⟩
    refine wh 9 rfl hS (fun _ _ => Ev.assign rfl) ?_
    refine WH.done (by kernel_rfl) (kr19 _ _ _ ?_)
    refine kh18 ?_
    refine CW.ret ?_
    refine bodyA.ret1 rfl rfl ?_
    refine ⟨?_, hch⟩
    rw [hvL, val_wd]

set_option maxRecDepth 8000 in
set_option maxHeartbeats 4000000 in
theorem sizeLt_spec (na nb : Bool) (va vb : Value) (la lb : List Nat) (ea eb : Int) (w : World) (ha : NU w va la) (hb : NU w vb lb) (hla : la.length ≤ 1000000) (hlb : lb.length ≤ 1000000) (hea : -1000000000000 ≤ ea ∧ ea ≤ 1000000000000) (heb : -1000000000000 ≤ eb ∧ eb ≤ 1000000000000) (hza : val la ≠ 0) (hzb : val lb ≠ 0) (hlt : ea < eb) : Ret Tryz.prog 105 [.agg [.bool na, va, .int .i64 ea].toArray, .agg [.bool nb, vb, .int .i64 eb].toArray] w fun u w' => u = .int .i64 (cmpV (val la) ea (val lb) eb) ∧ Chg [] w w' := by
 have ha0 := ha
 have hb0 := hb
 have hoa := ha.one
 have hob := hb.one
 have hch : Chg [] w w := Chg.refl _ _
 obtain ⟨d, hd⟩ : ∃ d : Nat, (d : Int) = eb - ea := ⟨(eb - ea).toNat, by omega⟩
 refine Ret.enter Tryz.func105 rfl rfl ?_
 simp only [args0, Nat.zero_add, Nat.reduceAdd]
 refine Sr fun _ kh1 => ?_
 refine WL.boxB rfl rfl rfl fun b2 wm2 hb2 hcm2 hge2 => ?_
 have hgehch2 := Nat.le_trans hch.size hge2
 have hch := hch.trans (Chg.any hcm2)
 refine WL.boxB rfl rfl rfl fun b3 wm3 hb3 hcm3 hge3 => ?_
 have hgehch3 := Nat.le_trans hch.size hge3
 have hch := hch.trans (Chg.any hcm3)
 have hneb23 : b2 ≠ b3 := by have := hb2.lt; omega
 have hb2 := hb2.keep0 hcm3
 refine za rfl (zz (kh1 (zc fun _ kh3 => Sr fun _ kh4 => zf rfl (zl hb2 rfl rfl (zf rfl (zl hb3 rfl rfl ?_))))))
 refine WL.ev (Ev.lss rfl rfl) rfl ?_
 rw [decide_eq_true hlt]
 refine zz (kh4 ?_)
 refine CW.condT rfl ?_
 refine Sr fun _ kh6 => zg hb3 rfl (zg hb2 rfl ?_)
 refine WL.call hasF105 rfl rfl (sizeGe_spec nb na _ _ lb la eb ea _ (hb0.keep0 hch) (ha0.keep0 hch) hlb hla heb hea hzb (by omega) d hd) fun v w1 h' => ?_
 obtain ⟨rfl, hC⟩ := h'
 have hsg := sgn_swap (val lb * 2 ^ d) (val la)
 have hs1 : -1 ≤ sgn (val lb * 2 ^ d) (val la) ∧ sgn (val lb * 2 ^ d) (val la) ≤ 1 := by unfold sgn; split <;> (try split) <;> omega
 have hch := hch.trans (Chg.any hC)
 have hb2 := hb2.keep0 hC
 have hb3 := hb3.keep0 hC
 refine WL.ev (Ev.negIn rfl (by omega)) rfl ?_
 refine za rfl (zz (kh6 ?_))
 refine CW.ret ?_
 refine bodyA.ret1 rfl rfl ?_
 refine ⟨?_, hch⟩
 rw [hsg]
 unfold cmpV
 rw [show (ea - min ea eb).toNat = 0 by omega, show (eb - min ea eb).toNat = d by omega, Nat.pow_zero, Nat.mul_one]

theorem dsize_spec (na nb : Bool) (va vb : Value) (la lb : List Nat) (ea eb : Int) (w : World) (ha : NU w va la) (hb : NU w vb lb) (hla : la.length ≤ 1000000) (hlb : lb.length ≤ 1000000) (hea : -1000000000000 ≤ ea ∧ ea ≤ 1000000000000) (heb : -1000000000000 ≤ eb ∧ eb ≤ 1000000000000) (hza : val la ≠ 0) (hzb : val lb ≠ 0) : Ret Tryz.prog 105 [.agg [.bool na, va, .int .i64 ea].toArray, .agg [.bool nb, vb, .int .i64 eb].toArray] w fun u w' => u = .int .i64 (cmpV (val la) ea (val lb) eb) ∧ Chg [] w w' := by
  by_cases h : ea < eb
  · exact sizeLt_spec na nb va vb la lb ea eb w ha hb hla hlb hea heb hza hzb h
  · obtain ⟨d, hd⟩ : ∃ d : Nat, (d : Int) = ea - eb := ⟨(ea - eb).toNat, by omega⟩
    refine (sizeGe_spec na nb va vb la lb ea eb w ha hb hla hlb hea heb hza (by omega) d hd).mono fun u w' ⟨h1, h2⟩ => ⟨?_, h2⟩
    rw [h1]
    unfold cmpV
    rw [show (ea - min ea eb).toNat = d by omega, show (eb - min ea eb).toNat = 0 by omega, Nat.pow_zero, Nat.mul_one]

theorem sgD_range (neg : Bool) (n : Nat) : -1 ≤ sgD neg n ∧ sgD neg n ≤ 1 := by unfold sgD; split <;> (try split) <;> omega
theorem cmpV_range (m : Nat) (e : Int) (n : Nat) (f : Int) : -1 ≤ cmpV m e n f ∧ cmpV m e n f ≤ 1 := by unfold cmpV sgn; split <;> (try split) <;> omega
theorem mul_small {a b : Int} (ha : -1 ≤ a ∧ a ≤ 1) (hb : -1 ≤ b ∧ b ≤ 1) : -9223372036854775808 ≤ a * b ∧ a * b ≤ 9223372036854775807 := by
  rcases (by omega : a = -1 ∨ a = 0 ∨ a = 1) with rfl | rfl | rfl <;> rcases (by omega : b = -1 ∨ b = 0 ∨ b = 1) with rfl | rfl | rfl <;> decide

set_option maxRecDepth 8000 in
set_option maxHeartbeats 4000000 in
theorem dCmp_spec (na nb : Bool) (va vb : Value) (la lb : List Nat) (ea eb : Int) (w : World) (ha : NU w va la) (hb : NU w vb lb) (hla : la.length ≤ 1000000) (hlb : lb.length ≤ 1000000) (hea : -1000000000000 ≤ ea ∧ ea ≤ 1000000000000) (heb : -1000000000000 ≤ eb ∧ eb ≤ 1000000000000) : Ret Tryz.prog 60 [.agg [.bool na, va, .int .i64 ea].toArray, .agg [.bool nb, vb, .int .i64 eb].toArray] w fun u w' => u = .int .i64 (cmpD na (val la) ea nb (val lb) eb) ∧ Chg [] w w' := by
 have ha0 := ha
 have hb0 := hb
 have hoa := ha.one
 have hob := hb.one
 have hch : Chg [] w w := Chg.refl _ _
 have hr1 := sgD_range na (val la)
 have hr2 := sgD_range nb (val lb)
 refine Ret.enter Tryz.func60 rfl rfl ?_
 simp only [args0, Nat.zero_add, Nat.reduceAdd]
 refine Sr fun _ kh1 => ?_
 refine WL.boxB rfl rfl rfl fun b2 wm2 hb2 hcm2 hge2 => ?_
 have hgehch2 := Nat.le_trans hch.size hge2
 have hch := hch.trans (Chg.any hcm2)
 refine WL.boxB rfl rfl rfl fun b3 wm3 hb3 hcm3 hge3 => ?_
 have hgehch3 := Nat.le_trans hch.size hge3
 have hch := hch.trans (Chg.any hcm3)
 have hneb23 : b2 ≠ b3 := by have := hb2.lt; omega
 have hb2 := hb2.keep0 hcm3
 refine za rfl (zz (kh1 (zc fun _ kh3 => ?_)))
 refine CW.regionHC 6 rfl hmix fun kR4 kr4 hS hdr => ?_
 have hch := hch.trans (Chg.any hdr)
 have hb2 := hb2.keep0 hdr
 have hb3 := hb3.keep0 hdr
 have hch_r := hch
 have hb2_r := hb2
 have hb3_r := hb3
 refine wh 0 rfl hS (fun _ hw' => Ev.loadA rfl rfl (hb2_r.keep0 hw') rfl) (wh 2 rfl hS (fun _ hw' => Ev.loadA rfl rfl (hb3_r.keep0 hw') rfl) ?_)
 refine WH.oneCall 1 rfl (by kernel_rfl) hasF58 rfl rfl (Sign_dspec na _ la ea _ (ha0.keep0 hch)) fun v w1 h' => ?_
 obtain ⟨rfl, hC⟩ := h'
 have hch := hch.trans (Chg.any hC)
 have hb2 := hb2.keep0 hC
 have hb3 := hb3.keep0 hC
 have hS := hS.trans hC
 refine ⟨hS, ?_⟩
 refine WH.oneCall 3 rfl (by kernel_rfl) hasF58 rfl rfl (Sign_dspec nb _ lb eb _ (hb0.keep0 hch)) fun v w2 h' => ?_
 obtain ⟨rfl, hC⟩ := h'
 have hch := hch.trans (Chg.any hC)
 have hb2 := hb2.keep0 hC
 have hb3 := hb3.keep0 hC
 have hS := hS.trans hC
 refine ⟨hS, ?_⟩
 refine wh 4 rfl hS (fun _ _ => Ev.assign rfl) (wh 5 rfl hS (fun _ _ => Ev.assign rfl) ?_)
 refine WH.done (by kernel_rfl) (kr4 _ _ _ ?_)
 refine kh3 (zc fun _ kh5 => ?_)
 refine CW.block ?_
 refine Sr fun _ kh6 => zm rfl (zm rfl ?_)
 refine WL.ev (Ev.lss rfl rfl) rfl ?_
 refine za rfl (zz (kh6 ?_))
 refine CW.cond rfl (fun hc1 => ?_) (fun hc1 => ?_)
 ·
  try simp only [qs] at hc1
  have hq : (sgD na (val la)) < (sgD nb (val lb)) := hc1
  refine Sr fun _ kh8 => za rfl (zz (kh8 ?_))
  refine CW.ret ?_
  refine bodyA.ret1 rfl rfl ?_
  refine ⟨?_, hch⟩
  unfold cmpD; rw [if_pos hq]
 ·
  try simp only [qs] at hc1
  have hq : ¬ (sgD na (val la)) < (sgD nb (val lb)) := by have := hc1; omega
  refine Sr fun _ kh10 => zm rfl (zm rfl ?_)
  refine WL.ev (Ev.gtr rfl rfl) rfl ?_
  refine za rfl (zz (kh10 ?_))
  refine CW.cond rfl (fun hc2 => ?_) (fun hc2 => ?_)
  ·
   try simp only [qs] at hc2
   have hq2 : (sgD nb (val lb)) < (sgD na (val la)) := hc2
   refine Sr fun _ kh12 => za rfl (zz (kh12 ?_))
   refine CW.ret ?_
   refine bodyA.ret1 rfl rfl ?_
   refine ⟨?_, hch⟩
   unfold cmpD; rw [if_neg hq, if_pos hq2]
  ·
   try simp only [qs] at hc2
   have hq2 : ¬ (sgD nb (val lb)) < (sgD na (val la)) := by have := hc2; omega
   refine Sr fun _ kh14 => zm rfl (zq rfl rfl (za rfl (zz (kh14 ?_))))
   refine CW.cond rfl (fun hc3 => ?_) (fun hc3 => ?_)
   ·
    try simp only [qs] at hc3
    have hq3 : (sgD na (val la)) = 0 := hc3
    refine Sr fun _ kh16 => za rfl (zz (kh16 ?_))
    refine CW.ret ?_
    refine bodyA.ret1 rfl rfl ?_
    refine ⟨?_, hch⟩
    unfold cmpD; rw [if_neg hq, if_neg hq2, if_pos hq3]
   ·
    try simp only [qs] at hc3
    have hq3 : ¬ (sgD na (val la)) = 0 := hc3
    have hza : val la ≠ 0 := fun q => hq3 (sgD_zero.2 q)
    have hzb : val lb ≠ 0 := fun q => by have := sgD_zero (neg := nb).2 q; omega
    refine CW.skip ?_
    refine kh5 (Sr fun _ kh18 => zm rfl (zg hb2 rfl (zg hb3 rfl ?_)))
    refine WL.call hasF105 rfl rfl (dsize_spec na nb _ _ la lb ea eb _ (ha0.keep0 hch) (hb0.keep0 hch) hla hlb hea heb hza hzb) fun v w3 h' => ?_
    obtain ⟨rfl, hC⟩ := h'
    have hcv := cmpV_range (val la) ea (val lb) eb
    have hch := hch.trans (Chg.any hC)
    have hb2 := hb2.keep0 hC
    have hb3 := hb3.keep0 hC
    refine WL.ev (Ev.mulIn rfl rfl (mul_small hr1 hcv)) rfl ?_
    refine za rfl (zz (kh18 ?_))
    refine CW.ret ?_
    refine bodyA.ret1 rfl rfl ?_
    refine ⟨?_, hch⟩
    unfold cmpD; rw [if_neg hq, if_neg hq2, if_neg hq3]

end Go.Proofs.YtphnpchmdpjabaaGreatDoor

/- The numbers that every statement on means asks first. No condition. -/
namespace Go.Proofs.YtphnpchmdpjabaaGreatDoor
open Go Sx Wd
set_option exponentiation.threshold 9000

def lv1 : List Nat := [4607182418800017408, 4611686018427387904, 4618441417868443648]
def lv2 : List Nat := [4607182418800017408, 4611686018427387904]
def lv3 : List Nat := [4607182418800017408, 4613937818241073152]
theorem lv1_fil : filP lv1 = lv1 := by decide +kernel
theorem lv2_fil : filP lv2 = lv2 := by decide +kernel
theorem lv1_sum : sumI lv1 = (9 * 2 ^ 2148 : Nat) := by decide +kernel
theorem lv2_sum : sumI lv2 = (3 * 2 ^ 2148 : Nat) := by decide +kernel
theorem lv3_sum : sumI lv3 = (4 * 2 ^ 2148 : Nat) := by decide +kernel
theorem lv23_prod : sumP lv2 lv3 = (7 * 2 ^ 2148 : Nat) := by decide +kernel
theorem p2148 : (0 : Int) < ((2 ^ 2148 : Nat) : Int) := by have := Nat.two_pow_pos 2148; omega
theorem meanQ_of {S n r : Nat} {mode : Int} {bits : Nat} (hn : n ≠ 0) (hr : r < 9218868437227405312) (h : 2 * nz r * (n * 2 ^ 1073) = S) (hM : MeanQ (S : Int) n mode bits) : bits = r := by
  obtain ⟨r', h1, _, hb⟩ := hM
  rw [if_neg (by omega)] at hb
  rw [hb]
  rw [Int.natAbs_natCast] at h1
  exact h1.unique (Nat.mul_pos (by omega) (Nat.two_pow_pos _)) (near_is hr (Nat.mul_pos (by omega) (Nat.two_pow_pos _)) h)
theorem live_mean {bits : Nat} {e : Int} (h : meanR lv1 0 0 0 bits e) : bits = 4613937818241073152 ∧ e = 0 := by
  obtain ⟨he, hh⟩ := mean_fin h (by decide) (by decide +kernel) (by decide +kernel) (by rw [lv1_fil]; decide)
  rw [lv1_fil, lv1_sum] at hh
  rcases hh with ⟨hz, _⟩ | ⟨_, hM⟩
  · have := p2148; exact absurd hz (by rw [Int.natCast_mul]; omega)
  · exact ⟨meanQ_of (by decide) (by decide) (by decide +kernel) hM, he⟩
theorem live_mid {bits : Nat} {e : Int} (h : midR 4607182418800017408 4611686018427387904 0 bits e) : bits = 4609434218613702656 ∧ e = 0 := by
  rcases h with ⟨hh, _⟩ | ⟨_, ⟨hh, _⟩ | ⟨_, h⟩⟩
  · exact absurd (by decide) hh
  · exact absurd (by decide +kernel) hh
  obtain ⟨he, hh⟩ := mean_fin (l := lv2) h (by decide) (by decide +kernel) (by decide +kernel) (by rw [lv2_fil]; decide)
  rw [lv2_fil, lv2_sum] at hh
  rcases hh with ⟨hz, _⟩ | ⟨_, hM⟩
  · have := p2148; exact absurd hz (by rw [Int.natCast_mul]; omega)
  · exact ⟨meanQ_of (by decide) (by decide) (by decide +kernel) hM, he⟩
theorem lv_in {a : Nat} (h : a ≤ 16) : ((a * 2 ^ 2148 : Nat) : Int) < (16384 * BB : Nat) := by
  rw [BB_pow]
  have : a * 2 ^ 2148 < 2 ^ 4238 := by
    have h1 : a * 2 ^ 2148 ≤ 2 ^ 4 * 2 ^ 2148 := Nat.mul_le_mul_right _ h
    rw [← Nat.pow_add] at h1
    exact Nat.lt_of_le_of_lt h1 (Nat.pow_lt_pow_right (by decide) (by decide))
  omega
theorem live_wt {bits : Nat} {e : Int} (h : wtR lv2 lv3 0 bits e) : bits = 4610560118520545280 ∧ e = 0 := by
  have hp := p2148
  rcases h with ⟨hh, _⟩ | ⟨_, ⟨hh, _⟩ | ⟨_, ⟨hh, _⟩ | ⟨_, ⟨hh, _⟩ | ⟨_, ⟨hh, _⟩ | ⟨_, h⟩⟩⟩⟩⟩
  · exact absurd (by decide) hh
  · exact absurd hh (by decide)
  · exact absurd rfl hh
  · exact absurd (by decide +kernel) hh
  · cases hh
  rw [lv3_sum, lv23_prod, if_neg (by rw [Int.natCast_mul]; omega), if_neg (by rw [Int.natCast_mul]; omega)] at h
  have i7 := lv_in (a := 7) (by decide)
  have i4 := lv_in (a := 4) (by decide)
  obtain ⟨he, r, hN, hr, hb⟩ := quo_sum (by have := BB_pos; omega) i7 (by rw [Int.natCast_mul]; omega) i4 (by decide) h
  refine ⟨?_, he⟩
  rw [if_neg (by rw [Int.natCast_mul]; omega)] at hb
  rw [hb]
  rw [Int.natAbs_natCast, Int.natAbs_natCast] at hN
  have hB : 0 < 4 * 2 ^ 2148 := Nat.mul_pos (by decide) (Nat.two_pow_pos _)
  exact hN.unique hB (near_is (by decide) hB (by decide +kernel))
end Go.Proofs.YtphnpchmdpjabaaGreatDoor

/- Package steelyardlaw13: live, exact. No condition. -/
namespace Go.Proofs.YtphnpchmdpjabaaGreatDoor
open Go Sx Wd
set_option exponentiation.threshold 5000

set_option maxRecDepth 8000 in
theorem live_spec (w : World) (hg : GW w) : Ret Tryz.prog 8 [] w fun u w' => u = .bool true ∧ Chg [] w w' := by
 have hch : Chg [] w w := Chg.refl _ _
 have hg0 := hg
 refine Ret.enter Tryz.func8 rfl rfl ?_
 simp only [args0, Nat.zero_add, Nat.reduceAdd]
 refine Sr fun _ kh1 => za rfl (zz (kh1 (Sr fun _ kh3 => ?_)))
 refine WL.buildSlice (m := 3) (cs := [f64v (4607182418800017408), f64v (4611686018427387904), f64v (4618441417868443648)]) (by decide) (by decide) rfl (by kernel_rfl) rfl fun b8 w8 hn8 => ?_
 have hcm8 := hn8.chg
 have hge8 := hn8.ge
 have hb8 : FB w8 b8 _ [4607182418800017408, 4611686018427387904, 4618441417868443648] := hn8.at_
 have hgehch8 := Nat.le_trans hch.size hge8
 have hch := hch.trans (Chg.any hcm8)
 refine WL.ev (Ev.build (vs := _) (cs := [_, _]) rfl rfl) rfl ?_
 refine WL.call hasF15 rfl rfl (Mean_spec _ lv1 0 0 0 _ (NF.of_row hb8.row (by decide) (by decide) rfl (by decide)) (hg0.keep0 hch)) fun v w1 h' => ?_
 obtain ⟨⟨bits, e, rfl, hM⟩, hC10⟩ := h'
 obtain ⟨rfl, rfl⟩ := live_mean hM
 have hch := hch.trans (Chg.any hC10)
 have hb8 := hb8.keep0 hC10
 refine zm rfl (zx rfl rfl (zx rfl rfl (za rfl (za rfl (zz (kh3 (Sr fun _ kh5 => ?_)))))))
 refine WL.buildSlice (m := 2) (cs := [f64v (4607182418800017408), f64v (4611686018427387904)]) (by decide) (by decide) rfl (by kernel_rfl) rfl fun b14 w14 hn14 => ?_
 have hcm14 := hn14.chg
 have hge14 := hn14.ge
 have hb14 : FB w14 b14 _ [4607182418800017408, 4611686018427387904] := hn14.at_
 have hgehch14 := Nat.le_trans hch.size hge14
 have hch := hch.trans (Chg.any hcm14)
 have hneb814 : b8 ≠ b14 := by have := hb8.lt; omega
 have hb8 := hb8.keep0 hcm14
 refine WL.buildSlice (m := 2) (cs := [f64v (4607182418800017408), f64v (4613937818241073152)]) (by decide) (by decide) rfl (by kernel_rfl) rfl fun b15 w15 hn15 => ?_
 have hcm15 := hn15.chg
 have hge15 := hn15.ge
 have hb15 : FB w15 b15 _ [4607182418800017408, 4613937818241073152] := hn15.at_
 have hgehch15 := Nat.le_trans hch.size hge15
 have hch := hch.trans (Chg.any hcm15)
 have hneb815 : b8 ≠ b15 := by have := hb8.lt; omega
 have hb8 := hb8.keep0 hcm15
 have hneb1415 : b14 ≠ b15 := by have := hb14.lt; omega
 have hb14 := hb14.keep0 hcm15
 refine WL.call hasF25 rfl rfl (Weighted_spec _ _ lv2 lv3 0 _ (NF.of_row hb14.row (by decide) (by decide) rfl (by decide)) (NF.of_row hb15.row (by decide) (by decide) rfl (by decide)) (hg0.keep0 hch)) fun v w2 h' => ?_
 obtain ⟨⟨bits, e, rfl, hM⟩, hC16⟩ := h'
 obtain ⟨rfl, rfl⟩ := live_wt hM
 have hch := hch.trans (Chg.any hC16)
 have hb8 := hb8.keep0 hC16
 have hb14 := hb14.keep0 hC16
 have hb15 := hb15.keep0 hC16
 refine zm rfl (zx rfl rfl (zx rfl rfl (za rfl (za rfl (zz (kh5 (Sr fun _ kh7 => ?_)))))))
 refine WL.call hasF29 rfl rfl (Middle_spec _ _ 0 _ (by decide) (by decide) (hg0.keep0 hch)) fun v w3 h' => ?_
 obtain ⟨⟨bits, e, rfl, hM⟩, hC20⟩ := h'
 obtain ⟨rfl, rfl⟩ := live_mid hM
 have hch := hch.trans (Chg.any hC20)
 have hb8 := hb8.keep0 hC20
 have hb14 := hb14.keep0 hC20
 have hb15 := hb15.keep0 hC20
 refine zm rfl (zx rfl rfl (zx rfl rfl (za rfl (za rfl (zz (kh7 (Sr fun _ kh9 => zm rfl (zq rfl rfl (zm rfl (zw rfl (zm rfl (zw rfl ?_))))))))))))
 refine WL.ev (Ev.feql rfl rfl) rfl ?_
 rw [show (FloatKind.f64.format.order 4613937818241073152 4613937818241073152 == some .eq) = true by rw [Fl.order_self_eq]; decide]
 refine zt rfl rfl (zm rfl (zw rfl (zm rfl (zw rfl (zq rfl rfl (zt rfl rfl (zm rfl (zw rfl (zm rfl (zw rfl ?_))))))))))
 refine WL.ev (Ev.feql rfl rfl) rfl ?_
 rw [show (FloatKind.f64.format.order 4610560118520545280 4610560118520545280 == some .eq) = true by rw [Fl.order_self_eq]; decide]
 refine zt rfl rfl (zm rfl (zw rfl (zm rfl (zw rfl (zq rfl rfl (zt rfl rfl (zm rfl (zw rfl (zm rfl (zw rfl ?_))))))))))
 refine WL.ev (Ev.feql rfl rfl) rfl ?_
 rw [show (FloatKind.f64.format.order 4609434218613702656 4609434218613702656 == some .eq) = true by rw [Fl.order_self_eq]; decide]
 refine zt rfl rfl (za rfl (zz (kh9 ?_)))
 refine CW.ret ?_
 refine bodyA.ret1 rfl rfl ?_
 exact ⟨rfl, hch⟩

end Go.Proofs.YtphnpchmdpjabaaGreatDoor

/- Package steelyardlaw13: finite. No condition. -/
namespace Go.Proofs.YtphnpchmdpjabaaGreatDoor
open Go Sx Wd
set_option exponentiation.threshold 5000

structure KLf (l : List Nat) (w0 : World) (i : Nat) (w : World) : Prop where
  hi : i ≤ l.length
  f : finL (l.take i)
  ch : Chg [] w0 w

set_option maxRecDepth 8000 in
theorem lfinite_spec (v : Value) (l : List Nat) (w : World) (hv : NF w v l) : Ret Tryz.prog 14 [v] w fun u w' => u = .bool (decide (finL l)) ∧ Chg [] w w' := by
 obtain ⟨⟨al, cl, rfl, hcap, hrl⟩, hWl, hll⟩ := hv
 have hch : Chg [] w w := Chg.refl _ _
 refine Ret.enter Tryz.func14 rfl rfl ?_
 simp only [args0, Nat.zero_add, Nat.reduceAdd]
 refine Sr fun _ kh1 => za rfl (zz (kh1 (zc fun _ kh3 => Sr fun _ kh4 => za rfl (zz (kh4 ?_)))))
 refine CW.block ?_
 refine CW.loop (S := fun i : Nat => [(0, .slice al l.length cl), (3, .int .i64 (i : Int))]) (Inv := KLf l w) (mu := fun i => l.length - i) (0) ?_ ?_ ?_
 ·
  exact ⟨Nat.zero_le _, fun x hx => (by simp at hx), hch⟩
 ·
  exact SLp
 ·
  rintro i wr ⟨hi, hf, hch⟩
  refine zc fun _ kh6 => Sr fun _ kh7 => zm rfl (zm rfl (zn rfl ?_))
  refine WL.ev (Ev.lss rfl rfl) rfl ?_
  refine zz (kh7 ?_)
  refine CW.cond rfl (fun hc1 => ?_) (fun hc1 => ?_)
  ·
   try simp only [qs] at hc1
   have hst := finL_step (l := l) (i := i) (by omega)
   refine CW.skip ?_
   refine kh6 (zc fun _ kh9 => ?_)
   refine CW.block ?_
   refine zc fun _ kh10 => ?_
   refine CW.regionTC 8 hmix (by kernel_rfl) fun kR11 kr11 hdr => ?_
   have hch := hch.trans (Chg.any hdr)
   refine ym rfl (ym rfl ?_)
   refine WS.ev (Ev.ixR (i) rfl rfl (hrl.keep0 hch) (by omega) (by omega) (by simp; omega)) rfl ?_
   refine WS.ev (Ev.load rfl rfl ((hrl.keep0 hch).f64 (by first | omega | (simp; omega)))) rfl ?_
   refine ym rfl (ym rfl ?_)
   refine WS.ev (Ev.ixR (i) rfl rfl (hrl.keep0 hch) (by omega) (by omega) (by simp; omega)) rfl ?_
   refine WS.ev (Ev.load rfl rfl ((hrl.keep0 hch).f64 (by first | omega | (simp; omega)))) rfl ?_
   refine WS.nil ?_
   refine WL.fsubSelf rfl rfl rfl fun r18 w18 hc18 hr18 ho18 => ?_
   have hch := hch.trans hc18
   refine WL.ev (Ev.fneq rfl rfl) rfl ?_
   rw [show (FloatKind.f64.format.order r18 0 != some .eq) = !decide ((splitP (l.getD i 0)).cls ≤ 2) by rw [← ho18]; rfl]
   refine WL.nil (kr11 _ _ _ (kh10 ?_))
   refine CW.cond rfl (fun hc2 => ?_) (fun hc2 => ?_)
   ·
    try simp only [qs] at hc2
    have hfx : ¬ (splitP (l.getD i 0)).cls ≤ 2 := by simpa using hc2
    refine Sr fun _ kh12 => za rfl (zz (kh12 ?_))
    refine CW.ret ?_
    refine bodyA.ret1 rfl rfl ?_
    refine ⟨?_, hch⟩
    rw [decide_eq_false fun h => hfx (hst.1 (finL_take h)).2]
   ·
    try simp only [qs] at hc2
    have hfx : (splitP (l.getD i 0)).cls ≤ 2 := by simpa using hc2
    refine CW.skip ?_
    refine kh9 ?_
    refine CW.region fun kR14 kr14 => ?_
    refine zm rfl ?_
    first | refine WL.ev (Ev.addIn rfl rfl (by omega)) rfl ?_ | refine WL.ev (Ev.add rfl rfl) rfl ?_
    refine za rfl ?_
    refine WL.nil (kr14 _ _ _ ?_)
    refine ⟨rfl, i + 1, ?_, ?_, ?_⟩
    ·
     exact SLp
    ·
     exact ⟨by omega, hst.2 ⟨hf, hfx⟩, hch⟩
    ·
     omega
  ·
   try simp only [qs] at hc1
   have hiX : i = l.length := by omega
   subst hiX
   rw [List.take_length] at hf
   refine CW.exit ?_
   refine kh3 (Sr fun _ kh15 => za rfl (zz (kh15 ?_)))
   refine CW.ret ?_
   refine bodyA.ret1 rfl rfl ?_
   refine ⟨?_, hch⟩
   rw [decide_eq_true hf]

end Go.Proofs.YtphnpchmdpjabaaGreatDoor

/- Means where signs are turned. No condition. -/
namespace Go.Proofs.YtphnpchmdpjabaaGreatDoor
open Go Sx Wd
set_option exponentiation.threshold 9000

/-- A number's bits with the other sign. -/
def ngB (x : Nat) : Nat := if x < 9223372036854775808 then x + 9223372036854775808 else x - 9223372036854775808
theorem negFloat_eq {x : Nat} (h : x < 18446744073709551616) : Op.negFloat .f64 x = ngB x := by
  unfold ngB
  by_cases q : x < 9223372036854775808
  · rw [if_pos q]; exact negF q
  · rw [if_neg q]
    have e := negF (x := x - 9223372036854775808) (by omega)
    rw [show x - 9223372036854775808 + 9223372036854775808 = x by omega] at e
    have e' : (x - 9223372036854775808) ^^^ 2 ^ 63 = x := e
    show x ^^^ 2 ^ 63 = _
    calc x ^^^ 2 ^ 63 = ((x - 9223372036854775808) ^^^ 2 ^ 63) ^^^ 2 ^ 63 := by rw [e']
      _ = x - 9223372036854775808 := by rw [Nat.xor_assoc, Nat.xor_self, Nat.xor_zero]
theorem ngB_lt {x : Nat} (h : x < 18446744073709551616) : ngB x < 18446744073709551616 := by unfold ngB; split <;> omega
theorem split_ng {x : Nat} (h : x < 18446744073709551616) : (splitP (ngB x)).cls = (splitP x).cls ∧ (splitP (ngB x)).frac = (splitP x).frac ∧ (splitP (ngB x)).exp = (splitP x).exp ∧ ((splitP x).cls ≠ 4 → (splitP (ngB x)).neg = !(splitP x).neg) := by
  have e1 : ngB x / 4503599627370496 % 2048 = x / 4503599627370496 % 2048 := by unfold ngB; split <;> omega
  have e2 : ngB x % 4503599627370496 = x % 4503599627370496 := by unfold ngB; split <;> omega
  have e3 : decide (ngB x / 9223372036854775808 % 2 = 1) = !decide (x / 9223372036854775808 % 2 = 1) := by
    rw [← decide_not]; refine decide_eq_decide.2 ?_
    unfold ngB; split <;> omega
  unfold splitP
  rw [e1, e2, e3]
  split
  · exact ⟨rfl, rfl, rfl, fun q => absurd rfl q⟩
  · split
    · exact ⟨rfl, rfl, rfl, fun _ => rfl⟩
    · split
      · exact ⟨rfl, rfl, rfl, fun _ => rfl⟩
      · split <;> exact ⟨rfl, rfl, rfl, fun _ => rfl⟩
end Go.Proofs.YtphnpchmdpjabaaGreatDoor

/- Numbers in order: the sorted list of a list's numbers is the only one. No condition. -/
namespace Go.Proofs.YtphnpchmdpjabaaGreatDoor
open Go Fl

/-- In order. -/
def Srt (l : List Nat) : Prop := l.Pairwise fun a b => key a ≤ key b
/-- Numbers that are no NaN. -/
def Nums (l : List Nat) : Prop := ∀ x ∈ l, x < 18446744073709551616 ∧ isNaN x = false
end Go.Proofs.YtphnpchmdpjabaaGreatDoor

/- Reference of layer 7: things, counts, sums. No condition. -/
namespace Go.Proofs.YtphnpchmdpjabaaGreatDoor
open Go Sx Wd

end Go.Proofs.YtphnpchmdpjabaaGreatDoor

/- Reference of layer 7: Whole. No condition. -/
namespace Go.Proofs.YtphnpchmdpjabaaGreatDoor
open Go Sx Wd

end Go.Proofs.YtphnpchmdpjabaaGreatDoor

/- Reference of layer 11: may. No condition. -/
namespace Go.Proofs.YtphnpchmdpjabaaGreatDoor
open Go Sx Wd

end Go.Proofs.YtphnpchmdpjabaaGreatDoor

/- Reference of layer 11: Against, half, Nearby. No condition. -/
namespace Go.Proofs.YtphnpchmdpjabaaGreatDoor
open Go Sx Wd

end Go.Proofs.YtphnpchmdpjabaaGreatDoor

/- Reference of layer 11: half, Nearby. No condition. -/
namespace Go.Proofs.YtphnpchmdpjabaaGreatDoor
open Go Sx Wd

end Go.Proofs.YtphnpchmdpjabaaGreatDoor

/- Reference of layer 11: Nearby. No condition. -/
namespace Go.Proofs.YtphnpchmdpjabaaGreatDoor
open Go Sx Wd

end Go.Proofs.YtphnpchmdpjabaaGreatDoor

/- Reference of layer 11: rounded, Quot. No condition. -/
namespace Go.Proofs.YtphnpchmdpjabaaGreatDoor
open Go Sx Wd

end Go.Proofs.YtphnpchmdpjabaaGreatDoor

/- Reference of layer 1: parts, classes. No condition. -/
namespace Go.Proofs.YtphnpchmdpjabaaGreatDoor
open Go Sx Wd

end Go.Proofs.YtphnpchmdpjabaaGreatDoor

/- Reference of layer 13: Told, finite. No condition. -/
namespace Go.Proofs.YtphnpchmdpjabaaGreatDoor
open Go Sx Wd

end Go.Proofs.YtphnpchmdpjabaaGreatDoor

/- Reference of layer 13: Mean. No condition. -/
namespace Go.Proofs.YtphnpchmdpjabaaGreatDoor
open Go Sx Wd

end Go.Proofs.YtphnpchmdpjabaaGreatDoor

/- Reference of layer 13: Middle, Of. No condition. -/
namespace Go.Proofs.YtphnpchmdpjabaaGreatDoor
open Go Sx Wd

end Go.Proofs.YtphnpchmdpjabaaGreatDoor

/- What the laws compare is determined: each answer is the only one. No condition. -/
namespace Go.Proofs.YtphnpchmdpjabaaGreatDoor
open Go Sx Wd

end Go.Proofs.YtphnpchmdpjabaaGreatDoor

/- Means of a list's numbers: put in another order, weighed alike, trimmed. No condition. -/
namespace Go.Proofs.YtphnpchmdpjabaaGreatDoor
open Go Sx Wd Fl
set_option exponentiation.threshold 9000

theorem fin_num {x : Nat} (h : (splitP x).cls ≤ 2) : isNaN x = false := by
  have := fin_mod h
  unfold isNaN
  exact decide_eq_false (by omega)
theorem low_of : ∀ {l : List Nat}, l ≠ [] → ∃ v ∈ l, ∀ x ∈ l, fvI v ≤ fvI x
  | [], h => absurd rfl h
  | [x], _ => ⟨x, by simp, fun y hy => by simp at hy; rw [hy]; exact Int.le_refl _⟩
  | x :: y :: l, _ => by
    obtain ⟨v, hv, h⟩ := low_of (l := y :: l) (by simp)
    by_cases q : fvI v ≤ fvI x
    · exact ⟨v, List.mem_cons_of_mem _ hv, fun z hz => by rcases List.mem_cons.1 hz with e | e; rw [e]; exact q; exact h z e⟩
    · exact ⟨x, List.mem_cons_self .., fun z hz => by rcases List.mem_cons.1 hz with e | e; rw [e]; exact Int.le_refl _; have := h z e; omega⟩
theorem high_of : ∀ {l : List Nat}, l ≠ [] → ∃ v ∈ l, ∀ x ∈ l, fvI x ≤ fvI v
  | [], h => absurd rfl h
  | [x], _ => ⟨x, by simp, fun y hy => by simp at hy; rw [hy]; exact Int.le_refl _⟩
  | x :: y :: l, _ => by
    obtain ⟨v, hv, h⟩ := high_of (l := y :: l) (by simp)
    by_cases q : fvI x ≤ fvI v
    · exact ⟨v, List.mem_cons_of_mem _ hv, fun z hz => by rcases List.mem_cons.1 hz with e | e; rw [e]; exact q; exact h z e⟩
    · exact ⟨x, List.mem_cons_self .., fun z hz => by rcases List.mem_cons.1 hz with e | e; rw [e]; exact Int.le_refl _; have := h z e; omega⟩
/-- The mean of finite numbers is one. -/
theorem mean_num {l : List Nat} {mode : Int} {bits : Nat} {e : Int} (h : meanR l mode 0 0 bits e) (hf : finL l) (hw : ∀ x ∈ l, x < 18446744073709551616) (hl : l.length ≤ 65536) (hne : l ≠ []) (hm : 0 ≤ mode ∧ mode ≤ 4) :
    e = 0 ∧ bits < 18446744073709551616 ∧ (splitP bits).cls ≤ 2 := by
  obtain ⟨lo, a1, a2⟩ := low_of hne
  obtain ⟨hi, b1, b2⟩ := high_of hne
  obtain ⟨h1, h2, h3, _⟩ := mean_between h hf hl hne hm (hf lo a1) (hf hi b1) (hw lo a1) (hw hi b1) a2 b2
  exact ⟨h1, h2, h3⟩
end Go.Proofs.YtphnpchmdpjabaaGreatDoor

/- Package bits: neighbours. No condition. -/
namespace Go.Proofs.YtphnpchmdpjabaaGreatDoor
open Go Sx Wd Fl

set_option maxRecDepth 8000 in
set_option maxHeartbeats 4000000 in
theorem IsInf1_spec (x : Nat) (w : World) : Ret Tryz.prog 54 [.float .f64 x, .int .i64 1] w fun u w' => u = .bool (FloatKind.f64.format.order x 9218868437227405311 == some .gt) ∧ w = w' := by
 refine Ret.enter Tryz.func54 rfl rfl ?_
 simp only [args0, Nat.zero_add, Nat.reduceAdd]
 refine Sr fun _ kh1 => za rfl (zz (kh1 (zc fun _ kh3 => Sr fun _ kh4 => zm rfl (zq rfl rfl ?_))))
 rw [show decide ((1 : Int) = 0) = false from rfl]
 refine zz (kh4 ?_)
 refine CW.condF rfl ?_
 refine Sr fun _ kh6 => zm rfl ?_
 refine WL.ev (Ev.lss rfl rfl) rfl ?_
 rw [show decide ((1 : Int) < 0) = false from rfl]
 refine zz (kh6 ?_)
 refine CW.condF rfl ?_
 refine CW.skip ?_
 refine kh3 (Sr fun _ kh8 => zm rfl ?_)
 refine WL.ev (Ev.fgtr rfl rfl) rfl ?_
 refine za rfl (zz (kh8 ?_))
 refine CW.ret ?_
 refine bodyA.ret1 rfl rfl ?_
 exact ⟨rfl, rfl⟩

set_option maxRecDepth 8000 in
set_option maxHeartbeats 4000000 in
theorem Next_spec (x : Nat) (w : World) (hx : x < 18446744073709551616) (hfx : (splitP x).cls ≤ 2) : Ret Tryz.prog 19 [.float .f64 x] w fun u w' => (∃ y, u = .float .f64 y ∧ y < 18446744073709551616) ∧ w = w' := by
 have hnx := fin_num hfx
 have hmx := fin_mod hfx
 refine Ret.enter Tryz.func19 rfl rfl ?_
 simp only [args0, Nat.zero_add, Nat.reduceAdd]
 refine Sr fun _ kh1 => za rfl (zz (kh1 (Sr fun _ kh3 => zm rfl ?_)))
 refine WL.ev (Ev.ext rfl (ext40 _ _)) rfl ?_
 refine za rfl (zz (kh3 (zc fun _ kh5 => ?_)))
 refine CW.block ?_
 refine Sr fun _ kh6 => zm rfl (zm rfl ?_)
 refine WL.ev (Ev.fneq rfl rfl) rfl ?_
 rw [order_self, hnx]
 refine za rfl (zz (kh6 ?_))
 refine CW.condF rfl ?_
 refine Sr fun _ kh8 => zm rfl ?_
 refine WL.ev (Ev.feql rfl rfl) rfl ?_
 rw [order_zero]
 refine za rfl (zz (kh8 ?_))
 refine CW.cond rfl (fun hc1 => ?_) (fun hc1 => ?_)
 ·
  try simp only [qs] at hc1
  refine Sr fun _ kh10 => ?_
  refine WL.ev (Ev.ext rfl (ext53 _ _)) rfl ?_
  refine za rfl (zz (kh10 ?_))
  refine CW.ret ?_
  refine bodyA.ret1 rfl rfl ?_
  exact ⟨⟨1, rfl, by decide⟩, rfl⟩
 ·
  try simp only [qs] at hc1
  have hx0 : ¬ x % 9223372036854775808 = 0 := hc1
  refine Sr fun _ kh12 => zm rfl ?_
  refine WL.ev (Ev.flss rfl rfl) rfl ?_
  refine za rfl (zz (kh12 ?_))
  refine CW.cond rfl (fun hc2 => ?_) (fun hc2 => ?_)
  ·
   try simp only [qs] at hc2
   refine Sr fun _ kh14 => zm rfl ?_
   first | refine WL.ev (Ev.sub64In (b := 1) rfl rfl (by omega) (by omega)) rfl ?_ | refine WL.ev (Ev.sub64 (b := 1) rfl rfl (by omega)) rfl ?_
   refine WL.ev (Ev.ext rfl (ext53 _ _)) rfl ?_
   refine za rfl (zz (kh14 ?_))
   refine CW.ret ?_
   refine bodyA.ret1 rfl rfl ?_
   exact ⟨⟨_, rfl, by rw [Int.toNat_natCast]; omega⟩, rfl⟩
  ·
   try simp only [qs] at hc2
   refine Sr fun _ kh16 => zm rfl ?_
   refine WL.call hasF54 rfl rfl (IsInf1_spec x _) fun v w1 h' => ?_
   obtain ⟨rfl, rfl⟩ := h'
   refine za rfl (zz (kh16 ?_))
   refine CW.cond rfl (fun hc3 => ?_) (fun hc3 => ?_)
   ·
    try simp only [qs] at hc3
    refine Sr fun _ kh18 => zm rfl (za rfl (zz (kh18 ?_)))
    refine CW.ret ?_
    refine bodyA.ret1 rfl rfl ?_
    exact ⟨⟨x, rfl, hx⟩, rfl⟩
   ·
    try simp only [qs] at hc3
    refine CW.skip ?_
    refine kh5 (Sr fun _ kh20 => zm rfl ?_)
    first | refine WL.ev (Ev.add64In (b := 1) rfl rfl (by omega)) rfl ?_ | refine WL.ev (Ev.add64 (b := 1) rfl rfl) rfl ?_
    refine WL.ev (Ev.ext rfl (ext53 _ _)) rfl ?_
    refine za rfl (zz (kh20 ?_))
    refine CW.ret ?_
    refine bodyA.ret1 rfl rfl ?_
    exact ⟨⟨_, rfl, by rw [Int.toNat_natCast]; omega⟩, rfl⟩

set_option maxRecDepth 8000 in
set_option maxHeartbeats 4000000 in
theorem Prev_spec (x : Nat) (w : World) (hx : x < 18446744073709551616) (hfx : (splitP x).cls ≤ 2) : Ret Tryz.prog 18 [.float .f64 x] w fun u w' => (∃ y, u = .float .f64 y ∧ y < 18446744073709551616) ∧ w = w' := by
 have hnx := fin_num hfx
 refine Ret.enter Tryz.func18 rfl rfl ?_
 simp only [args0, Nat.zero_add, Nat.reduceAdd]
 refine Sr fun _ kh1 => za rfl (zz (kh1 (zc fun _ kh3 => Sr fun _ kh4 => zm rfl (zm rfl ?_))))
 refine WL.ev (Ev.fneq rfl rfl) rfl ?_
 rw [order_self, hnx]
 refine zz (kh4 ?_)
 refine CW.condF rfl ?_
 refine CW.skip ?_
 refine kh3 (Sr fun _ kh6 => zm rfl ?_)
 refine WL.ev (Ev.fneg rfl) rfl ?_
 rw [negFloat_eq hx]
 refine WL.call hasF19 rfl rfl (Next_spec (ngB x) _ (ngB_lt hx) (by rw [(split_ng hx).1]; exact hfx)) fun v w1 h' => ?_
 obtain ⟨⟨y, rfl, hy⟩, rfl⟩ := h'
 refine WL.ev (Ev.fneg rfl) rfl ?_
 rw [negFloat_eq hy]
 refine za rfl (zz (kh6 ?_))
 refine CW.ret ?_
 refine bodyA.ret1 rfl rfl ?_
 exact ⟨⟨ngB y, rfl, ngB_lt hy⟩, rfl⟩

end Go.Proofs.YtphnpchmdpjabaaGreatDoor

/- Package steelyardlaw13: nearer. No condition. -/
namespace Go.Proofs.YtphnpchmdpjabaaGreatDoor
open Go Sx Wd Fl
set_option exponentiation.threshold 9000

theorem fv_times (x n : Nat) : (fvI x * (n : Int)).natAbs ≤ n * 2 ^ 3172 := by
  have h := sumI_le (List.replicate n x)
  rw [sum_like, Int.mul_comm, List.length_replicate] at h
  exact h
theorem diff_in (x : Nat) {n : Nat} {S : Int} (hn : n ≤ 1000000) (hS : S.natAbs ≤ 1000000 * 2 ^ 3172) : InB (fvI x * (n : Int) + -S) := by
  have h1 := fv_times x n
  have h2 : n * 2 ^ 3172 ≤ 1000000 * 2 ^ 3172 := Nat.mul_le_mul_right _ hn
  have h3 : 1000000 * 2 ^ 3172 + 1000000 * 2 ^ 3172 < 2 ^ 4230 := by
    have : 2 ^ 21 * 2 ^ 3172 < 2 ^ 4230 := by rw [← Nat.pow_add]; exact Nat.pow_lt_pow_right (by decide) (by decide)
    generalize 2 ^ 3172 = q at *
    generalize 2 ^ 4230 = z at *
    omega
  refine InB.bound ?_
  generalize 2 ^ 3172 = q at *
  generalize 2 ^ 4230 = z at *
  omega

set_option maxRecDepth 8000 in
set_option maxHeartbeats 4000000 in
theorem nearer_spec (x y : Nat) (S : Int) (r : Value) (n : Nat) (w : World) (hx : x < 18446744073709551616) (hy : y < 18446744073709551616) (hfx : (splitP x).cls ≤ 2) (hr : NU w r (wd (sumD S).m)) (hIS : InB S) (hSs : S.natAbs ≤ 1000000 * 2 ^ 3172) (hn : n ≠ 0) (hn2 : n ≤ 1000000)
    (hbest : (splitP y).cls ≤ 2 → (fvI x * (n : Int) - S).natAbs ≤ (fvI y * (n : Int) - S).natAbs) (hg : GW w) : Ret Tryz.prog 20 [.float .f64 x, .float .f64 y, .agg [.bool (sumD S).neg, r, .int .i64 (sumD S).e].toArray, .int .i64 (n : Int)] w fun u w' => u = .bool true ∧ Chg [] w w' := by
  have hch : Chg [] w w := Chg.refl _ _
  have hg0 := hg
  have hor := hr.one
  have hokX := rsumD_ok (fvI_in x)
  have hokS := rsumD_ok hIS
  have hokn := intD_ok (n := (n : Int)) (by omega)
  have hPx := fv_small x (n := n) (by omega)
  have hDx := diff_in x hn2 hSs
  have hokPx := rsumD_ok hPx
  have hokDx := rsumD_ok hDx
  refine Ret.enter Tryz.func20 rfl rfl ?_
  simp only [args0, Nat.zero_add, Nat.reduceAdd]
  refine Sq fun _ kh1 _ kr2 => ?_
  refine WL.boxB rfl rfl rfl fun b6 wm6 hb6 hcm6 hge6 => ?_
  have hgehch6 := Nat.le_trans hch.size hge6
  have hch := hch.trans (Chg.any hcm6)
  have hr := hr.keep0 hcm6
  refine As rfl rfl ?_
  refine WL.nil (kr2 _ _ _ (kh1 _ _ _ ?_))
  refine Sq fun _ kh3 _ kr4 => ?_
  refine Mv rfl rfl ?_
  refine WL.call hasF16 rfl rfl (dOf_spec (x) _ hx (hg0.keep0 hch)) fun v w1 h' => ?_
  obtain ⟨hD, hC⟩ := h'
  obtain ⟨-, rx, rfl, hNx⟩ := hD.resolve_right (fun q => q.1 hfx)
  have hch := hch.trans (Chg.any hC)
  have hb6 := hb6.keep0 hC
  have hr := hr.keep0 hC
  refine Mv rfl rfl ?_
  refine WL.ev (Ev.extract rfl rfl) rfl ?_
  refine WL.ev (Ev.extract rfl rfl) rfl ?_
  refine WL.allocB (l := [.bool false, .slice none 0 0, .int .i64 0]) rfl rfl fun b9 wm9 hb9 hcm9 hge9 => ?_
  have hgehch9 := Nat.le_trans hch.size hge9
  have hch := hch.trans (Chg.any hcm9)
  have hr := hr.keep0 hcm9
  have hNx := hNx.keep0 hcm9
  have hneb69 : b6 ≠ b9 := by have := hb6.lt; omega
  have hb6 := hb6.keep0 hcm9
  refine WL.storeB rfl rfl rfl ao hb9 (by simp) rfl fun ws10 hb9_ hcs10 => ?_
  try simp only [Sx.splice, qt] at hb9_
  have hch := hch.s1 hcs10
  have hb6 := hb6.keep hcs10 (by simp; omega)
  have hr := hr.keepBK hb9 hcs10 an
  have hNx := hNx.keepBK hb9 hcs10 an
  have hb9 := hb9_
  refine As rfl rfl ?_
  refine WL.nil (kr4 _ _ _ (kh3 _ _ _ ?_))
  refine Sq fun _ kh5 _ kr6 => ?_
  refine Mv rfl rfl ?_
  refine WL.call hasF16 rfl rfl (dOf_spec y _ hy (hg0.keep0 hch)) fun v w2 h' => ?_
  obtain ⟨hD2, hC2⟩ := h'
  have hch := hch.trans (Chg.any hC2)
  have hb6 := hb6.keep0 hC2
  have hb9 := hb9.keep0 hC2
  have hr := hr.keep0 hC2
  have hNx := hNx.keep0 hC2
  rcases hD2 with ⟨hfy, ry, rfl, hNy⟩ | ⟨hfy, rfl⟩
  ·
    have hPy := fv_small y (n := n) (by omega)
    have hDy := diff_in y hn2 hSs
    have hokY := rsumD_ok (fvI_in y)
    have hokPy := rsumD_ok hPy
    have hokDy := rsumD_ok hDy
    have hbest2 := hbest hfy
    refine Mv rfl rfl ?_
    refine WL.ev (Ev.extract rfl rfl) rfl ?_
    refine WL.ev (Ev.extract rfl rfl) rfl ?_
    refine WL.allocB (l := [.bool false, .slice none 0 0, .int .i64 0]) rfl rfl fun b11 wm11 hb11 hcm11 hge11 => ?_
    have hgehch11 := Nat.le_trans hch.size hge11
    have hch := hch.trans (Chg.any hcm11)
    have hr := hr.keep0 hcm11
    have hNx := hNx.keep0 hcm11
    have hNy := hNy.keep0 hcm11
    have hneb611 : b6 ≠ b11 := by have := hb6.lt; omega
    have hb6 := hb6.keep0 hcm11
    have hneb911 : b9 ≠ b11 := by have := hb9.lt; omega
    have hb9 := hb9.keep0 hcm11
    refine WL.storeB rfl rfl rfl ao hb11 (by simp) rfl fun ws11 hb11_ hcs11 => ?_
    try simp only [Sx.splice, qt] at hb11_
    have hch := hch.s1 hcs11
    have hb6 := hb6.keep hcs11 (by simp; omega)
    have hb9 := hb9.keep hcs11 (by simp; omega)
    have hr := hr.keepBK hb11 hcs11 an
    have hNx := hNx.keepBK hb11 hcs11 an
    have hNy := hNy.keepBK hb11 hcs11 an
    have hb11 := hb11_
    refine As rfl rfl ?_
    refine WL.nil (kr6 _ _ _ (kh5 _ _ _ ?_))
    refine CW.seq fun _ kh7 => ?_
    refine Sq fun _ kh8 _ kr9 => ?_
    refine Mv rfl rfl ?_
    refine WL.ev (Ev.neq rfl rfl) rfl ?_
    rw [show decide ((0 : Int) ≠ 0) = false from rfl]
    refine WL.nil (kr9 _ _ _ (kh8 _ _ _ ?_))
    refine CW.condF rfl ?_
    refine CW.skip ?_
    refine kh7 _ _ _ ?_
    refine CW.seq fun _ kh10 => ?_
    refine CW.regionKC 7 8 rfl hmix fun kR11 kr11 hS hdr => ?_
    have hch := hch.trans (Chg.any hdr)
    have hb6 := hb6.keep0 hdr
    have hb9 := hb9.keep0 hdr
    have hb11 := hb11.keep0 hdr
    have hr := hr.keep0 hdr
    have hNx := hNx.keep0 hdr
    have hNy := hNy.keep0 hdr
    have hch_r := hch
    have hb6_r := hb6
    have hb9_r := hb9
    have hb11_r := hb11
    refine WK.take 0 rfl (by kernel_rfl) (by kernel_rfl) (by kernel_rfl) (by kernel_rfl) (by kernel_rfl) (by kernel_rfl) hS (fun w' hw' => Ev.loadA rfl rfl (hb9_r.keep0 hw') rfl) rfl ?_
    refine WK.take 1 rfl (by kernel_rfl) (by kernel_rfl) (by kernel_rfl) (by kernel_rfl) (by kernel_rfl) (by kernel_rfl) hS (fun w' hw' => Ev.move rfl) rfl ?_
    refine WK.oneCall 2 rfl (by kernel_rfl) hasF56 rfl rfl (Int_spec (n : Int) _ (hg0.keep0 hch) (by omega)) fun v w3 h' => ?_
    obtain ⟨⟨ria, rfl, hNia⟩, hC⟩ := h'
    have hch := hch.trans (Chg.any hC)
    have hb6 := hb6.keep0 hC
    have hb9 := hb9.keep0 hC
    have hb11 := hb11.keep0 hC
    have hr := hr.keep0 hC
    have hNx := hNx.keep0 hC
    have hNy := hNy.keep0 hC
    have hS := hS.trans hC
    refine ⟨hS, ?_⟩
    refine WK.oneCall 3 rfl (by kernel_rfl) hasF55 rfl rfl (Mul_dspec (sumD (fvI x)).neg (intD (n : Int)).neg _ _ (wd (sumD (fvI x)).m) (wd (intD (n : Int)).m) (sumD (fvI x)).e (intD (n : Int)).e _ hNx hNia (hg0.keep0 hch) (ok_e hokX) (ok_e hokn)) fun v w4 h' => ?_
    obtain ⟨hD, hC⟩ := h'
    rw [val_wd, val_wd, formD_sumD (fvI_in x), formD_self hokn, show both2 mulD (some (sumD (fvI x))) (some (intD (n : Int))) = mulD (sumD (fvI x)) (intD (n : Int)) from rfl, mulD_int (fvI_in x) hn (by omega) hPx] at hD
    obtain ⟨rpx, dpx, hdpx, rfl, hNpx⟩ := hD.resolve_right (fun q => by cases q.1)
    cases hdpx
    have hch := hch.trans (Chg.any hC)
    have hb6 := hb6.keep0 hC
    have hb9 := hb9.keep0 hC
    have hb11 := hb11.keep0 hC
    have hr := hr.keep0 hC
    have hNx := hNx.keep0 hC
    have hNy := hNy.keep0 hC
    have hNia := hNia.keep0 hC
    have hS := hS.trans hC
    refine ⟨hS, ?_⟩
    refine WK.take 4 rfl (by kernel_rfl) (by kernel_rfl) (by kernel_rfl) (by kernel_rfl) (by kernel_rfl) (by kernel_rfl) hS (fun w' hw' => Ev.move rfl) rfl ?_
    refine WK.take 5 rfl (by kernel_rfl) (by kernel_rfl) (by kernel_rfl) (by kernel_rfl) (by kernel_rfl) (by kernel_rfl) hS (fun w' hw' => Ev.extract rfl rfl) rfl ?_
    refine WK.takeT 6 rfl (by kernel_rfl) (by kernel_rfl) (by kernel_rfl) (by kernel_rfl) (fun _ => hS) (fun w' => Ev.extract rfl rfl) rfl ?_
    refine WK.storeB 7 rfl (by kernel_rfl) (by kernel_rfl) rfl rfl rfl ao hb9 (by simp) rfl fun ws12 hb9_ hcs12 => ?_
    try simp only [Sx.splice, qt] at hb9_
    have hch := hch.s1 hcs12
    have hb6 := hb6.keep hcs12 (by simp; omega)
    have hb11 := hb11.keep hcs12 (by simp; omega)
    have hr := hr.keepBK hb9 hcs12 an
    have hNy := hNy.keepBK hb9 hcs12 an
    have hNpx := hNpx.keepBK hb9 hcs12 an
    have hb9 := hb9_
    refine WK.done (by kernel_rfl) (kr11 _ _ _ ?_)
    refine kh10 _ _ _ ?_
    refine CW.seq fun _ kh12 => ?_
    refine CW.regionKC 7 8 rfl hmix fun kR13 kr13 hS hdr => ?_
    have hch := hch.trans (Chg.any hdr)
    have hb6 := hb6.keep0 hdr
    have hb9 := hb9.keep0 hdr
    have hb11 := hb11.keep0 hdr
    have hr := hr.keep0 hdr
    have hNy := hNy.keep0 hdr
    have hNpx := hNpx.keep0 hdr
    have hch_r := hch
    have hb6_r := hb6
    have hb9_r := hb9
    have hb11_r := hb11
    refine WK.take 0 rfl (by kernel_rfl) (by kernel_rfl) (by kernel_rfl) (by kernel_rfl) (by kernel_rfl) (by kernel_rfl) hS (fun w' hw' => Ev.loadA rfl rfl (hb11_r.keep0 hw') rfl) rfl ?_
    refine WK.take 1 rfl (by kernel_rfl) (by kernel_rfl) (by kernel_rfl) (by kernel_rfl) (by kernel_rfl) (by kernel_rfl) hS (fun w' hw' => Ev.move rfl) rfl ?_
    refine WK.oneCall 2 rfl (by kernel_rfl) hasF56 rfl rfl (Int_spec (n : Int) _ (hg0.keep0 hch) (by omega)) fun v w5 h' => ?_
    obtain ⟨⟨rib, rfl, hNib⟩, hC⟩ := h'
    have hch := hch.trans (Chg.any hC)
    have hb6 := hb6.keep0 hC
    have hb9 := hb9.keep0 hC
    have hb11 := hb11.keep0 hC
    have hr := hr.keep0 hC
    have hNy := hNy.keep0 hC
    have hNpx := hNpx.keep0 hC
    have hS := hS.trans hC
    refine ⟨hS, ?_⟩
    refine WK.oneCall 3 rfl (by kernel_rfl) hasF55 rfl rfl (Mul_dspec (sumD (fvI y)).neg (intD (n : Int)).neg _ _ (wd (sumD (fvI y)).m) (wd (intD (n : Int)).m) (sumD (fvI y)).e (intD (n : Int)).e _ hNy hNib (hg0.keep0 hch) (ok_e hokY) (ok_e hokn)) fun v w6 h' => ?_
    obtain ⟨hD, hC⟩ := h'
    rw [val_wd, val_wd, formD_sumD (fvI_in y), formD_self hokn, show both2 mulD (some (sumD (fvI y))) (some (intD (n : Int))) = mulD (sumD (fvI y)) (intD (n : Int)) from rfl, mulD_int (fvI_in y) hn (by omega) hPy] at hD
    obtain ⟨rpy, dpy, hdpy, rfl, hNpy⟩ := hD.resolve_right (fun q => by cases q.1)
    cases hdpy
    have hch := hch.trans (Chg.any hC)
    have hb6 := hb6.keep0 hC
    have hb9 := hb9.keep0 hC
    have hb11 := hb11.keep0 hC
    have hr := hr.keep0 hC
    have hNy := hNy.keep0 hC
    have hNpx := hNpx.keep0 hC
    have hNib := hNib.keep0 hC
    have hS := hS.trans hC
    refine ⟨hS, ?_⟩
    refine WK.take 4 rfl (by kernel_rfl) (by kernel_rfl) (by kernel_rfl) (by kernel_rfl) (by kernel_rfl) (by kernel_rfl) hS (fun w' hw' => Ev.move rfl) rfl ?_
    refine WK.take 5 rfl (by kernel_rfl) (by kernel_rfl) (by kernel_rfl) (by kernel_rfl) (by kernel_rfl) (by kernel_rfl) hS (fun w' hw' => Ev.extract rfl rfl) rfl ?_
    refine WK.takeT 6 rfl (by kernel_rfl) (by kernel_rfl) (by kernel_rfl) (by kernel_rfl) (fun _ => hS) (fun w' => Ev.extract rfl rfl) rfl ?_
    refine WK.storeB 7 rfl (by kernel_rfl) (by kernel_rfl) rfl rfl rfl ao hb11 (by simp) rfl fun ws13 hb11_ hcs13 => ?_
    try simp only [Sx.splice, qt] at hb11_
    have hch := hch.s1 hcs13
    have hb6 := hb6.keep hcs13 (by simp; omega)
    have hb9 := hb9.keep hcs13 (by simp; omega)
    have hr := hr.keepBK hb11 hcs13 an
    have hNpx := hNpx.keepBK hb11 hcs13 an
    have hNpy := hNpy.keepBK hb11 hcs13 an
    have hb11 := hb11_
    refine WK.done (by kernel_rfl) (kr13 _ _ _ ?_)
    refine kh12 _ _ _ ?_
    refine Sq fun _ kh14 _ kr15 => ?_
    refine WL.ev (Ev.loadA rfl rfl hb9 rfl) rfl ?_
    refine WL.ev (Ev.loadA rfl rfl hb6 rfl) rfl ?_
    refine WL.call hasF57 rfl rfl (Sub_dspec (sumD (fvI x * (n : Int))).neg (sumD S).neg _ _ (wd (sumD (fvI x * (n : Int))).m) (wd (sumD S).m) (sumD (fvI x * (n : Int))).e (sumD S).e _ hNpx hr (hg0.keep0 hch) (ok_e hokPx) (ok_e hokS)) fun v w7 h' => ?_
    obtain ⟨hD, hC⟩ := h'
    rw [val_wd, val_wd, formD_sumD hPx, negF_sum hIS, show both2 addD (some (sumD (fvI x * (n : Int)))) (some (sumD (-S))) = addD (sumD (fvI x * (n : Int))) (sumD (-S)) from rfl, addD_sum hPx hIS.neg hDx] at hD
    obtain ⟨rdx, ddx, hddx, rfl, hNdx⟩ := hD.resolve_right (fun q => by cases q.1)
    cases hddx
    have hch := hch.trans (Chg.any hC)
    have hb6 := hb6.keep0 hC
    have hb9 := hb9.keep0 hC
    have hb11 := hb11.keep0 hC
    have hr := hr.keep0 hC
    have hNpx := hNpx.keep0 hC
    have hNpy := hNpy.keep0 hC
    refine Mv rfl rfl ?_
    refine WL.ev (Ev.extract rfl rfl) rfl ?_
    refine WL.ev (Ev.extract rfl rfl) rfl ?_
    refine WL.storeB rfl rfl rfl ao hb9 (by simp) rfl fun ws14 hb9_ hcs14 => ?_
    try simp only [Sx.splice, qt] at hb9_
    have hch := hch.s1 hcs14
    have hb6 := hb6.keep hcs14 (by simp; omega)
    have hb11 := hb11.keep hcs14 (by simp; omega)
    have hr := hr.keepBK hb9 hcs14 an
    have hNpy := hNpy.keepBK hb9 hcs14 an
    have hNdx := hNdx.keepBK hb9 hcs14 an
    have hb9 := hb9_
    refine WL.nil (kr15 _ _ _ (kh14 _ _ _ ?_))
    refine Sq fun _ kh16 _ kr17 => ?_
    refine WL.ev (Ev.loadA rfl rfl hb11 rfl) rfl ?_
    refine WL.ev (Ev.loadA rfl rfl hb6 rfl) rfl ?_
    refine WL.call hasF57 rfl rfl (Sub_dspec (sumD (fvI y * (n : Int))).neg (sumD S).neg _ _ (wd (sumD (fvI y * (n : Int))).m) (wd (sumD S).m) (sumD (fvI y * (n : Int))).e (sumD S).e _ hNpy hr (hg0.keep0 hch) (ok_e hokPy) (ok_e hokS)) fun v w8 h' => ?_
    obtain ⟨hD, hC⟩ := h'
    rw [val_wd, val_wd, formD_sumD hPy, negF_sum hIS, show both2 addD (some (sumD (fvI y * (n : Int)))) (some (sumD (-S))) = addD (sumD (fvI y * (n : Int))) (sumD (-S)) from rfl, addD_sum hPy hIS.neg hDy] at hD
    obtain ⟨rdy, ddy, hddy, rfl, hNdy⟩ := hD.resolve_right (fun q => by cases q.1)
    cases hddy
    have hch := hch.trans (Chg.any hC)
    have hb6 := hb6.keep0 hC
    have hb9 := hb9.keep0 hC
    have hb11 := hb11.keep0 hC
    have hr := hr.keep0 hC
    have hNpy := hNpy.keep0 hC
    have hNdx := hNdx.keep0 hC
    refine Mv rfl rfl ?_
    refine WL.ev (Ev.extract rfl rfl) rfl ?_
    refine WL.ev (Ev.extract rfl rfl) rfl ?_
    refine WL.storeB rfl rfl rfl ao hb11 (by simp) rfl fun ws15 hb11_ hcs15 => ?_
    try simp only [Sx.splice, qt] at hb11_
    have hch := hch.s1 hcs15
    have hb6 := hb6.keep hcs15 (by simp; omega)
    have hb9 := hb9.keep hcs15 (by simp; omega)
    have hNdx := hNdx.keepBK hb11 hcs15 an
    have hNdy := hNdy.keepBK hb11 hcs15 an
    have hb11 := hb11_
    refine WL.nil (kr17 _ _ _ (kh16 _ _ _ ?_))
    refine CW.seq fun _ kh18 => ?_
    refine Sq fun _ kh19 _ kr20 => ?_
    refine WL.ev (Ev.loadA rfl rfl hb9 rfl) rfl ?_
    refine WL.call hasF58 rfl rfl (Sign_dspec (sumD (fvI x * (n : Int) + -S)).neg _ (wd (sumD (fvI x * (n : Int) + -S)).m) (sumD (fvI x * (n : Int) + -S)).e _ hNdx) fun v w9 h' => ?_
    obtain ⟨rfl, hC⟩ := h'
    rw [val_wd, sumD_sg hDx.1 hDx.2]
    have hch := hch.trans (Chg.any hC)
    have hb6 := hb6.keep0 hC
    have hb9 := hb9.keep0 hC
    have hb11 := hb11.keep0 hC
    have hNdx := hNdx.keep0 hC
    have hNdy := hNdy.keep0 hC
    refine WL.ev (Ev.lss rfl rfl) rfl ?_
    refine WL.nil (kr20 _ _ _ (kh19 _ _ _ ?_))
    refine CW.cond rfl (fun hc1 => ?_) (fun hc1 => ?_)
    ·
      try simp only [qs] at hc1
      have hga : (fvI x * (n : Int) + -S) < 0 := Classical.byContradiction fun q => by rw [if_neg q] at hc1; split at hc1 <;> omega
      refine CW.region fun kR21 kr21 => ?_
      refine WL.ev (Ev.loadA rfl rfl hb9 rfl) rfl ?_
      refine WL.call hasF59 rfl rfl (Neg_dspec (sumD (fvI x * (n : Int) + -S)).neg _ (wd (sumD (fvI x * (n : Int) + -S)).m) (sumD (fvI x * (n : Int) + -S)).e _ hNdx (hg0.keep0 hch) (ok_e hokDx)) fun v w10 h' => ?_
      obtain ⟨hD, hC⟩ := h'
      rw [val_wd, negD_sum hDx] at hD
      obtain ⟨rDxn, rfl, hNDxn⟩ := hD
      have hch := hch.trans (Chg.any hC)
      have hb6 := hb6.keep0 hC
      have hb9 := hb9.keep0 hC
      have hb11 := hb11.keep0 hC
      have hNdx := hNdx.keep0 hC
      have hNdy := hNdy.keep0 hC
      refine WL.storeB rfl rfl rfl ao hb9 (by simp) rfl fun ws16 hb9_ hcs16 => ?_
      try simp only [Sx.splice, qt] at hb9_
      have hch := hch.s1 hcs16
      have hb6 := hb6.keep hcs16 (by simp; omega)
      have hb11 := hb11.keep hcs16 (by simp; omega)
      have hNdy := hNdy.keepBK hb9 hcs16 an
      have hNDxn := hNDxn.keepBK hb9 hcs16 an
      have hb9 := hb9_
      refine WL.nil (kr21 _ _ _ (kh18 _ _ _ ?_))
      refine CW.seq fun _ kh22 => ?_
      refine Sq fun _ kh23 _ kr24 => ?_
      refine WL.ev (Ev.loadA rfl rfl hb11 rfl) rfl ?_
      refine WL.call hasF58 rfl rfl (Sign_dspec (sumD (fvI y * (n : Int) + -S)).neg _ (wd (sumD (fvI y * (n : Int) + -S)).m) (sumD (fvI y * (n : Int) + -S)).e _ hNdy) fun v w11 h' => ?_
      obtain ⟨rfl, hC⟩ := h'
      rw [val_wd, sumD_sg hDy.1 hDy.2]
      have hch := hch.trans (Chg.any hC)
      have hb6 := hb6.keep0 hC
      have hb9 := hb9.keep0 hC
      have hb11 := hb11.keep0 hC
      have hNdy := hNdy.keep0 hC
      have hNDxn := hNDxn.keep0 hC
      refine WL.ev (Ev.lss rfl rfl) rfl ?_
      refine WL.nil (kr24 _ _ _ (kh23 _ _ _ ?_))
      refine CW.cond rfl (fun hc2 => ?_) (fun hc2 => ?_)
      ·
        try simp only [qs] at hc2
        have hgb : (fvI y * (n : Int) + -S) < 0 := Classical.byContradiction fun q => by rw [if_neg q] at hc2; split at hc2 <;> omega
        refine CW.region fun kR25 kr25 => ?_
        refine WL.ev (Ev.loadA rfl rfl hb11 rfl) rfl ?_
        refine WL.call hasF59 rfl rfl (Neg_dspec (sumD (fvI y * (n : Int) + -S)).neg _ (wd (sumD (fvI y * (n : Int) + -S)).m) (sumD (fvI y * (n : Int) + -S)).e _ hNdy (hg0.keep0 hch) (ok_e hokDy)) fun v w12 h' => ?_
        obtain ⟨hD, hC⟩ := h'
        rw [val_wd, negD_sum hDy] at hD
        obtain ⟨rDyn, rfl, hNDyn⟩ := hD
        have hch := hch.trans (Chg.any hC)
        have hb6 := hb6.keep0 hC
        have hb9 := hb9.keep0 hC
        have hb11 := hb11.keep0 hC
        have hNdy := hNdy.keep0 hC
        have hNDxn := hNDxn.keep0 hC
        refine WL.storeB rfl rfl rfl ao hb11 (by simp) rfl fun ws17 hb11_ hcs17 => ?_
        try simp only [Sx.splice, qt] at hb11_
        have hch := hch.s1 hcs17
        have hb6 := hb6.keep hcs17 (by simp; omega)
        have hb9 := hb9.keep hcs17 (by simp; omega)
        have hNDxn := hNDxn.keepBK hb11 hcs17 an
        have hNDyn := hNDyn.keepBK hb11 hcs17 an
        have hb11 := hb11_
        refine WL.nil (kr25 _ _ _ (kh22 _ _ _ ?_))
        refine Sq fun _ kh26 _ kr27 => ?_
        refine Mv rfl rfl ?_
        refine WL.ev (Ev.eql rfl rfl) rfl ?_
        rw [decide_eq_true rfl]
        refine Mv rfl rfl ?_
        refine WL.want rfl rfl rfl rfl ?_
        refine WL.ev (Ev.loadA rfl rfl hb9 rfl) rfl ?_
        refine WL.want rfl rfl rfl rfl ?_
        refine WL.ev (Ev.loadA rfl rfl hb11 rfl) rfl ?_
        refine WL.want rfl rfl rfl rfl ?_
        refine WL.call hasF60 rfl rfl (dCmp_spec (sumD (-(fvI x * (n : Int) + -S))).neg (sumD (-(fvI y * (n : Int) + -S))).neg _ _ (wd (sumD (-(fvI x * (n : Int) + -S))).m) (wd (sumD (-(fvI y * (n : Int) + -S))).m) (sumD (-(fvI x * (n : Int) + -S))).e (sumD (-(fvI y * (n : Int) + -S))).e _ hNDxn hNDyn (by have := (rsumD_ok hDx.neg).len; omega) (by have := (rsumD_ok hDy.neg).len; omega) (by have := (rsumD_ok hDx.neg).e; omega) (by have := (rsumD_ok hDy.neg).e; omega)) fun v w13 h' => ?_
        obtain ⟨rfl, hC⟩ := h'
        rw [val_wd, val_wd, cmpD_sum hDx.neg hDy.neg]
        have hch := hch.trans (Chg.any hC)
        have hb6 := hb6.keep0 hC
        have hb9 := hb9.keep0 hC
        have hb11 := hb11.keep0 hC
        have hNDxn := hNDxn.keep0 hC
        have hNDyn := hNDyn.keep0 hC
        refine WL.want rfl rfl rfl rfl ?_
        refine WL.ev (Ev.leq rfl rfl) rfl ?_
        rw [decide_eq_true (show (if (-(fvI x * (n : Int) + -S)) < (-(fvI y * (n : Int) + -S)) then (-1 : Int) else if (-(fvI y * (n : Int) + -S)) < (-(fvI x * (n : Int) + -S)) then 1 else 0) ≤ 0 by rw [if_neg (show ¬ (-(fvI y * (n : Int) + -S)) < (-(fvI x * (n : Int) + -S)) by omega)]; split <;> omega)]
        refine WL.ev (Ev.pickT rfl rfl rfl) rfl ?_
        refine As rfl rfl ?_
        refine WL.nil (kr27 _ _ _ (kh26 _ _ _ ?_))
        refine CW.ret ?_
        refine bodyA.ret1 rfl rfl ?_
        exact ⟨rfl, hch⟩
      ·
        try simp only [qs] at hc2
        have hgb : ¬ (fvI y * (n : Int) + -S) < 0 := fun q => by rw [if_pos q] at hc2; omega
        refine CW.skip ?_
        refine kh22 _ _ _ ?_
        refine Sq fun _ kh28 _ kr29 => ?_
        refine Mv rfl rfl ?_
        refine WL.ev (Ev.eql rfl rfl) rfl ?_
        rw [decide_eq_true rfl]
        refine Mv rfl rfl ?_
        refine WL.want rfl rfl rfl rfl ?_
        refine WL.ev (Ev.loadA rfl rfl hb9 rfl) rfl ?_
        refine WL.want rfl rfl rfl rfl ?_
        refine WL.ev (Ev.loadA rfl rfl hb11 rfl) rfl ?_
        refine WL.want rfl rfl rfl rfl ?_
        refine WL.call hasF60 rfl rfl (dCmp_spec (sumD (-(fvI x * (n : Int) + -S))).neg (sumD (fvI y * (n : Int) + -S)).neg _ _ (wd (sumD (-(fvI x * (n : Int) + -S))).m) (wd (sumD (fvI y * (n : Int) + -S)).m) (sumD (-(fvI x * (n : Int) + -S))).e (sumD (fvI y * (n : Int) + -S)).e _ hNDxn hNdy (by have := (rsumD_ok hDx.neg).len; omega) (by have := hokDy.len; omega) (by have := (rsumD_ok hDx.neg).e; omega) (by have := hokDy.e; omega)) fun v w14 h' => ?_
        obtain ⟨rfl, hC⟩ := h'
        rw [val_wd, val_wd, cmpD_sum hDx.neg hDy]
        have hch := hch.trans (Chg.any hC)
        have hb6 := hb6.keep0 hC
        have hb9 := hb9.keep0 hC
        have hb11 := hb11.keep0 hC
        have hNdy := hNdy.keep0 hC
        have hNDxn := hNDxn.keep0 hC
        refine WL.want rfl rfl rfl rfl ?_
        refine WL.ev (Ev.leq rfl rfl) rfl ?_
        rw [decide_eq_true (show (if (-(fvI x * (n : Int) + -S)) < (fvI y * (n : Int) + -S) then (-1 : Int) else if (fvI y * (n : Int) + -S) < (-(fvI x * (n : Int) + -S)) then 1 else 0) ≤ 0 by rw [if_neg (show ¬ (fvI y * (n : Int) + -S) < (-(fvI x * (n : Int) + -S)) by omega)]; split <;> omega)]
        refine WL.ev (Ev.pickT rfl rfl rfl) rfl ?_
        refine As rfl rfl ?_
        refine WL.nil (kr29 _ _ _ (kh28 _ _ _ ?_))
        refine CW.ret ?_
        refine bodyA.ret1 rfl rfl ?_
        exact ⟨rfl, hch⟩
    ·
      try simp only [qs] at hc1
      have hga : ¬ (fvI x * (n : Int) + -S) < 0 := fun q => by rw [if_pos q] at hc1; omega
      refine CW.skip ?_
      refine kh18 _ _ _ ?_
      refine CW.seq fun _ kh30 => ?_
      refine Sq fun _ kh31 _ kr32 => ?_
      refine WL.ev (Ev.loadA rfl rfl hb11 rfl) rfl ?_
      refine WL.call hasF58 rfl rfl (Sign_dspec (sumD (fvI y * (n : Int) + -S)).neg _ (wd (sumD (fvI y * (n : Int) + -S)).m) (sumD (fvI y * (n : Int) + -S)).e _ hNdy) fun v w15 h' => ?_
      obtain ⟨rfl, hC⟩ := h'
      rw [val_wd, sumD_sg hDy.1 hDy.2]
      have hch := hch.trans (Chg.any hC)
      have hb6 := hb6.keep0 hC
      have hb9 := hb9.keep0 hC
      have hb11 := hb11.keep0 hC
      have hNdx := hNdx.keep0 hC
      have hNdy := hNdy.keep0 hC
      refine WL.ev (Ev.lss rfl rfl) rfl ?_
      refine WL.nil (kr32 _ _ _ (kh31 _ _ _ ?_))
      refine CW.cond rfl (fun hc3 => ?_) (fun hc3 => ?_)
      ·
        try simp only [qs] at hc3
        have hgb : (fvI y * (n : Int) + -S) < 0 := Classical.byContradiction fun q => by rw [if_neg q] at hc3; split at hc3 <;> omega
        refine CW.region fun kR33 kr33 => ?_
        refine WL.ev (Ev.loadA rfl rfl hb11 rfl) rfl ?_
        refine WL.call hasF59 rfl rfl (Neg_dspec (sumD (fvI y * (n : Int) + -S)).neg _ (wd (sumD (fvI y * (n : Int) + -S)).m) (sumD (fvI y * (n : Int) + -S)).e _ hNdy (hg0.keep0 hch) (ok_e hokDy)) fun v w16 h' => ?_
        obtain ⟨hD, hC⟩ := h'
        rw [val_wd, negD_sum hDy] at hD
        obtain ⟨rDyn, rfl, hNDyn⟩ := hD
        have hch := hch.trans (Chg.any hC)
        have hb6 := hb6.keep0 hC
        have hb9 := hb9.keep0 hC
        have hb11 := hb11.keep0 hC
        have hNdx := hNdx.keep0 hC
        have hNdy := hNdy.keep0 hC
        refine WL.storeB rfl rfl rfl ao hb11 (by simp) rfl fun ws18 hb11_ hcs18 => ?_
        try simp only [Sx.splice, qt] at hb11_
        have hch := hch.s1 hcs18
        have hb6 := hb6.keep hcs18 (by simp; omega)
        have hb9 := hb9.keep hcs18 (by simp; omega)
        have hNdx := hNdx.keepBK hb11 hcs18 an
        have hNDyn := hNDyn.keepBK hb11 hcs18 an
        have hb11 := hb11_
        refine WL.nil (kr33 _ _ _ (kh30 _ _ _ ?_))
        refine Sq fun _ kh34 _ kr35 => ?_
        refine Mv rfl rfl ?_
        refine WL.ev (Ev.eql rfl rfl) rfl ?_
        rw [decide_eq_true rfl]
        refine Mv rfl rfl ?_
        refine WL.want rfl rfl rfl rfl ?_
        refine WL.ev (Ev.loadA rfl rfl hb9 rfl) rfl ?_
        refine WL.want rfl rfl rfl rfl ?_
        refine WL.ev (Ev.loadA rfl rfl hb11 rfl) rfl ?_
        refine WL.want rfl rfl rfl rfl ?_
        refine WL.call hasF60 rfl rfl (dCmp_spec (sumD (fvI x * (n : Int) + -S)).neg (sumD (-(fvI y * (n : Int) + -S))).neg _ _ (wd (sumD (fvI x * (n : Int) + -S)).m) (wd (sumD (-(fvI y * (n : Int) + -S))).m) (sumD (fvI x * (n : Int) + -S)).e (sumD (-(fvI y * (n : Int) + -S))).e _ hNdx hNDyn (by have := hokDx.len; omega) (by have := (rsumD_ok hDy.neg).len; omega) (by have := hokDx.e; omega) (by have := (rsumD_ok hDy.neg).e; omega)) fun v w17 h' => ?_
        obtain ⟨rfl, hC⟩ := h'
        rw [val_wd, val_wd, cmpD_sum hDx hDy.neg]
        have hch := hch.trans (Chg.any hC)
        have hb6 := hb6.keep0 hC
        have hb9 := hb9.keep0 hC
        have hb11 := hb11.keep0 hC
        have hNdx := hNdx.keep0 hC
        have hNDyn := hNDyn.keep0 hC
        refine WL.want rfl rfl rfl rfl ?_
        refine WL.ev (Ev.leq rfl rfl) rfl ?_
        rw [decide_eq_true (show (if (fvI x * (n : Int) + -S) < (-(fvI y * (n : Int) + -S)) then (-1 : Int) else if (-(fvI y * (n : Int) + -S)) < (fvI x * (n : Int) + -S) then 1 else 0) ≤ 0 by rw [if_neg (show ¬ (-(fvI y * (n : Int) + -S)) < (fvI x * (n : Int) + -S) by omega)]; split <;> omega)]
        refine WL.ev (Ev.pickT rfl rfl rfl) rfl ?_
        refine As rfl rfl ?_
        refine WL.nil (kr35 _ _ _ (kh34 _ _ _ ?_))
        refine CW.ret ?_
        refine bodyA.ret1 rfl rfl ?_
        exact ⟨rfl, hch⟩
      ·
        try simp only [qs] at hc3
        have hgb : ¬ (fvI y * (n : Int) + -S) < 0 := fun q => by rw [if_pos q] at hc3; omega
        refine CW.skip ?_
        refine kh30 _ _ _ ?_
        refine Sq fun _ kh36 _ kr37 => ?_
        refine Mv rfl rfl ?_
        refine WL.ev (Ev.eql rfl rfl) rfl ?_
        rw [decide_eq_true rfl]
        refine Mv rfl rfl ?_
        refine WL.want rfl rfl rfl rfl ?_
        refine WL.ev (Ev.loadA rfl rfl hb9 rfl) rfl ?_
        refine WL.want rfl rfl rfl rfl ?_
        refine WL.ev (Ev.loadA rfl rfl hb11 rfl) rfl ?_
        refine WL.want rfl rfl rfl rfl ?_
        refine WL.call hasF60 rfl rfl (dCmp_spec (sumD (fvI x * (n : Int) + -S)).neg (sumD (fvI y * (n : Int) + -S)).neg _ _ (wd (sumD (fvI x * (n : Int) + -S)).m) (wd (sumD (fvI y * (n : Int) + -S)).m) (sumD (fvI x * (n : Int) + -S)).e (sumD (fvI y * (n : Int) + -S)).e _ hNdx hNdy (by have := hokDx.len; omega) (by have := hokDy.len; omega) (by have := hokDx.e; omega) (by have := hokDy.e; omega)) fun v w18 h' => ?_
        obtain ⟨rfl, hC⟩ := h'
        rw [val_wd, val_wd, cmpD_sum hDx hDy]
        have hch := hch.trans (Chg.any hC)
        have hb6 := hb6.keep0 hC
        have hb9 := hb9.keep0 hC
        have hb11 := hb11.keep0 hC
        have hNdx := hNdx.keep0 hC
        have hNdy := hNdy.keep0 hC
        refine WL.want rfl rfl rfl rfl ?_
        refine WL.ev (Ev.leq rfl rfl) rfl ?_
        rw [decide_eq_true (show (if (fvI x * (n : Int) + -S) < (fvI y * (n : Int) + -S) then (-1 : Int) else if (fvI y * (n : Int) + -S) < (fvI x * (n : Int) + -S) then 1 else 0) ≤ 0 by rw [if_neg (show ¬ (fvI y * (n : Int) + -S) < (fvI x * (n : Int) + -S) by omega)]; split <;> omega)]
        refine WL.ev (Ev.pickT rfl rfl rfl) rfl ?_
        refine As rfl rfl ?_
        refine WL.nil (kr37 _ _ _ (kh36 _ _ _ ?_))
        refine CW.ret ?_
        refine bodyA.ret1 rfl rfl ?_
        exact ⟨rfl, hch⟩
  ·
    refine Mv rfl rfl ?_
    refine WL.ev (Ev.extract rfl rfl) rfl ?_
    refine WL.ev (Ev.extract rfl rfl) rfl ?_
    refine WL.allocB (l := [.bool false, .slice none 0 0, .int .i64 0]) rfl rfl fun b11 wm11 hb11 hcm11 hge11 => ?_
    have hgehch11 := Nat.le_trans hch.size hge11
    have hch := hch.trans (Chg.any hcm11)
    have hr := hr.keep0 hcm11
    have hNx := hNx.keep0 hcm11
    have hneb611 : b6 ≠ b11 := by have := hb6.lt; omega
    have hb6 := hb6.keep0 hcm11
    have hneb911 : b9 ≠ b11 := by have := hb9.lt; omega
    have hb9 := hb9.keep0 hcm11
    refine WL.storeB rfl rfl rfl ao hb11 (by simp) rfl fun ws19 hb11_ hcs19 => ?_
    try simp only [Sx.splice, qt] at hb11_
    have hch := hch.s1 hcs19
    have hb6 := hb6.keep hcs19 (by simp; omega)
    have hb9 := hb9.keep hcs19 (by simp; omega)
    have hr := hr.keepBK hb11 hcs19 an
    have hNx := hNx.keepBK hb11 hcs19 an
    have hb11 := hb11_
    refine As rfl rfl ?_
    refine WL.nil (kr6 _ _ _ (kh5 _ _ _ ?_))
    refine CW.seq fun _ kh38 => ?_
    refine Sq fun _ kh39 _ kr40 => ?_
    refine Mv rfl rfl ?_
    refine WL.ev (Ev.neq rfl rfl) rfl ?_
    rw [show decide ((30 : Int) ≠ 0) = true from rfl]
    refine WL.nil (kr40 _ _ _ (kh39 _ _ _ ?_))
    refine CW.condT rfl ?_
    refine Sq fun _ kh41 _ kr42 => ?_
    refine Mv rfl rfl ?_
    refine WL.ev (Ev.eql rfl rfl) rfl ?_
    rw [decide_eq_true rfl]
    refine As rfl rfl ?_
    refine WL.nil (kr42 _ _ _ (kh41 _ _ _ ?_))
    refine CW.ret ?_
    refine bodyA.ret1 rfl rfl ?_
    exact ⟨rfl, hch⟩

end Go.Proofs.YtphnpchmdpjabaaGreatDoor

/- What the long lists' means and the ways to a mean come to. No condition. -/
namespace Go.Proofs.YtphnpchmdpjabaaGreatDoor
open Go Sx Wd Fl
set_option exponentiation.threshold 9000

theorem fvI_nought {w : Nat} (hw : (splitP w).cls ≤ 2) (h64 : w < 18446744073709551616) : fvI w = 0 ↔ w % 9223372036854775808 = 0 := by
  have hp : (0 : Nat) < 2 ^ 1074 := Nat.two_pow_pos _
  have e := fvI_nz hw h64
  have h1 : nz (w % 9223372036854775808) * 2 ^ 1074 = 0 ↔ w % 9223372036854775808 = 0 := by
    rw [← nz_zero (k := w % 9223372036854775808)]
    constructor
    · intro q
      rcases Nat.mul_eq_zero.1 q with q | q
      · exact q
      · omega
    · intro q; rw [q, Nat.zero_mul]
  rw [← h1, e]
  split <;> omega
theorem three : (splitP 4613937818241073152).cls ≤ 2 ∧ fvI 4613937818241073152 ≠ 0 := by
  have h1 : (splitP 4613937818241073152).cls ≤ 2 := by decide +kernel
  refine ⟨h1, fun q => ?_⟩
  rw [fvI_nought h1 (by decide)] at q
  exact absurd q (by decide)
end Go.Proofs.YtphnpchmdpjabaaGreatDoor

/- Package steelyardlaw13: MeanNearest. No condition. -/
namespace Go.Proofs.YtphnpchmdpjabaaGreatDoor
open Go Sx Wd Fl
set_option exponentiation.threshold 9000

structure KNst (l : List Nat) (b : Nat) (w0 : World) (g : Nat × Value) (w : World) : Prop where
  hi : g.1 ≤ l.length
  hB : BK w b 25 [.bool (sumD (sumI (l.take g.1))).neg, g.2, .int .i64 (sumD (sumI (l.take g.1))).e]
  hN : NU w g.2 (wd (sumD (sumI (l.take g.1))).m)
  ch : Chg [] w0 w
theorem sumI_small {l : List Nat} (h : l.length ≤ 1000000) : (sumI l).natAbs ≤ 1000000 * 2 ^ 3172 := Nat.le_trans (sumI_le l) (Nat.mul_le_mul_right _ h)

theorem finL_at {l : List Nat} (h : finL l) {i : Nat} (hi : i < l.length) : (splitP (l.getD i 0)).cls ≤ 2 := h _ (by rw [List.getD_eq_getElem?_getD, List.getElem?_eq_getElem hi]; exact List.getElem_mem _)

set_option maxRecDepth 8000 in
set_option maxHeartbeats 4000000 in
theorem MeanNearest_spec (v : Value) (l : List Nat) (w : World) (hg : GW w) (hvl : NF w v l ∧ l.length ≤ 17592186044415) : Ret Tryz.prog 4 [v] w fun u w' => u = .bool true ∧ Chg [] w w' := by
 obtain ⟨hv, hlm⟩ := hvl
 have hv0 := hv
 obtain ⟨⟨al, cl, rfl, hcapl, hrl⟩, hWl, hll⟩ := hv
 have hch : Chg [] w w := Chg.refl _ _
 have hg0 := hg
 refine Ret.enter Tryz.func4 rfl rfl ?_
 simp only [args0, Nat.zero_add, Nat.reduceAdd]
 refine Sr fun _ kh1 => za rfl (zz (kh1 (Sr fun _ kh3 => ?_)))
 refine WL.call hasF8 rfl rfl (live_spec _ (hg0.keep0 hch)) fun v w1 h' => ?_
 obtain ⟨rfl, hC⟩ := h'
 have hch := hch.trans (Chg.any hC)
 refine za rfl (zz (kh3 (Sr fun _ kh5 => zm rfl ?_)))
 refine WL.call hasF14 rfl rfl (lfinite_spec _ l _ (hv0.keep0 hch)) fun v w2 h' => ?_
 obtain ⟨rfl, hC⟩ := h'
 have hch := hch.trans (Chg.any hC)
 refine za rfl (zz (kh5 (zc fun _ kh7 => Sr fun _ kh8 => zm rfl ?_)))
 refine WL.ev (Ev.not rfl) rfl ?_
 refine zm rfl ?_
 refine WL.boolCase (fun hg1 => ?_) (fun hg1 => ?_)
 ·
  try simp only [qs] at hg1
  have hq := hg1
  refine zv rfl (zv rfl (zv rfl (zt rfl rfl (zm rfl (zv rfl (zv rfl (zv rfl (zt rfl rfl (zz (kh8 ?_))))))))))
  refine CW.condT rfl ?_
  refine Sr fun _ kh10 => zm rfl (za rfl (zz (kh10 ?_)))
  refine CW.ret ?_
  refine bodyA.ret1 rfl rfl ?_
  exact ⟨rfl, hch⟩
 ·
  try simp only [qs] at hg1
  have hf : finL l := by have := hg1; simpa using this
  refine zw rfl (zm rfl (zw rfl (zn rfl (zw rfl (zq rfl rfl (ze rfl rfl (zm rfl ?_)))))))
  refine WL.boolCase (fun hg2 => ?_) (fun hg2 => ?_)
  ·
   try simp only [qs] at hg2
   have hq := hg2
   refine zv rfl (zv rfl (zv rfl (zt rfl rfl (zz (kh8 ?_)))))
   refine CW.condT rfl ?_
   refine Sr fun _ kh12 => zm rfl (za rfl (zz (kh12 ?_)))
   refine CW.ret ?_
   refine bodyA.ret1 rfl rfl ?_
   exact ⟨rfl, hch⟩
  ·
   try simp only [qs] at hg2
   have hn0 : l.length ≠ 0 := by have := hg2; omega
   have hne : l ≠ [] := fun q => by rw [q] at hn0; exact hn0 rfl
   refine zw rfl (zm rfl (zw rfl (zn rfl (zw rfl ?_))))
   refine WL.ev (Ev.gtr rfl rfl) rfl ?_
   refine ze rfl rfl (zz (kh8 ?_))
   refine CW.cond rfl (fun hc3 => ?_) (fun hc3 => ?_)
   ·
    try simp only [qs] at hc3
    have hq := hc3
    refine Sr fun _ kh14 => zm rfl (za rfl (zz (kh14 ?_)))
    refine CW.ret ?_
    refine bodyA.ret1 rfl rfl ?_
    exact ⟨rfl, hch⟩
   ·
    try simp only [qs] at hc3
    have hl3 : l.length ≤ 300 := by have := hc3; omega
    refine CW.skip ?_
    refine kh7 (Sr fun _ kh16 => zm rfl ?_)
    refine WL.ev (Ev.build (vs := _) (cs := [_, _]) rfl rfl) rfl ?_
    refine WL.call hasF15 rfl rfl (Mean_spec _ l 0 0 0 _ (hv0.keep0 hch) (hg0.keep0 hch)) fun v w3 h' => ?_
    obtain ⟨⟨x, e1, rfl, hM⟩, hC⟩ := h'
    obtain ⟨rfl, hx64, hxf⟩ := mean_num hM hf hWl (by omega) hne ⟨by decide, by decide⟩
    have hch := hch.trans (Chg.any hC)
    refine zm rfl (zx rfl rfl (zx rfl rfl (za rfl (za rfl (zz (kh16 (Sr fun _ kh18 => ?_)))))))
    refine WL.allocB (l := [.bool false, .slice none 0 0, .int .i64 0]) rfl rfl fun b7 wm7 hb7 hcm7 hge7 => ?_
    have hgehch7 := Nat.le_trans hch.size hge7
    have hch := hch.trans (Chg.any hcm7)
    refine zz (kh18 (zc fun _ kh20 => Sr fun _ kh21 => za rfl (zz (kh21 ?_))))
    refine CW.block ?_
    refine CW.loop (S := fun g : Nat × Value => [(0, .slice al l.length cl), (3, .bool true), (5, .float .f64 x), (6, .int .i64 0), (7, .pointer (some ⟨b7, 0, none⟩)), (8, .int .i64 (g.1 : Int))]) (Inv := KNst l b7 w) (mu := fun g => l.length - g.1) ((0, .slice none 0 0)) ?_ ?_ ?_
    ·
     exact ⟨Nat.zero_le _, hb7, by rw [List.take_zero, show sumI [] = 0 from rfl, show (sumD 0).m = 0 from rfl, wd_zero]; exact NU.nil, hch⟩
    ·
     exact SLp
    ·
     rintro ⟨i, rs⟩ wr ⟨hi, hb7, hN, hch⟩
     dsimp only at hi hb7 hN hch
     dsimp only
     have hor := hN.one
     have hge7 := hgehch7
     refine zc fun _ kh23 => Sr fun _ kh24 => zm rfl (zm rfl (zn rfl ?_))
     refine WL.ev (Ev.lss rfl rfl) rfl ?_
     refine zz (kh24 ?_)
     refine CW.cond rfl (fun hc4 => ?_) (fun hc4 => ?_)
     ·
      try simp only [qs] at hc4
      have hx := D_getD hWl i
      have hfx := finL_at hf (i := i) (by omega)
      have hst := sumI_step (l := l) (i := i) (by omega)
      have hIS : InB (sumI (l.take i)) := sumI_in (by rw [List.length_take]; omega)
      have hIX := fvI_in (l.getD i 0)
      have hIT : InB (sumI (l.take (i + 1))) := sumI_in (by rw [List.length_take]; omega)
      rw [hst] at hIT
      have hokS := rsumD_ok hIS
      have hokX := rsumD_ok hIX
      refine CW.skip ?_
      refine kh23 (zc fun _ kh26 => ?_)
      refine CW.block ?_
      refine Sr fun _ kh27 => zm rfl (zm rfl ?_)
      refine WL.ev (Ev.ixR (i) rfl rfl (hrl.keep0 hch) (by omega) (by omega) (by simp; omega)) rfl ?_
      refine WL.ev (Ev.load rfl rfl ((hrl.keep0 hch).f64 (by first | omega | (simp; omega)))) rfl ?_
      refine WL.call hasF16 rfl rfl (dOf_spec (l.getD i 0) _ hx (hg0.keep0 hch)) fun v w4 h' => ?_
      obtain ⟨hD, hC⟩ := h'
      obtain ⟨-, rx, rfl, hNx⟩ := hD.resolve_right (fun q => q.1 hfx)
      have hox := hNx.one
      have hch := hch.trans (Chg.any hC)
      have hb7 := hb7.keep0 hC
      have hN := hN.keep0 hC
      refine zm rfl (zx rfl rfl (zx rfl rfl ?_))
      refine WL.allocB (l := [.bool false, .slice none 0 0, .int .i64 0]) rfl rfl fun b9 wm9 hb9 hcm9 hge9 => ?_
      have hgehch9 := Nat.le_trans hch.size hge9
      have hch := hch.trans (Chg.any hcm9)
      have hN := hN.keep0 hcm9
      have hNx := hNx.keep0 hcm9
      have hneb79 : b7 ≠ b9 := by have := hb7.lt; omega
      have hb7 := hb7.keep0 hcm9
      refine WL.storeB rfl rfl rfl ao hb9 (by simp) rfl fun ws20 hb9_ hcs20 => ?_
      try simp only [Sx.splice, qt] at hb9_
      have hch := hch.s1 hcs20
      have hb7 := hb7.keep hcs20 (by simp; omega)
      have hN := hN.keepBK hb9 hcs20 an
      have hNx := hNx.keepBK hb9 hcs20 an
      have hb9 := hb9_
      refine za rfl (zz (kh27 ?_))
      refine CW.region fun kR29 kr29 => ?_
      refine zg hb7 rfl (zg hb9 rfl ?_)
      refine WL.call hasF17 rfl rfl (Add_dspec (sumD (sumI (l.take i))).neg (sumD (fvI (l.getD i 0))).neg _ _ (wd (sumD (sumI (l.take i))).m) (wd (sumD (fvI (l.getD i 0))).m) (sumD (sumI (l.take i))).e (sumD (fvI (l.getD i 0))).e _ hN hNx (hg0.keep0 hch) (ok_e hokS) (ok_e hokX)) fun v w5 h' => ?_
      obtain ⟨hD, hC⟩ := h'
      rw [val_wd, val_wd, formD_sumD hIS, formD_sumD hIX, show both2 addD (some (sumD (sumI (l.take i)))) (some (sumD (fvI (l.getD i 0)))) = addD (sumD (sumI (l.take i))) (sumD (fvI (l.getD i 0))) from rfl, addD_sum hIS hIX hIT, ← hst] at hD
      obtain ⟨ra, da, hda, rfl, hNa⟩ := hD.resolve_right (fun q => by cases q.1)
      cases hda
      have hoa := hNa.one
      have hch := hch.trans (Chg.any hC)
      have hb7 := hb7.keep0 hC
      have hb9 := hb9.keep0 hC
      have hN := hN.keep0 hC
      have hNx := hNx.keep0 hC
      refine zm rfl (zx rfl rfl (zx rfl rfl ?_))
      refine WL.storeB rfl rfl rfl ao hb7 (by simp) rfl fun ws21 hb7_ hcs21 => ?_
      try simp only [Sx.splice, qt] at hb7_
      have hch := hch.s1 hcs21
      have hb9 := hb9.keep hcs21 (by simp; omega)
      have hNa := hNa.keepBK hb7 hcs21 an
      have hb7 := hb7_
      refine WL.nil (kr29 _ _ _ (kh26 ?_))
      refine CW.region fun kR30 kr30 => ?_
      refine zm rfl ?_
      first | refine WL.ev (Ev.addIn rfl rfl (by omega)) rfl ?_ | refine WL.ev (Ev.add rfl rfl) rfl ?_
      refine za rfl ?_
      refine WL.nil (kr30 _ _ _ ?_)
      refine ⟨rfl, (i + 1, ra), ?_, ?_, ?_⟩
      ·
       exact SLp
      ·
       exact ⟨by dsimp only; omega, hb7, hNa, hch⟩
      ·
       show l.length - (i + 1) < l.length - i; omega
     ·
      try simp only [qs] at hc4
      have hiX : i = l.length := by omega
      subst hiX
      rw [List.take_length] at hb7 hN
      have hIS : InB (sumI l) := sumI_in (by omega)
      refine CW.exit ?_
      refine kh20 (Sr fun _ kh31 => zm rfl ?_)
      refine WL.call hasF18 rfl rfl (Prev_spec x _ hx64 hxf) fun v w6 h' => ?_
      obtain ⟨⟨y1, rfl, hy1⟩, rfl⟩ := h'
      refine za rfl (zz (kh31 (Sr fun _ kh33 => zm rfl ?_)))
      refine WL.call hasF19 rfl rfl (Next_spec x _ hx64 hxf) fun v w7 h' => ?_
      obtain ⟨⟨y2, rfl, hy2⟩, rfl⟩ := h'
      refine za rfl (zz (kh33 (Sr fun _ kh35 => zm rfl (zm rfl (zw rfl (zm rfl (zw rfl (zq rfl rfl ?_))))))))
      rw [decide_eq_true rfl]
      refine zt rfl rfl (zm rfl (zw rfl (zm rfl (zw rfl (zm rfl (zw rfl (zg hb7 rfl (zw rfl (zm rfl (zw rfl (zn rfl (zw rfl ?_))))))))))))
      refine WL.call hasF20 rfl rfl (nearer_spec x y1 (sumI l) _ l.length _ hx64 hy1 hxf hN hIS (sumI_small (by omega)) hn0 (by omega) (fun hy => mean_best hM hf (by omega) hne hxf hx64 hy hy1) (hg0.keep0 hch)) fun v w8 h' => ?_
      obtain ⟨rfl, hC⟩ := h'
      have hch := hch.trans (Chg.any hC)
      have hb7 := hb7.keep0 hC
      have hN := hN.keep0 hC
      refine zt rfl rfl (zm rfl (zw rfl (zm rfl (zw rfl (zm rfl (zw rfl (zg hb7 rfl (zw rfl (zm rfl (zw rfl (zn rfl (zw rfl ?_))))))))))))
      refine WL.call hasF20 rfl rfl (nearer_spec x y2 (sumI l) _ l.length _ hx64 hy2 hxf hN hIS (sumI_small (by omega)) hn0 (by omega) (fun hy => mean_best hM hf (by omega) hne hxf hx64 hy hy2) (hg0.keep0 hch)) fun v w9 h' => ?_
      obtain ⟨rfl, hC⟩ := h'
      have hch := hch.trans (Chg.any hC)
      have hb7 := hb7.keep0 hC
      have hN := hN.keep0 hC
      refine zt rfl rfl (za rfl (zz (kh35 ?_)))
      refine CW.ret ?_
      refine bodyA.ret1 rfl rfl ?_
      exact ⟨rfl, hch⟩

end Go.Proofs.YtphnpchmdpjabaaGreatDoor

/- What came in, opened; the listed table, opened. No condition. -/
namespace Go.Proofs.YtphnpchmdpjabaaGreatDoor
open Go Sx Wd
open Go.ChangeShapes Go.WideShapes Go.ChangeAt Go.WideMaps Go.WideElems Go.RowKit

theorem own : ownKnob Tryz.prog.godebug = none := by kernel_rfl
theorem laidOut : laidOutB Tryz.prog = true := by kernel_rfl
theorem door_met (os : Os) (args : Array Value) : laidMetH Tryz.prog [("math/bits.deBruijn32tab", Rows.laid_math_bits_deBruijn32tab)] ((World.doorLaid Tryz.prog 400 os).forCall (fun _ _ => 0) ⟨#[], args, []⟩).memory :=
  laidMetH_of_parts3 (fuel := 8) (laidMet_of_run' 8 (by kernel_rfl) (by kernel_rfl)) (by kernel_rfl) (by kernel_rfl)
theorem gDeb : Tryz.prog.globalNamed "math/bits.deBruijn32tab" = some 1 := by kernel_rfl
theorem tDeb : (Tryz.prog.globals[1]?).map (·.type) = some 199 := by kernel_rfl
theorem deb_data {H : Type} : (Rows.laid_math_bits_deBruijn32tab : DataW H) = .agg (deb.map fun n : Nat => .lit (.int .u8 (n : Int))) := rfl
theorem gw_of_laid {W : World} (h : laidMetH Tryz.prog [("math/bits.deBruijn32tab", Rows.laid_math_bits_deBruijn32tab)] W) : GW W := by
  rw [MakeChecks.laidMetH_plain _ _ _ (by kernel_rfl)] at h
  obtain ⟨ps, ⟨g0, t0, cs0, f0, p0, q0, hg0, ht0, hv0, hd0, _, _⟩, _, _⟩ := h
  obtain rfl := Option.some.inj (gDeb.symm.trans hg0)
  obtain rfl := Option.some.inj (tDeb.symm.trans ht0)
  obtain ⟨xs, m1, rfl, hx1, hlen, hn3, hel⟩ := DataW.trod_array Tryz.underlying199 hd0
  have c8 : Tryz.prog.cellsOf 5 = 1 := by kernel_rfl
  simp only [Prod.mk.injEq] at hx1
  intro i hi
  have hi' := hel i hi
  rw [c8, Nat.mul_one] at hi'
  have hxi : xs[i]? = some (xs[i]'(by omega)) := List.getElem?_eq_getElem (by omega)
  rw [hxi] at hi'
  obtain ⟨k, e1, e2, _⟩ := DataW.trod_int Tryz.underlying5 hi'
  have hxs : (deb.map fun n : Nat => (DataW.lit (.int .u8 (n : Int)) : DataW Unit)) = xs.map (·.1) := by
    have := hx1.1
    rw [deb_data] at this
    exact DataW.agg.inj this
  have hdat : (deb.map fun n : Nat => (DataW.lit (.int .u8 (n : Int)) : DataW Unit))[i]? = some (.lit (.int .u8 ((deb.getD i 0 : Nat) : Int))) := by
    rw [List.getElem?_map, List.getElem?_eq_getElem (show i < deb.length from hi), List.getD_eq_getElem?_getD, List.getElem?_eq_getElem (show i < deb.length from hi)]; rfl
  rw [hxs, List.getElem?_map, hxi] at hdat
  simp only [Option.map_some] at hdat
  rw [e2] at hdat
  have hk : k = ((deb.getD i 0 : Nat) : Int) := by
    have := Option.some.inj hdat
    simp only [DataW.lit.injEq, Lit.int.injEq, true_and] at this
    exact this
  subst hk
  have hc : cs0[i]? = some (.int .u8 ((deb.getD i 0 : Nat) : Int)) := by
    have h3 : (cs0.toList.drop i)[0]? = some (.int .u8 ((deb.getD i 0 : Nat) : Int)) := by
      have := congrArg (fun l : List Value => l[0]?) e1
      simpa using this
    simpa using h3
  have := World.var?_cell hg0 hv0 i
  rw [hc] at this
  exact this

/-- One float cell, read. -/
theorem float_cell {H : Type} {enc : TypeId × Value → H} {P : Program} {w : World} {base : Nat} {spare : Nat → Bool} {held : Bool} {n : Nat} {e : TypeId} {v : Value} {x : DataW H × List MemPlace} (he : P.underlying e = some (.float .f64)) (h : DataW.trod enc P w base spare held n e [v] = some x) : ∃ b, v = .float .f64 b ∧ b < 18446744073709551616 := by
  cases n with
  | zero => simp [DataW.trod] at h
  | succ n =>
    simp only [DataW.trod, he] at h
    cases v <;> simp_all
    rename_i k b
    cases k <;> simp_all [Lit.wf]
/-- A slice of floats that came in. -/
theorem open_nf {H : Type} {enc : TypeId × Value → H} {P : Program} {w : World} {base b0 : Nat} {spare : Nat → Bool} {held : Bool} {t e : TypeId} {v : Value} {d : DataW H} {ps : List MemPlace} (ht : P.underlying t = some (.slice e)) (he : P.underlying e = some (.float .f64)) (hc : P.cellsOf e = 1) (hb : P.bytesOf e = 8) (hval : Value.okWide P w .any b0 t v) (h : DataW.Trod enc P w base spare held t v d ps)
    (hsz : ∀ elems spare', d = .slice elems spare' → (elems.length + spare'.length) * P.bytesOf e ≤ reachBytes) : ∃ l : List Nat, NF w v l ∧ l.length ≤ 17592186044415 := by
  obtain ⟨a, len, cap, rfl⟩ := okWide_slice ht hval
  obtain ⟨fuel, hf⟩ := h
  rcases Go.Deep.open_slice1 ht hc hf with ⟨hcs, _⟩ | ⟨ad, l, c, m, n, V, D, Pl, hcs, _, hlc, hcm, hm, hx, hV⟩
  · simp [Value.cells] at hcs
    obtain ⟨rfl, rfl, rfl⟩ := hcs
    exact ⟨[], ⟨⟨none, 0, rfl, Nat.le_refl _, RW.nil⟩, fun x hx => (by cases hx), by decide⟩, by decide⟩
  · simp [Value.cells] at hcs
    obtain ⟨rfl, rfl, rfl⟩ := hcs
    have hlm : len ≤ m := by rw [hm]; split <;> omega
    simp only [Prod.mk.injEq] at hx
    have h8 := hsz _ _ hx.1
    rw [hb] at h8
    simp only [List.length_map, List.length_range] at h8
    have hr : reachBytes = 140737488351232 := by decide
    have hlen : len ≤ 17592186044415 := by omega
    obtain ⟨f, hf2⟩ := Go.Deep.choose_lt (α := Nat) (n := len) (p := fun i b => V i = .float .f64 b ∧ b < 18446744073709551616) (fun i hi => float_cell he (hV i (by omega)).2)
    refine ⟨(List.range len).map f, ⟨⟨some ad, cap, by simp, by simpa using hlc, fun i y hy => ?_⟩, fun y hy => ?_, by simp; omega⟩, by simpa using hlen⟩
    · have hi : i < len := by
        by_cases q : i < len
        · exact q
        · rw [List.getElem?_eq_none (by simp; omega)] at hy; cases hy
      simp [List.getElem?_range hi] at hy
      subst hy
      exact ⟨ad, rfl, by rw [(hV i (by omega)).1, (hf2 i hi).1]; rfl⟩
    · obtain ⟨i, hi, rfl⟩ := List.mem_map.1 hy
      exact (hf2 i (List.mem_range.1 hi)).2
end Go.Proofs.YtphnpchmdpjabaaGreatDoor

/- The statement on MeanNearest. -/
namespace Go.Proofs.YtphnpchmdpjabaaGreatDoor.meanNearest
open Go.ChangeShapes Go.WideShapes Go.ChangeAt Go.RowKit

set_option maxRecDepth 100000 in
theorem lifted (os : Os) (started : os.Started) (H : Type) (enc : TypeId × Value → H) :
    ReturnsInHanded {} Tryz.checked os 4 .any (fun w args => (Rows.meanNearestSpec.pre enc Tryz.prog Tryz.f4 Rows.meanNearestRow.domain false w args ∧ laidMetH Tryz.prog [("math/bits.deBruijn32tab", Rows.laid_math_bits_deBruijn32tab)] w) ∧ sizedMet enc Tryz.prog Tryz.f4 (OpenSpec.ofChange Rows.meanNearestSpec) false w args) (Rows.meanNearestSpec.post enc Tryz.prog Tryz.f4 false true false false) := by
  refine returnsInHanded_of_change_and (C := Tryz.checked) (X := fun w _ => laidMetH Tryz.prog [("math/bits.deBruijn32tab", Rows.laid_math_bits_deBruijn32tab)] w) (fun _ _ _ hh h => h.of_heap hh) own started (by kernel_rfl) Tryz.func4
    (ChangeSpec.witness_shaped (enc := enc) (C := Tryz.checked) (os := os) (X := fun w _ => laidMetH Tryz.prog [("math/bits.deBruijn32tab", Rows.laid_math_bits_deBruijn32tab)] w) false (World.doorLaid Tryz.prog 400 os) #[.slice none 0 0] 8 rfl (World.shaped_of_RefB (by kernel_rfl) (by kernel_rfl)) (by kernel_rfl) (by kernel_rfl) (by kernel_rfl) (door_met os _)) ?_
  intro W base args ds gs before hval0 hW hcnd hsz0 hL _
  have hGW := gw_of_laid hL
  have hval : ∀ (j : Nat) t v, Tryz.f4.params[j]? = some t → args[j]? = some v → Value.okWide Tryz.prog W .any base t v := hval0
  have hsz : (DataW.weightsEach Tryz.prog (Tryz.f4.params.toList ++ []) (ds ++ gs)).all (· ≤ reachBytes) = true := hsz0
  have hW' := hW
  obtain ⟨p, q, hA0, hV, rfl, hfz, hnd⟩ := hW
  have hA : DataW.TrodAll enc Tryz.prog W 0 (fun _ => true) true Tryz.f4.params.toList args.toList ds p := hA0
  rw [Tryz.params4] at hA hval hsz
  obtain ⟨v0, vs0, d0, ds0, p0, q0, hargs, rfl, rfl, h0, r0⟩ := trodAll_cons hA
  obtain ⟨rfl, rfl, rfl⟩ := trodAll_nil r0
  obtain rfl : args = #[v0] := by cases args; simp_all
  obtain ⟨rfl, rfl⟩ := trodVars_none hV
  simp only [List.append_nil] at hsz
  have k0 := h0
  have lt0 : ∀ x ∈ p0, x.block < W.heap.size := by obtain ⟨m, hm⟩ := k0; exact DataW.trod_lt m _ _ _ hm
  obtain ⟨l0, nf0⟩ := open_nf Tryz.underlying35 Tryz.underlying28 (by kernel_rfl) (by kernel_rfl) (hval 0 35 v0 rfl rfl) h0 (fun elems spare hd => sized_slice (j := 0) hsz rfl (by rw [← hd]; rfl) Tryz.underlying35)
  clear hA0 hval0
  refine Calls.mono (MeanNearest_spec v0 l0 W hGW nf0) fun e W' ⟨v, he, hv, hc⟩ => ?_
  subst he
  subst hv
  have bel : Below W.heap.size W W' := hc.below
  exact ⟨_, rfl, _, _, _, [], _, [], hW', trodAll_mk1 (shut_bool Tryz.underlying4 _), (trodAll_cons_mk (Below.trod laidOut (by kernel_rfl) (of_decide_eq_true (by kernel_rfl)) k0 bel lt0) trodAll_mk0), rfl, bel.frame _, fun h => by cases h⟩

theorem over : Rows.meanNearestRow.holds Tryz.pinned (OpenSpec.ofChange Rows.meanNearestSpec) :=
  OpenClaim.holds_of_wide 4 Tryz.f4 rfl rfl rfl rfl rfl rfl rfl ⟨rfl, rfl, rfl, rfl, rfl⟩ rfl rfl rfl rfl rfl (by kernel_rfl) Tryz.func4 (by kernel_rfl)
    (of_decide_eq_true (by kernel_rfl)) (by unfold Func.isWrapper; first | (rw [if_pos (by decide +kernel)]; kernel_rfl) | (rw [if_neg (by decide +kernel)]; exact ⟨rfl, rfl⟩))
    (fun os started H enc _ => lifted os started H enc)

theorem proved : Rows.MeanNearestCardSaid :=
  Claim7.holds_tied_plain_at .later [] [.data] true Rows.meanNearestCard.stood.harness false
    over (fun _ h => by cases h) (by kernel_rfl) (fun _ h => by cases h) meanNearest_row_tie rfl ⟨rfl, rfl⟩ (by kernel_rfl) rfl
    (fun f fn hf hfn => by
      obtain rfl : f = 4 := Option.some.inj ((show Tryz.prog.funcNamed "steelyard/steelyardlaw13.MeanNearest" = some 4 by kernel_rfl).symm.trans hf) |>.symm
      obtain rfl : fn = Tryz.f4 := (Option.some.inj (Tryz.func4.symm.trans hfn)).symm
      exact ⟨by kernel_rfl, fun j t ht => by
        have hm : t ∈ Tryz.f4.params.toList := by simpa using Array.mem_of_getElem? ht
        have hall : (Tryz.f4.params.toList.all fun u => !Tryz.prog.wantsStandIn u) = true := by kernel_rfl
        exact (show Tryz.prog.wantsStandIn t = false by simpa using List.all_eq_true.1 hall t hm)⟩)
    (by kernel_rfl)
end Go.Proofs.YtphnpchmdpjabaaGreatDoor.meanNearest
