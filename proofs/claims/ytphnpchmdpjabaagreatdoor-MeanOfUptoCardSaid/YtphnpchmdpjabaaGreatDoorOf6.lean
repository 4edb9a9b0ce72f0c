/- The statement on MeanOf. -/
import Derived.Test.YtphnpchmdpjabaaGreatDoorOf5
import GoSem.Core.Float
import Derived.WalkKit
import Derived.ProofKit
import Derived.OpenShut
import Derived.ChangeOld
import Derived.Below
import Derived.Deep.Slices
import Derived.Laws.Cover2
import Derived.LaidMore
import Derived.SizedLaws
import Derived.SevenTiedAt
import Derived.Stop.Joined
import Derived.Test.YtphnpchmdpjabaaGreatDoorRows
import Derived.Deep.Strs
import Derived.Deep.DeepHandedRow
import Derived.Deep.DeepWitnessRowRef
import Derived.Test.YtphnpchmdpjabaaGreatDoorTie
import Derived.Test.YtphnpchmdpjabaaGreatDoorCards
set_option linter.unusedVariables false
set_option linter.unusedSimpArgs false
/- Reference of layer 11: Nearby. No condition. -/
namespace Go.Proofs.YtphnpchmdpjabaaGreatDoor
open Go Sx Wd

set_option maxRecDepth 8000 in
set_option maxHeartbeats 2000000 in
theorem r11Nearby_spec (x y : Dy) (vn vd : Value) (mode : Int) (w : World) (hm : 0 ≤ mode ∧ mode ≤ 4) (hn : NU w vn (wd x.m)) (hd : NU w vd (wd y.m)) (hx : x.ok) (hy : y.ok) : Ret Tryz.prog 128 [.agg [.int .i64 53, .int .i64 (-1074), .int .u64 9218868437227405312].toArray, .agg [.bool x.neg, vn, .int .i64 x.e, .bool y.neg, vd, .int .i64 y.e].toArray, .bool false, .int .i64 mode] w fun u w' => ∃ r : Nat, u = .int .u64 (r : Int) ∧ IsNear (dyA x.m (x.e - y.e)) (y.m * dyB (x.e - y.e)) x.neg mode r ∧ r ≤ 9218868437227405312 ∧ Chg [] w w' := by
 have hch : Chg [] w w := Chg.refl _ _
 have hon1 := hn.one
 have hod1 := hd.one
 obtain ⟨A, hA⟩ : ∃ A, A = (dyA x.m (x.e - y.e)) := ⟨_, rfl⟩
 obtain ⟨B, hB⟩ : ∃ B, B = (y.m * dyB (x.e - y.e)) := ⟨_, rfl⟩
 rw [← hA, ← hB]
 refine Ret.enter Tryz.func128 rfl rfl ?_
 simp only [args0, Nat.zero_add, Nat.reduceAdd]
 refine Sq fun _ kh1 _ kr2 => ?_
 refine WL.boxB rfl rfl rfl fun b4 wm4 hb4 hcm4 hge4 => ?_
 have hgehch4 := Nat.le_trans hch.size hge4
 have hch := hch.trans (Chg.any hcm4)
 have hn := hn.keep0 hcm4
 have hd := hd.keep0 hcm4
 refine WL.boxB rfl rfl rfl fun b5 wm5 hb5 hcm5 hge5 => ?_
 have hgehch5 := Nat.le_trans hch.size hge5
 have hch := hch.trans (Chg.any hcm5)
 have hn := hn.keep0 hcm5
 have hd := hd.keep0 hcm5
 have hneb45 : b4 ≠ b5 := by have := hb4.lt; omega
 have hb4 := hb4.keep0 hcm5
 refine As rfl rfl ?_
 refine WL.nil (kr2 _ _ _ (kh1 _ _ _ ?_))
 refine Sq fun _ kh3 _ kr4 => ?_
 refine As rfl rfl ?_
 refine WL.nil (kr4 _ _ _ (kh3 _ _ _ ?_))
 refine Sq fun _ kh5 _ kr6 => ?_
 refine WL.ev (Ev.fieldAddr rfl) rfl ?_
 refine WL.ev (Ev.load rfl rfl (hb4.at_ rfl)) rfl ?_
 refine As rfl rfl ?_
 refine WL.nil (kr6 _ _ _ (kh5 _ _ _ ?_))
 refine CW.seq fun _ kh7 => ?_
 refine CW.block ?_
 refine CW.loop (S := fun g : Nat × Nat => [(2, .bool false), (3, .int .i64 mode), (4, .pointer (some ⟨b4, 0, none⟩)), (5, .pointer (some ⟨b5, 0, none⟩)), (9, .int .u64 (g.1 : Int)), (10, .int .u64 (g.2 : Int))]) (Inv := KNb x y A B w b4 b5 vn vd) (mu := fun g => g.2 - g.1) ((0, 9218868437227405312)) ?_ ?_ ?_
 ·
  exact ⟨by decide, Nat.le_refl _, by rw [show nz 0 = 0 from rfl, Nat.mul_zero, Nat.zero_mul]; exact Nat.zero_le _, .inr rfl, hb4, hb5, hn, hd, hch⟩
 ·
  repeat (first | exact Subs.nil | refine Subs.cons rfl ?_ | refine Subs.consI rfl (by omega) ?_)
 ·
  rintro ⟨f, t⟩ wr ⟨hft, ht, hlo, hhi, hb4, hb5, hn, hd, hch⟩
  dsimp only at hft ht hlo hhi
  dsimp only
  refine CW.seq fun _ kh8 => ?_
  refine Sq fun _ kh9 _ kr10 => ?_
  refine Mv rfl rfl ?_
  refine Mv rfl rfl ?_
  first | refine WL.ev (Ev.sub64In rfl rfl (by omega) (by omega)) rfl ?_ | refine WL.ev (Ev.sub64 rfl rfl (by omega)) rfl ?_
  refine WL.ev (Ev.gtr rfl rfl) rfl ?_
  refine WL.nil (kr10 _ _ _ (kh9 _ _ _ ?_))
  refine CW.cond rfl (fun hc1 => ?_) (fun hc1 => ?_)
  ·
   try simp only [qs] at hc1
   have hm1 : f < (f + t) / 2 := by omega
   have hm2 : (f + t) / 2 < t := by omega
   refine CW.skip ?_
   refine kh8 _ _ _ ?_
   refine CW.block ?_
   refine Sq fun _ kh11 _ kr12 => ?_
   refine Mv rfl rfl ?_
   refine Mv rfl rfl ?_
   first | refine WL.ev (Ev.add64In rfl rfl (by omega)) rfl ?_ | refine WL.ev (Ev.add64 rfl rfl) rfl ?_
   refine WL.ev (Ev.quoU (b := 2) rfl rfl (by omega) (in_u64 (by omega)).2) rfl ?_
   refine As rfl rfl ?_
   refine WL.nil (kr12 _ _ _ (kh11 _ _ _ ?_))
   refine Sq fun _ kh13 _ kr14 => ?_
   refine WL.ev (Ev.loadA rfl rfl hb4 rfl) rfl ?_
   refine Mv rfl rfl ?_
   refine WL.call hasF168 rfl rfl (r3Number_spec ((f + t) / 2) _ (by omega)) fun v w1 h' => ?_
   obtain ⟨⟨va, rfl, hNa⟩, hC⟩ := h'
   have hch := hch.trans (Chg.any hC)
   have hb4 := hb4.keep0 hC
   have hb5 := hb5.keep0 hC
   have hn := hn.keep0 hC
   have hd := hd.keep0 hC
   refine Mv rfl rfl ?_
   refine WL.ev (Ev.extract rfl rfl) rfl ?_
   refine WL.ev (Ev.extract rfl rfl) rfl ?_
   refine As rfl rfl ?_
   refine As rfl rfl ?_
   refine WL.nil (kr14 _ _ _ (kh13 _ _ _ ?_))
   refine Sq fun _ kh15 _ kr16 => ?_
   refine Mv rfl rfl ?_
   refine Mv rfl rfl ?_
   refine WL.ev (Ev.loadA rfl rfl hb5 rfl) rfl ?_
   refine Mv rfl rfl ?_
   refine WL.call hasF169 rfl rfl (r11Against_spec _ _ _ _ _ _ _ _ _ _ _ _ hNa (by have := numE_le ((f + t) / 2) (by omega); omega) (by have := num_len ((f + t) / 2); omega) hn hd hx.e hy.e hx.len hy.len) fun v w2 h' => ?_
   obtain ⟨rfl, hC⟩ := h'
   rw [val_wd, val_wd, val_wd, cmp_num (by omega), ← hB, ← hA]
   have hch := hch.trans (Chg.any hC)
   have hb4 := hb4.keep0 hC
   have hb5 := hb5.keep0 hC
   have hn := hn.keep0 hC
   have hd := hd.keep0 hC
   have hNa := hNa.keep0 hC
   refine WL.ev (Ev.leq rfl rfl) rfl ?_
   refine WL.nil (kr16 _ _ _ (kh15 _ _ _ ?_))
   refine CW.cond rfl (fun hc2 => ?_) (fun hc2 => ?_)
   ·
    try simp only [qs] at hc2
    have hle : 2 * nz ((f + t) / 2) * B ≤ A := sgn_le.1 hc2
    refine CW.region fun kR17 kr17 => ?_
    refine Mv rfl rfl ?_
    refine As rfl rfl ?_
    refine WL.nil (kr17 _ _ _ ?_)
    refine ⟨rfl, ((f + t) / 2, t), ?_, ?_, ?_⟩
    ·
     repeat (first | exact Subs.nil | refine Subs.cons rfl ?_ | refine Subs.consI rfl (by omega) ?_)
    ·
     exact ⟨hm2, ht, hle, hhi, hb4, hb5, hn, hd, hch⟩
    ·
     show t - (f + t) / 2 < t - f; omega
   ·
    try simp only [qs] at hc2
    have hle : A < 2 * nz ((f + t) / 2) * B := Nat.lt_of_not_le fun q => by have := sgn_le.2 q; omega
    refine CW.region fun kR18 kr18 => ?_
    refine Mv rfl rfl ?_
    refine As rfl rfl ?_
    refine WL.nil (kr18 _ _ _ ?_)
    refine ⟨rfl, (f, (f + t) / 2), ?_, ?_, ?_⟩
    ·
     repeat (first | exact Subs.nil | refine Subs.cons rfl ?_ | refine Subs.consI rfl (by omega) ?_)
    ·
     exact ⟨hm1, by dsimp only; omega, hlo, .inl hle, hb4, hb5, hn, hd, hch⟩
    ·
     show (f + t) / 2 - f < t - f; omega
  ·
   try simp only [qs] at hc1
   have et : t = f + 1 := by omega
   subst et
   have hft' : f < 9218868437227405312 := by omega
   have hhi' := hhi
   refine CW.exit ?_
   refine kh7 _ _ _ ?_
   refine Sq fun _ kh19 _ kr20 => ?_
   refine WL.ev (Ev.loadA rfl rfl hb4 rfl) rfl ?_
   refine Mv rfl rfl ?_
   refine WL.call hasF168 rfl rfl (r3Number_spec (f) _ (by omega)) fun v w3 h' => ?_
   obtain ⟨⟨vc, rfl, hNc⟩, hC⟩ := h'
   have hch := hch.trans (Chg.any hC)
   have hb4 := hb4.keep0 hC
   have hb5 := hb5.keep0 hC
   have hn := hn.keep0 hC
   have hd := hd.keep0 hC
   refine Mv rfl rfl ?_
   refine WL.ev (Ev.extract rfl rfl) rfl ?_
   refine WL.ev (Ev.extract rfl rfl) rfl ?_
   refine As rfl rfl ?_
   refine As rfl rfl ?_
   refine WL.nil (kr20 _ _ _ (kh19 _ _ _ ?_))
   refine CW.seq fun _ kh21 => ?_
   refine Sq fun _ kh22 _ kr23 => ?_
   refine Mv rfl rfl ?_
   refine Mv rfl rfl ?_
   refine WL.ev (Ev.loadA rfl rfl hb5 rfl) rfl ?_
   refine Mv rfl rfl ?_
   refine WL.call hasF169 rfl rfl (r11Against_spec _ _ _ _ _ _ _ _ _ _ _ _ hNc (by have := numE_le (f) (by omega); omega) (by have := num_len (f); omega) hn hd hx.e hy.e hx.len hy.len) fun v w4 h' => ?_
   obtain ⟨rfl, hC⟩ := h'
   rw [val_wd, val_wd, val_wd, cmp_num (by omega), ← hB, ← hA]
   have hch := hch.trans (Chg.any hC)
   have hb4 := hb4.keep0 hC
   have hb5 := hb5.keep0 hC
   have hn := hn.keep0 hC
   have hd := hd.keep0 hC
   have hNc := hNc.keep0 hC
   refine WL.ev (Ev.eql rfl rfl) rfl ?_
   refine WL.nil (kr23 _ _ _ (kh22 _ _ _ ?_))
   refine CW.cond rfl (fun hc3 => ?_) (fun hc3 => ?_)
   ·
    try simp only [qs] at hc3
    have he := sgn_zero.1 hc3
    refine Sq fun _ kh24 _ kr25 => ?_
    refine Mv rfl rfl ?_
    refine As rfl rfl ?_
    refine WL.nil (kr25 _ _ _ (kh24 _ _ _ ?_))
    refine CW.ret ?_
    refine bodyA.ret1 rfl rfl ?_
    exact ⟨f, rfl, near_eq hft' hhi' he, by omega, hch⟩
   ·
    try simp only [qs] at hc3
    have hne : 2 * nz f * B ≠ A := fun q => hc3 (sgn_zero.2 q)
    have hes := numE_step f
    obtain ⟨d, hdd⟩ : ∃ d : Nat, (d : Int) = numE (f + 1) - numE f := ⟨(numE (f + 1) - numE f).toNat, by omega⟩
    refine CW.skip ?_
    refine kh21 _ _ _ ?_
    refine Sq fun _ kh26 _ kr27 => ?_
    refine WL.ev (Ev.loadA rfl rfl hb4 rfl) rfl ?_
    refine Mv rfl rfl ?_
    refine WL.ev (Ev.loadA rfl rfl hb5 rfl) rfl ?_
    refine Mv rfl rfl ?_
    refine WL.call hasF170 rfl rfl (r11half_spec f _ _ _ _ _ _ _ _ _ hft' hn hd hx.e hy.e hx.len hy.len) fun v w5 h' => ?_
    obtain ⟨rfl, hC⟩ := h'
    rw [val_wd, val_wd, show (numE (f + 1) - numE f).toNat = d by omega, cmp_mid (by omega) hdd, ← hB, ← hA]
    obtain ⟨M, hM⟩ : ∃ M, M = (nz f + nz (f + 1)) * B := ⟨_, rfl⟩
    rw [← hM]
    have hs1 := sgn_le (a := M) (b := A)
    have hs2 := sgn_zero (a := M) (b := A)
    obtain ⟨h, hh⟩ : ∃ h, h = sgn M A := ⟨_, rfl⟩
    rw [← hh] at hs1 hs2
    rw [← hh]
    have hch := hch.trans (Chg.any hC)
    have hb4 := hb4.keep0 hC
    have hb5 := hb5.keep0 hC
    have hn := hn.keep0 hC
    have hd := hd.keep0 hC
    have hNc := hNc.keep0 hC
    refine As rfl rfl ?_
    refine WL.nil (kr27 _ _ _ (kh26 _ _ _ ?_))
    refine Sq fun _ kh28 _ kr29 => ?_
    refine As rfl rfl ?_
    refine WL.nil (kr29 _ _ _ (kh28 _ _ _ ?_))
    refine CW.seq fun _ kh30 => ?_
    refine Sq fun _ kh31 _ kr32 => ?_
    refine Mv rfl rfl ?_
    refine WL.nil (kr32 _ _ _ (kh31 _ _ _ ?_))
    refine CW.block ?_
    refine Sq fun _ kh33 _ kr34 => ?_
    refine WL.ev (Ev.eql rfl rfl) rfl ?_
    refine As rfl rfl ?_
    refine WL.nil (kr34 _ _ _ (kh33 _ _ _ ?_))
    refine CW.cond rfl (fun hc4 => ?_) (fun hc4 => ?_)
    ·
     try simp only [qs] at hc4
     have hmo : mode = 0 := hc4
     refine CW.region fun kR35 kr35 => ?_
     refine Mv rfl rfl ?_
     refine WL.ev (Ev.lss rfl rfl) rfl ?_
     refine Mv rfl rfl ?_
     refine WL.boolCase (fun hg5 => ?_) (fun hg5 => ?_)
     ·
      try simp only [qs] at hg5
      have hup : upM mode x.neg f A ((nz f + nz (f + 1)) * B) = true := by
       rw [← hM, hmo, up_even, decide_eq_true (show M < A by omega)]; rfl
      refine WL.pass rfl rfl rfl rfl rfl ?_
      refine WL.pass rfl rfl rfl rfl rfl ?_
      refine WL.pass rfl rfl rfl rfl rfl ?_
      refine WL.passU rfl rfl rfl rfl ?_
      refine WL.passU rfl rfl rfl rfl ?_
      refine WL.passU rfl rfl rfl rfl ?_
      refine WL.pass rfl rfl rfl rfl rfl ?_
      refine WL.ev (Ev.pickT rfl rfl rfl) rfl ?_
      refine As rfl rfl ?_
      refine WL.nil (kr35 _ _ _ (kh30 _ _ _ ?_))
      refine CW.seq fun _ kh36 => ?_
      refine Sq fun _ kh37 _ kr38 => ?_
      refine Mv rfl rfl ?_
      refine WL.nil (kr38 _ _ _ (kh37 _ _ _ ?_))
      refine CW.condT rfl ?_
      refine CW.region fun kR39 kr39 => ?_
      refine Mv rfl rfl ?_
      first | refine WL.ev (Ev.add64In (b := 1) rfl rfl (by omega)) rfl ?_ | refine WL.ev (Ev.add64 (b := 1) rfl rfl) rfl ?_
      refine As rfl rfl ?_
      refine WL.nil (kr39 _ _ _ (kh36 _ _ _ ?_))
      refine Sq fun _ kh40 _ kr41 => ?_
      refine Mv rfl rfl ?_
      refine As rfl rfl ?_
      refine WL.nil (kr41 _ _ _ (kh40 _ _ _ ?_))
      refine CW.ret ?_
      refine bodyA.ret1 rfl rfl ?_
      exact ⟨f + 1, rfl, near_of hft' hlo hhi' hne (on := true) (by first | exact hup | exact hup.trans hon) rfl, by omega, hch⟩
     ·
      try simp only [qs] at hg5
      refine WL.want rfl rfl rfl rfl ?_
      refine Mv rfl rfl ?_
      refine WL.want rfl rfl rfl rfl ?_
      refine WL.ev (Ev.eql rfl rfl) rfl ?_
      refine WL.want rfl rfl rfl rfl ?_
      refine Mv rfl rfl ?_
      refine WL.boolCase (fun hg6 => ?_) (fun hg6 => ?_)
      ·
       try simp only [qs] at hg6
       have hup : upM mode x.neg f A ((nz f + nz (f + 1)) * B) = decide (f % 2 = 1) := by
        rw [← hM, hmo, up_even, decide_eq_false (show ¬ M < A by omega), decide_eq_true (show M = A by omega)]; simp
       refine WL.want rfl rfl rfl rfl ?_
       refine Mv rfl rfl ?_
       refine WL.want rfl rfl rfl rfl ?_
       refine WL.ev (Ev.remU (b := 2) rfl rfl (by omega)) rfl ?_
       refine WL.want rfl rfl rfl rfl ?_
       refine WL.ev (Ev.eql rfl rfl) rfl ?_
       rw [show decide (((f % 2 : Nat) : Int) = 1) = decide (f % 2 = 1) from decide_eq_decide.2 (by omega)]
       refine WL.want rfl rfl rfl rfl ?_
       refine WL.ev (Ev.pickT rfl rfl rfl) rfl ?_
       refine WL.ev (Ev.pickF rfl rfl rfl) rfl ?_
       refine As rfl rfl ?_
       refine WL.nil (kr35 _ _ _ (kh30 _ _ _ ?_))
       refine CW.seq fun _ kh42 => ?_
       refine Sq fun _ kh43 _ kr44 => ?_
       refine Mv rfl rfl ?_
       refine WL.nil (kr44 _ _ _ (kh43 _ _ _ ?_))
       refine CW.cond rfl (fun hc7 => ?_) (fun hc7 => ?_)
       ·
        try simp only [qs] at hc7
        have hon := decide_eq_true hc7
        refine CW.region fun kR45 kr45 => ?_
        refine Mv rfl rfl ?_
        first | refine WL.ev (Ev.add64In (b := 1) rfl rfl (by omega)) rfl ?_ | refine WL.ev (Ev.add64 (b := 1) rfl rfl) rfl ?_
        refine As rfl rfl ?_
        refine WL.nil (kr45 _ _ _ (kh42 _ _ _ ?_))
        refine Sq fun _ kh46 _ kr47 => ?_
        refine Mv rfl rfl ?_
        refine As rfl rfl ?_
        refine WL.nil (kr47 _ _ _ (kh46 _ _ _ ?_))
        refine CW.ret ?_
        refine bodyA.ret1 rfl rfl ?_
        exact ⟨f + 1, rfl, near_of hft' hlo hhi' hne (on := true) (by first | exact hup | exact hup.trans hon) rfl, by omega, hch⟩
       ·
        try simp only [qs] at hc7
        have hon := decide_eq_false hc7
        refine CW.skip ?_
        refine kh42 _ _ _ ?_
        refine Sq fun _ kh48 _ kr49 => ?_
        refine Mv rfl rfl ?_
        refine As rfl rfl ?_
        refine WL.nil (kr49 _ _ _ (kh48 _ _ _ ?_))
        refine CW.ret ?_
        refine bodyA.ret1 rfl rfl ?_
        exact ⟨f, rfl, near_of hft' hlo hhi' hne (on := false) (by first | exact hup | exact hup.trans hon) rfl, by omega, hch⟩
      ·
       try simp only [qs] at hg6
       have hup : upM mode x.neg f A ((nz f + nz (f + 1)) * B) = false := by
        rw [← hM, hmo, up_even, decide_eq_false (show ¬ M < A by omega), decide_eq_false (show ¬ M = A by omega)]; rfl
       refine WL.pass rfl rfl rfl rfl rfl ?_
       refine WL.pass rfl rfl rfl rfl rfl ?_
       refine WL.pass rfl rfl rfl rfl rfl ?_
       refine WL.want rfl rfl rfl rfl ?_
       refine WL.ev (Ev.pickF rfl rfl rfl) rfl ?_
       refine WL.ev (Ev.pickF rfl rfl rfl) rfl ?_
       refine As rfl rfl ?_
       refine WL.nil (kr35 _ _ _ (kh30 _ _ _ ?_))
       refine CW.seq fun _ kh50 => ?_
       refine Sq fun _ kh51 _ kr52 => ?_
       refine Mv rfl rfl ?_
       refine WL.nil (kr52 _ _ _ (kh51 _ _ _ ?_))
       refine CW.condF rfl ?_
       refine CW.skip ?_
       refine kh50 _ _ _ ?_
       refine Sq fun _ kh53 _ kr54 => ?_
       refine Mv rfl rfl ?_
       refine As rfl rfl ?_
       refine WL.nil (kr54 _ _ _ (kh53 _ _ _ ?_))
       refine CW.ret ?_
       refine bodyA.ret1 rfl rfl ?_
       exact ⟨f, rfl, near_of hft' hlo hhi' hne (on := false) (by first | exact hup | exact hup.trans hon) rfl, by omega, hch⟩
    ·
     try simp only [qs] at hc4
     refine Sq fun _ kh55 _ kr56 => ?_
     refine WL.ev (Ev.eql rfl rfl) rfl ?_
     refine As rfl rfl ?_
     refine WL.nil (kr56 _ _ _ (kh55 _ _ _ ?_))
     refine CW.cond rfl (fun hc8 => ?_) (fun hc8 => ?_)
     ·
      try simp only [qs] at hc8
      have hmo : mode = 2 := hc8
      have hup : upM mode x.neg f A ((nz f + nz (f + 1)) * B) = !x.neg := by rw [hmo, up_up]
      refine CW.region fun kR57 kr57 => ?_
      refine WL.ev (Ev.fieldAddr rfl) rfl ?_
      refine WL.ev (Ev.fieldAddr rfl) rfl ?_
      refine WL.ev (Ev.load rfl rfl (hb5.at_ rfl)) rfl ?_
      refine WL.ev (Ev.not rfl) rfl ?_
      refine As rfl rfl ?_
      refine WL.nil (kr57 _ _ _ (kh30 _ _ _ ?_))
      refine CW.seq fun _ kh58 => ?_
      refine Sq fun _ kh59 _ kr60 => ?_
      refine Mv rfl rfl ?_
      refine WL.nil (kr60 _ _ _ (kh59 _ _ _ ?_))
      refine CW.cond rfl (fun hc9 => ?_) (fun hc9 => ?_)
      ·
       try simp only [qs] at hc9
       have hon : (!x.neg) = true := by simpa using hc9
       refine CW.region fun kR61 kr61 => ?_
       refine Mv rfl rfl ?_
       first | refine WL.ev (Ev.add64In (b := 1) rfl rfl (by omega)) rfl ?_ | refine WL.ev (Ev.add64 (b := 1) rfl rfl) rfl ?_
       refine As rfl rfl ?_
       refine WL.nil (kr61 _ _ _ (kh58 _ _ _ ?_))
       refine Sq fun _ kh62 _ kr63 => ?_
       refine Mv rfl rfl ?_
       refine As rfl rfl ?_
       refine WL.nil (kr63 _ _ _ (kh62 _ _ _ ?_))
       refine CW.ret ?_
       refine bodyA.ret1 rfl rfl ?_
       exact ⟨f + 1, rfl, near_of hft' hlo hhi' hne (on := true) (by first | exact hup | exact hup.trans hon) rfl, by omega, hch⟩
      ·
       try simp only [qs] at hc9
       have hon : (!x.neg) = false := by simpa using hc9
       refine CW.skip ?_
       refine kh58 _ _ _ ?_
       refine Sq fun _ kh64 _ kr65 => ?_
       refine Mv rfl rfl ?_
       refine As rfl rfl ?_
       refine WL.nil (kr65 _ _ _ (kh64 _ _ _ ?_))
       refine CW.ret ?_
       refine bodyA.ret1 rfl rfl ?_
       exact ⟨f, rfl, near_of hft' hlo hhi' hne (on := false) (by first | exact hup | exact hup.trans hon) rfl, by omega, hch⟩
     ·
      try simp only [qs] at hc8
      refine Sq fun _ kh66 _ kr67 => ?_
      refine WL.ev (Ev.eql rfl rfl) rfl ?_
      refine As rfl rfl ?_
      refine WL.nil (kr67 _ _ _ (kh66 _ _ _ ?_))
      refine CW.cond rfl (fun hc10 => ?_) (fun hc10 => ?_)
      ·
       try simp only [qs] at hc10
       have hmo : mode = 3 := hc10
       have hup : upM mode x.neg f A ((nz f + nz (f + 1)) * B) = x.neg := by rw [hmo, up_down]
       refine CW.region fun kR68 kr68 => ?_
       refine WL.ev (Ev.fieldAddr rfl) rfl ?_
       refine WL.ev (Ev.fieldAddr rfl) rfl ?_
       refine WL.ev (Ev.load rfl rfl (hb5.at_ rfl)) rfl ?_
       refine As rfl rfl ?_
       refine WL.nil (kr68 _ _ _ (kh30 _ _ _ ?_))
       refine CW.seq fun _ kh69 => ?_
       refine Sq fun _ kh70 _ kr71 => ?_
       refine Mv rfl rfl ?_
       refine WL.nil (kr71 _ _ _ (kh70 _ _ _ ?_))
       refine CW.cond rfl (fun hc11 => ?_) (fun hc11 => ?_)
       ·
        try simp only [qs] at hc11
        have hon : x.neg = true := by simpa using hc11
        refine CW.region fun kR72 kr72 => ?_
        refine Mv rfl rfl ?_
        first | refine WL.ev (Ev.add64In (b := 1) rfl rfl (by omega)) rfl ?_ | refine WL.ev (Ev.add64 (b := 1) rfl rfl) rfl ?_
        refine As rfl rfl ?_
        refine WL.nil (kr72 _ _ _ (kh69 _ _ _ ?_))
        refine Sq fun _ kh73 _ kr74 => ?_
        refine Mv rfl rfl ?_
        refine As rfl rfl ?_
        refine WL.nil (kr74 _ _ _ (kh73 _ _ _ ?_))
        refine CW.ret ?_
        refine bodyA.ret1 rfl rfl ?_
        exact ⟨f + 1, rfl, near_of hft' hlo hhi' hne (on := true) (by first | exact hup | exact hup.trans hon) rfl, by omega, hch⟩
       ·
        try simp only [qs] at hc11
        have hon : x.neg = false := by simpa using hc11
        refine CW.skip ?_
        refine kh69 _ _ _ ?_
        refine Sq fun _ kh75 _ kr76 => ?_
        refine Mv rfl rfl ?_
        refine As rfl rfl ?_
        refine WL.nil (kr76 _ _ _ (kh75 _ _ _ ?_))
        refine CW.ret ?_
        refine bodyA.ret1 rfl rfl ?_
        exact ⟨f, rfl, near_of hft' hlo hhi' hne (on := false) (by first | exact hup | exact hup.trans hon) rfl, by omega, hch⟩
      ·
       try simp only [qs] at hc10
       refine Sq fun _ kh77 _ kr78 => ?_
       refine WL.ev (Ev.eql rfl rfl) rfl ?_
       refine As rfl rfl ?_
       refine WL.nil (kr78 _ _ _ (kh77 _ _ _ ?_))
       refine CW.cond rfl (fun hc12 => ?_) (fun hc12 => ?_)
       ·
        try simp only [qs] at hc12
        have hmo : mode = 4 := hc12
        have hup : upM mode x.neg f A ((nz f + nz (f + 1)) * B) = decide (h ≤ 0) := by rw [← hM, hmo, up_away]; exact decide_eq_decide.2 hs1.symm
        refine CW.region fun kR79 kr79 => ?_
        refine Mv rfl rfl ?_
        refine WL.ev (Ev.leq rfl rfl) rfl ?_
        refine As rfl rfl ?_
        refine WL.nil (kr79 _ _ _ (kh30 _ _ _ ?_))
        refine CW.seq fun _ kh80 => ?_
        refine Sq fun _ kh81 _ kr82 => ?_
        refine Mv rfl rfl ?_
        refine WL.nil (kr82 _ _ _ (kh81 _ _ _ ?_))
        refine CW.cond rfl (fun hc13 => ?_) (fun hc13 => ?_)
        ·
         try simp only [qs] at hc13
         have hon : decide (h ≤ 0) = true := decide_eq_true (by have := hc13; omega)
         refine CW.region fun kR83 kr83 => ?_
         refine Mv rfl rfl ?_
         first | refine WL.ev (Ev.add64In (b := 1) rfl rfl (by omega)) rfl ?_ | refine WL.ev (Ev.add64 (b := 1) rfl rfl) rfl ?_
         refine As rfl rfl ?_
         refine WL.nil (kr83 _ _ _ (kh80 _ _ _ ?_))
         refine Sq fun _ kh84 _ kr85 => ?_
         refine Mv rfl rfl ?_
         refine As rfl rfl ?_
         refine WL.nil (kr85 _ _ _ (kh84 _ _ _ ?_))
         refine CW.ret ?_
         refine bodyA.ret1 rfl rfl ?_
         exact ⟨f + 1, rfl, near_of hft' hlo hhi' hne (on := true) (by first | exact hup | exact hup.trans hon) rfl, by omega, hch⟩
        ·
         try simp only [qs] at hc13
         have hon : decide (h ≤ 0) = false := decide_eq_false (by have := hc13; omega)
         refine CW.skip ?_
         refine kh80 _ _ _ ?_
         refine Sq fun _ kh86 _ kr87 => ?_
         refine Mv rfl rfl ?_
         refine As rfl rfl ?_
         refine WL.nil (kr87 _ _ _ (kh86 _ _ _ ?_))
         refine CW.ret ?_
         refine bodyA.ret1 rfl rfl ?_
         exact ⟨f, rfl, near_of hft' hlo hhi' hne (on := false) (by first | exact hup | exact hup.trans hon) rfl, by omega, hch⟩
       ·
        try simp only [qs] at hc12
        have hmo : mode = 1 := by omega
        have hup : upM mode x.neg f A ((nz f + nz (f + 1)) * B) = false := by rw [hmo, up_zero]
        refine CW.skip ?_
        refine kh30 _ _ _ ?_
        refine CW.seq fun _ kh88 => ?_
        refine Sq fun _ kh89 _ kr90 => ?_
        refine Mv rfl rfl ?_
        refine WL.nil (kr90 _ _ _ (kh89 _ _ _ ?_))
        refine CW.condF rfl ?_
        refine CW.skip ?_
        refine kh88 _ _ _ ?_
        refine Sq fun _ kh91 _ kr92 => ?_
        refine Mv rfl rfl ?_
        refine As rfl rfl ?_
        refine WL.nil (kr92 _ _ _ (kh91 _ _ _ ?_))
        refine CW.ret ?_
        refine bodyA.ret1 rfl rfl ?_
        exact ⟨f, rfl, near_of hft' hlo hhi' hne (on := false) (by first | exact hup | exact hup.trans hon) rfl, by omega, hch⟩

end Go.Proofs.YtphnpchmdpjabaaGreatDoor

/- Reference of layer 11: rounded, Quot. No condition. -/
namespace Go.Proofs.YtphnpchmdpjabaaGreatDoor
open Go Sx Wd

/-- What rounded answers. -/
def RdP (u : Value) (nn nd : Bool) (ln ld : Nat) (en ed mode : Int) : Prop :=
  (¬ (0 ≤ mode ∧ mode ≤ 4) ∧ u = .tuple [.int .u64 0, .bool false, .int .i64 1].toArray) ∨ ((0 ≤ mode ∧ mode ≤ 4) ∧
    ((sgD nd ld < 0 ∧ u = .tuple [.int .u64 0, .bool false, .int .i64 1].toArray) ∨ (0 ≤ sgD nd ld ∧ (formD nn ln en = none ∨ formD nd ld ed = none) ∧ u = .tuple [.int .u64 0, .bool false, .int .i64 2].toArray) ∨
     (0 ≤ sgD nd ld ∧ ∃ x y, formD nn ln en = some x ∧ formD nd ld ed = some y ∧ ((y.m = 0 ∧ u = .tuple [.int .u64 0, .bool false, .int .i64 21].toArray) ∨
       (y.m ≠ 0 ∧ ∃ r : Nat, IsNear (dyA x.m (x.e - y.e)) (y.m * dyB (x.e - y.e)) x.neg mode r ∧ r ≤ 9218868437227405312 ∧ u = .tuple [.int .u64 (r : Int), .bool x.neg, .int .i64 0].toArray)))))

set_option maxRecDepth 8000 in
set_option maxHeartbeats 2000000 in
theorem r11rounded_spec (nn nd : Bool) (vn vd : Value) (ln ld : List Nat) (en ed : Int) (mode : Int) (w : World) (hn : NU w vn ln) (hd : NU w vd ld) (hen : -9223372036854775808 ≤ en ∧ en ≤ 9223372036854775807) (hed : -9223372036854775808 ≤ ed ∧ ed ≤ 9223372036854775807) (hln : ln.length ≤ 34359738368) (hld : ld.length ≤ 34359738368) : Ret Tryz.prog 81 [.agg [.int .i64 53, .int .i64 (-1074), .int .u64 9218868437227405312].toArray, .agg [.bool nn, vn, .int .i64 en, .bool nd, vd, .int .i64 ed].toArray, .bool false, .int .i64 mode] w fun u w' => RdP u nn nd (val ln) (val ld) en ed mode ∧ Chg [] w w' := by
 have hch : Chg [] w w := Chg.refl _ _
 have hon1 := hn.one
 have hod1 := hd.one
 refine Ret.enter Tryz.func81 rfl rfl ?_
 simp only [args0, Nat.zero_add, Nat.reduceAdd]
 refine Sq fun _ kh1 _ kr2 => ?_
 refine WL.boxB rfl rfl rfl fun b4 wm4 hb4 hcm4 hge4 => ?_
 have hgehch4 := Nat.le_trans hch.size hge4
 have hch := hch.trans (Chg.any hcm4)
 have hn := hn.keep0 hcm4
 have hd := hd.keep0 hcm4
 refine WL.boxB rfl rfl rfl fun b5 wm5 hb5 hcm5 hge5 => ?_
 have hgehch5 := Nat.le_trans hch.size hge5
 have hch := hch.trans (Chg.any hcm5)
 have hn := hn.keep0 hcm5
 have hd := hd.keep0 hcm5
 have hneb45 : b4 ≠ b5 := by have := hb4.lt; omega
 have hb4 := hb4.keep0 hcm5
 refine As rfl rfl ?_
 refine As rfl rfl ?_
 refine As rfl rfl ?_
 refine WL.nil (kr2 _ _ _ (kh1 _ _ _ ?_))
 refine CW.seq fun _ kh3 => ?_
 refine CW.seqM 18 (decide (mode < 0 ∨ 4 < mode)) ?_ ?_
 ·
  refine CW.region fun kR4 kr4 => ?_
  refine Mv rfl rfl ?_
  refine WL.ev (Ev.lss rfl rfl) rfl ?_
  refine Mv rfl rfl ?_
  refine WL.boolCase (fun hg1 => ?_) (fun hg1 => ?_)
  ·
   try simp only [qs] at hg1
   refine WL.pass rfl rfl rfl rfl rfl ?_
   refine WL.pass rfl rfl rfl rfl rfl ?_
   refine WL.ev (Ev.pickT rfl rfl rfl) rfl ?_
   refine WL.nil (kr4 _ _ _ ?_)
   refine ⟨rfl, rfl, Subs.consB rfl ?_ ?_⟩
   ·
    first | (simp; omega) | (simp_all; done) | (refine decide_eq_decide.2 ?_; omega)
   ·
    first | ((repeat (first | exact Subs.refl | refine Subs.drop1 (by rfl) ?_)); done) | ((repeat (first | exact Subs.nil | refine Subs.cons rfl ?_)); done)
  ·
   try simp only [qs] at hg1
   refine WL.want rfl rfl rfl rfl ?_
   refine Mv rfl rfl ?_
   refine WL.want rfl rfl rfl rfl ?_
   refine WL.ev (Ev.gtr rfl rfl) rfl ?_
   refine WL.ev (Ev.pickF rfl rfl rfl) rfl ?_
   refine WL.nil (kr4 _ _ _ ?_)
   refine ⟨rfl, rfl, Subs.consB rfl ?_ ?_⟩
   ·
    first | (simp; omega) | (simp_all; done) | (refine decide_eq_decide.2 ?_; omega)
   ·
    first | ((repeat (first | exact Subs.refl | refine Subs.drop1 (by rfl) ?_)); done) | ((repeat (first | exact Subs.nil | refine Subs.cons rfl ?_)); done)
 ·
  refine CW.cond rfl (fun hc2 => ?_) (fun hc2 => ?_)
  ·
   try simp only [qs] at hc2
   have hm := hc2
   refine Sq fun _ kh5 _ kr6 => ?_
   refine As rfl rfl ?_
   refine As rfl rfl ?_
   refine As rfl rfl ?_
   refine WL.nil (kr6 _ _ _ (kh5 _ _ _ ?_))
   refine CW.ret ?_
   refine bodyA.ret3 rfl rfl rfl rfl ?_
   exact ⟨.inl ⟨by omega, rfl⟩, hch⟩
  ·
   try simp only [qs] at hc2
   have hm : 0 ≤ mode ∧ mode ≤ 4 := by have := hc2; omega
   refine CW.skip ?_
   refine kh3 _ _ _ ?_
   refine Sq fun _ kh7 _ kr8 => ?_
   refine WL.ev (Ev.loadA rfl rfl hb5 rfl) rfl ?_
   refine WL.buildSlice (m := 1) (cs := [.bool nn, vn, .int .i64 en, .bool nd, vd, .int .i64 ed]) (by decide) (by decide) rfl (by kernel_rfl) rfl fun b21 w21 hn21 => ?_
   have hcm21 := hn21.chg
   have hb21 : BK w21 b21 _ [.bool nn, vn, .int .i64 en, .bool nd, vd, .int .i64 ed] := hn21.at_
   have hge21 := hn21.ge
   have hch := hch.trans hcm21
   have hn := hn.keep0 hcm21
   have hd := hd.keep0 hcm21
   have hb4 := hb4.keep0 hcm21
   have hb5 := hb5.keep0 hcm21
   refine WL.call hasF127 rfl rfl (r11may_spec b21 _ _ _ _ _ _ _ _ _ hb21 hn hd hen hed hln hld) fun v w1 h' => ?_
   obtain ⟨hD, hC22⟩ := h'
   have hch := hch.trans (Chg.any hC22)
   have hb4 := hb4.keep0 hC22
   have hb5 := hb5.keep0 hC22
   have hn := hn.keep0 hC22
   have hd := hd.keep0 hC22
   rcases hD with ⟨hs, rfl⟩ | ⟨hs, hno, rfl⟩ | ⟨hs, dx, dy, hex, hey, hy0, rfl⟩ | ⟨hs, dx, dy, hex, hey, hy0, gg, cc, rx, ry, rfl, hrc, hNx, hNy⟩
   ·
    refine Mv rfl rfl ?_
    refine WL.ev (Ev.extract rfl rfl) rfl ?_
    refine WL.ev (Ev.extract rfl rfl) rfl ?_
    refine As rfl rfl ?_
    refine As rfl rfl ?_
    refine WL.nil (kr8 _ _ _ (kh7 _ _ _ ?_))
    refine CW.seq fun _ kh9 => ?_
    refine Sq fun _ kh10 _ kr11 => ?_
    refine Mv rfl rfl ?_
    refine WL.ev (Ev.neq rfl rfl) rfl ?_
    refine WL.nil (kr11 _ _ _ (kh10 _ _ _ ?_))
    refine CW.condT rfl ?_
    refine Sq fun _ kh12 _ kr13 => ?_
    refine Mv rfl rfl ?_
    refine As rfl rfl ?_
    refine As rfl rfl ?_
    refine As rfl rfl ?_
    refine WL.nil (kr13 _ _ _ (kh12 _ _ _ ?_))
    refine CW.ret ?_
    refine bodyA.ret3 rfl rfl rfl rfl ?_
    exact ⟨.inr ⟨hm, .inl ⟨hs, rfl⟩⟩, hch⟩
   ·
    refine Mv rfl rfl ?_
    refine WL.ev (Ev.extract rfl rfl) rfl ?_
    refine WL.ev (Ev.extract rfl rfl) rfl ?_
    refine As rfl rfl ?_
    refine As rfl rfl ?_
    refine WL.nil (kr8 _ _ _ (kh7 _ _ _ ?_))
    refine CW.seq fun _ kh14 => ?_
    refine Sq fun _ kh15 _ kr16 => ?_
    refine Mv rfl rfl ?_
    refine WL.ev (Ev.neq rfl rfl) rfl ?_
    refine WL.nil (kr16 _ _ _ (kh15 _ _ _ ?_))
    refine CW.condT rfl ?_
    refine Sq fun _ kh17 _ kr18 => ?_
    refine Mv rfl rfl ?_
    refine As rfl rfl ?_
    refine As rfl rfl ?_
    refine As rfl rfl ?_
    refine WL.nil (kr18 _ _ _ (kh17 _ _ _ ?_))
    refine CW.ret ?_
    refine bodyA.ret3 rfl rfl rfl rfl ?_
    exact ⟨.inr ⟨hm, .inr (.inl ⟨hs, hno, rfl⟩)⟩, hch⟩
   ·
    refine Mv rfl rfl ?_
    refine WL.ev (Ev.extract rfl rfl) rfl ?_
    refine WL.ev (Ev.extract rfl rfl) rfl ?_
    refine As rfl rfl ?_
    refine As rfl rfl ?_
    refine WL.nil (kr8 _ _ _ (kh7 _ _ _ ?_))
    refine CW.seq fun _ kh19 => ?_
    refine Sq fun _ kh20 _ kr21 => ?_
    refine Mv rfl rfl ?_
    refine WL.ev (Ev.neq rfl rfl) rfl ?_
    refine WL.nil (kr21 _ _ _ (kh20 _ _ _ ?_))
    refine CW.condT rfl ?_
    refine Sq fun _ kh22 _ kr23 => ?_
    refine Mv rfl rfl ?_
    refine As rfl rfl ?_
    refine As rfl rfl ?_
    refine As rfl rfl ?_
    refine WL.nil (kr23 _ _ _ (kh22 _ _ _ ?_))
    refine CW.ret ?_
    refine bodyA.ret3 rfl rfl rfl rfl ?_
    exact ⟨.inr ⟨hm, .inr (.inr ⟨hs, dx, dy, hex, hey, .inl ⟨hy0, rfl⟩⟩)⟩, hch⟩
   ·
    have hokx := formD_ok hex
    have hoky := formD_ok hey
    have hrl := hrc.lt (by simp [ratC])
    refine Mv rfl rfl ?_
    refine WL.ev (Ev.extract rfl rfl) rfl ?_
    refine WL.ev (Ev.extract rfl rfl) rfl ?_
    refine As rfl rfl ?_
    refine As rfl rfl ?_
    refine WL.nil (kr8 _ _ _ (kh7 _ _ _ ?_))
    refine CW.seq fun _ kh24 => ?_
    refine Sq fun _ kh25 _ kr26 => ?_
    refine Mv rfl rfl ?_
    refine WL.ev (Ev.neq rfl rfl) rfl ?_
    refine WL.nil (kr26 _ _ _ (kh25 _ _ _ ?_))
    refine CW.condF rfl ?_
    refine CW.skip ?_
    refine kh24 _ _ _ ?_
    refine CW.seq fun _ kh27 => ?_
    refine Sq fun _ kh28 _ kr29 => ?_
    refine Mv rfl rfl ?_
    refine Mv rfl rfl ?_
    refine WL.pass rfl rfl rfl rfl rfl ?_
    refine WL.pass rfl rfl rfl rfl rfl ?_
    refine WL.pass rfl rfl rfl rfl rfl ?_
    refine WL.pass rfl rfl rfl rfl rfl ?_
    refine WL.pass rfl rfl rfl rfl rfl ?_
    refine WL.ev (Ev.pickF rfl rfl rfl) rfl ?_
    refine WL.nil (kr29 _ _ _ (kh28 _ _ _ ?_))
    refine CW.condF rfl ?_
    refine CW.skip ?_
    refine kh27 _ _ _ ?_
    refine CW.seq fun _ kh30 => ?_
    refine CW.regionHC 15 rfl hmix fun kR31 kr31 hS hdr => ?_
    have hch := hch.trans (Chg.any hdr)
    have hb4 := hb4.keep0 hdr
    have hb5 := hb5.keep0 hdr
    have hn := hn.keep0 hdr
    have hd := hd.keep0 hdr
    have hrc := hrc.keep0 hdr
    have hNx := hNx.keep0 hdr
    have hNy := hNy.keep0 hdr
    have hch_r := hch
    have hb4_r := hb4
    have hb5_r := hb5
    have hrc_r := hrc
    refine WH.take 0 rfl (by kernel_rfl) (by kernel_rfl) (by kernel_rfl) hS (fun w' hw' => Ev.loadA rfl rfl (hb4_r.keep0 hw') rfl) rfl ?_
    refine WH.take 1 rfl (by kernel_rfl) (by kernel_rfl) (by kernel_rfl) hS (fun w' hw' => Ev.move rfl) rfl ?_
    refine WH.take 2 rfl (by kernel_rfl) (by kernel_rfl) (by kernel_rfl) hS (fun w' hw' => Ev.indexAddr (i := 0) rfl rfl (by decide) (by decide)) rfl ?_
    refine WH.take 3 rfl (by kernel_rfl) (by kernel_rfl) (by kernel_rfl) hS (fun w' hw' => Ev.loadAgg (cs := ratC dx dy rx ry) rfl rfl rfl (hrc_r.keep0 hw')) rfl ?_
    unfold ratC
    refine WH.take 4 rfl (by kernel_rfl) (by kernel_rfl) (by kernel_rfl) hS (fun w' hw' => Ev.move rfl) rfl ?_
    refine WH.take 5 rfl (by kernel_rfl) (by kernel_rfl) (by kernel_rfl) hS (fun w' hw' => Ev.move rfl) rfl ?_
    refine WH.take 7 rfl (by kernel_rfl) (by kernel_rfl) (by kernel_rfl) hS (fun w' hw' => Ev.move rfl) rfl ?_
    refine WH.take 8 rfl (by kernel_rfl) (by kernel_rfl) (by kernel_rfl) hS (fun w' hw' => Ev.indexAddr (i := 0) rfl rfl (by decide) (by decide)) rfl ?_
    refine WH.take 9 rfl (by kernel_rfl) (by kernel_rfl) (by kernel_rfl) hS (fun w' hw' => Ev.fieldAddr rfl) rfl ?_
    refine WH.take 10 rfl (by kernel_rfl) (by kernel_rfl) (by kernel_rfl) hS (fun w' hw' => Ev.fieldAddr rfl) rfl ?_
    refine WH.take 11 rfl (by kernel_rfl) (by kernel_rfl) (by kernel_rfl) hS (fun w' hw' => Ev.load (v := .bool dx.neg) rfl rfl ((hrc_r.keep0 hw') 0 _ rfl)) rfl ?_
    refine WH.oneCall 6 rfl (by kernel_rfl) hasF128 rfl rfl (r11Nearby_spec dx dy rx ry mode _ hm hNx hNy hokx hoky) fun v w2 h' => ?_
    obtain ⟨r, rfl, hNr, hr, hC⟩ := h'
    have hch := hch.trans (Chg.any hC)
    have hb4 := hb4.keep0 hC
    have hb5 := hb5.keep0 hC
    have hn := hn.keep0 hC
    have hd := hd.keep0 hC
    have hrc := hrc.keep0 hC
    have hNx := hNx.keep0 hC
    have hNy := hNy.keep0 hC
    have hS := hS.trans hC
    refine ⟨hS, ?_⟩
    refine WH.take 12 rfl (by kernel_rfl) (by kernel_rfl) (by kernel_rfl) hS (fun w' hw' => Ev.assign rfl) rfl ?_
    refine WH.take 13 rfl (by kernel_rfl) (by kernel_rfl) (by kernel_rfl) hS (fun w' hw' => Ev.assign rfl) rfl ?_
    refine WH.take 14 rfl (by kernel_rfl) (by kernel_rfl) (by kernel_rfl) hS (fun w' hw' => Ev.assign rfl) rfl ?_
    refine WH.done (by kernel_rfl) (kr31 _ _ _ ?_)
    refine kh30 _ _ _ ?_
    refine CW.ret ?_
    refine bodyA.ret3 rfl rfl rfl rfl ?_
    exact ⟨.inr ⟨hm, .inr (.inr ⟨hs, dx, dy, hex, hey, .inr ⟨hy0, r, hNr, hr, rfl⟩⟩)⟩, hch⟩

set_option maxRecDepth 8000 in
set_option maxHeartbeats 2000000 in
theorem r11wide64_spec (k : Nat) (neg : Bool) (e : Int) (w : World) (hk : k ≤ 9218868437227405312) : Ret Tryz.prog 83 [.int .u64 (k : Int), .bool neg, .int .i64 e] w fun u w' => u = .tuple [.float .f64 (if neg then k + 9223372036854775808 else k), .int .i64 e].toArray ∧ w = w' := by
 refine Ret.enter Tryz.func83 rfl rfl ?_
 simp only [args0, Nat.zero_add, Nat.reduceAdd]
 refine Sq fun _ kh1 _ kr2 => ?_
 refine As rfl rfl ?_
 refine As rfl rfl ?_
 refine WL.nil (kr2 _ _ _ (kh1 _ _ _ ?_))
 refine CW.seq fun _ kh3 => ?_
 refine Sq fun _ kh4 _ kr5 => ?_
 refine Mv rfl rfl ?_
 refine WL.nil (kr5 _ _ _ (kh4 _ _ _ ?_))
 refine CW.cond rfl (fun hc1 => ?_) (fun hc1 => ?_)
 ·
  try simp only [qs] at hc1
  have hng := hc1
  refine CW.region fun kR6 kr6 => ?_
  refine Mv rfl rfl ?_
  refine WL.ev (Ev.add64In (b := 9223372036854775808) rfl rfl (by omega)) rfl ?_
  refine As rfl rfl ?_
  refine WL.nil (kr6 _ _ _ (kh3 _ _ _ ?_))
  refine Sq fun _ kh7 _ kr8 => ?_
  refine Mv rfl rfl ?_
  refine WL.ev (Ev.ext rfl (ext53 _ _)) rfl ?_
  refine Mv rfl rfl ?_
  refine As rfl rfl ?_
  refine As rfl rfl ?_
  refine WL.nil (kr8 _ _ _ (kh7 _ _ _ ?_))
  refine CW.ret ?_
  refine bodyA.ret2 rfl rfl rfl ?_
  rw [if_pos hng]
  exact ⟨rfl, rfl⟩
 ·
  try simp only [qs] at hc1
  have hng := hc1
  refine CW.skip ?_
  refine kh3 _ _ _ ?_
  refine Sq fun _ kh9 _ kr10 => ?_
  refine Mv rfl rfl ?_
  refine WL.ev (Ev.ext rfl (ext53 _ _)) rfl ?_
  refine Mv rfl rfl ?_
  refine As rfl rfl ?_
  refine As rfl rfl ?_
  refine WL.nil (kr10 _ _ _ (kh9 _ _ _ ?_))
  refine CW.ret ?_
  refine bodyA.ret2 rfl rfl rfl ?_
  rw [if_neg (by rw [hng]; decide)]
  exact ⟨rfl, rfl⟩

set_option maxRecDepth 8000 in
set_option maxHeartbeats 2000000 in
theorem r11Quot_spec (nn nd : Bool) (vn vd : Value) (ln ld : List Nat) (en ed : Int) (mode : Int) (w : World) (hn : NU w vn ln) (hd : NU w vd ld) (hen : -9223372036854775808 ≤ en ∧ en ≤ 9223372036854775807) (hed : -9223372036854775808 ≤ ed ∧ ed ≤ 9223372036854775807) (hln : ln.length ≤ 34359738368) (hld : ld.length ≤ 34359738368) : Ret Tryz.prog 38 [.agg [.bool nn, vn, .int .i64 en, .bool nd, vd, .int .i64 ed].toArray, .int .i64 mode] w fun u w' => (∃ bits e, u = .tuple [.float .f64 bits, .int .i64 e].toArray ∧ QuotP nn nd (val ln) (val ld) en ed mode bits e) ∧ Chg [] w w' := by
 have hch : Chg [] w w := Chg.refl _ _
 have hon1 := hn.one
 have hod1 := hd.one
 refine Ret.enter Tryz.func38 rfl rfl ?_
 simp only [args0, Nat.zero_add, Nat.reduceAdd]
 refine Sq fun _ kh1 _ kr2 => ?_
 refine WL.boxB rfl rfl rfl fun b2 wm2 hb2 hcm2 hge2 => ?_
 have hgehch2 := Nat.le_trans hch.size hge2
 have hch := hch.trans (Chg.any hcm2)
 have hn := hn.keep0 hcm2
 have hd := hd.keep0 hcm2
 refine As rfl rfl ?_
 refine As rfl rfl ?_
 refine WL.nil (kr2 _ _ _ (kh1 _ _ _ ?_))
 refine CW.seq fun _ kh3 => ?_
 refine CW.regionHC 11 rfl hmix fun kR4 kr4 hS hdr => ?_
 have hch := hch.trans (Chg.any hdr)
 have hb2 := hb2.keep0 hdr
 have hn := hn.keep0 hdr
 have hd := hd.keep0 hdr
 have hch_r := hch
 have hb2_r := hb2
 refine WH.take 1 rfl (by kernel_rfl) (by kernel_rfl) (by kernel_rfl) hS (fun w' hw' => Ev.loadA rfl rfl (hb2_r.keep0 hw') rfl) rfl ?_
 refine WH.take 2 rfl (by kernel_rfl) (by kernel_rfl) (by kernel_rfl) hS (fun w' hw' => Ev.move rfl) rfl ?_
 refine WH.oneCall 0 rfl (by kernel_rfl) hasF82 rfl rfl (r3Of64_spec _) fun v w1 h' => ?_
 obtain ⟨rfl, hC⟩ := h'
 have hch := hch.trans (Chg.any hC)
 have hb2 := hb2.keep0 hC
 have hn := hn.keep0 hC
 have hd := hd.keep0 hC
 have hS := hS.trans hC
 refine ⟨hS, ?_⟩
 refine WH.oneCall 3 rfl (by kernel_rfl) hasF81 rfl rfl (r11rounded_spec _ _ _ _ _ _ _ _ mode _ hn hd hen hed hln hld) fun v w2 h' => ?_
 obtain ⟨hD, hC13⟩ := h'
 have hch := hch.trans (Chg.any hC13)
 have hb2 := hb2.keep0 hC13
 have hn := hn.keep0 hC13
 have hd := hd.keep0 hC13
 have hS := hS.trans hC13
 refine ⟨hS, ?_⟩
 rcases hD with ⟨hm, rfl⟩ | ⟨hm, ⟨hs, rfl⟩ | ⟨hs, hno, rfl⟩ | ⟨hs, dx, dy, hex, hey, ⟨hy0, rfl⟩ | ⟨hy0, r, hNr, hr, rfl⟩⟩⟩
 ·
  refine WH.take 4 rfl (by kernel_rfl) (by kernel_rfl) (by kernel_rfl) hS (fun w' hw' => Ev.move rfl) rfl ?_
  refine WH.take 5 rfl (by kernel_rfl) (by kernel_rfl) (by kernel_rfl) hS (fun w' hw' => Ev.extract rfl rfl) rfl ?_
  refine WH.take 6 rfl (by kernel_rfl) (by kernel_rfl) (by kernel_rfl) hS (fun w' hw' => Ev.extract rfl rfl) rfl ?_
  refine WH.take 7 rfl (by kernel_rfl) (by kernel_rfl) (by kernel_rfl) hS (fun w' hw' => Ev.extract rfl rfl) rfl ?_
  refine WH.take 8 rfl (by kernel_rfl) (by kernel_rfl) (by kernel_rfl) hS (fun w' hw' => Ev.assign rfl) rfl ?_
  refine WH.take 9 rfl (by kernel_rfl) (by kernel_rfl) (by kernel_rfl) hS (fun w' hw' => Ev.assign rfl) rfl ?_
  refine WH.take 10 rfl (by kernel_rfl) (by kernel_rfl) (by kernel_rfl) hS (fun w' hw' => Ev.assign rfl) rfl ?_
  refine WH.done (by kernel_rfl) (kr4 _ _ _ ?_)
  refine kh3 _ _ _ ?_
  refine Sq fun _ kh5 _ kr6 => ?_
  refine Mv rfl rfl ?_
  refine Mv rfl rfl ?_
  refine Mv rfl rfl ?_
  refine WL.call hasF83 rfl rfl (r11wide64_spec 0 false 1 _ (by omega)) fun v w3 h' => ?_
  obtain ⟨rfl, rfl⟩ := h'
  refine WL.ev (Ev.extract rfl rfl) rfl ?_
  refine WL.ev (Ev.extract rfl rfl) rfl ?_
  refine As rfl rfl ?_
  refine As rfl rfl ?_
  refine WL.nil (kr6 _ _ _ (kh5 _ _ _ ?_))
  refine CW.ret ?_
  refine bodyA.ret2 rfl rfl rfl ?_
  exact ⟨⟨_, _, rfl, .inl ⟨hm, rfl, rfl⟩⟩, hch⟩
 ·
  refine WH.take 4 rfl (by kernel_rfl) (by kernel_rfl) (by kernel_rfl) hS (fun w' hw' => Ev.move rfl) rfl ?_
  refine WH.take 5 rfl (by kernel_rfl) (by kernel_rfl) (by kernel_rfl) hS (fun w' hw' => Ev.extract rfl rfl) rfl ?_
  refine WH.take 6 rfl (by kernel_rfl) (by kernel_rfl) (by kernel_rfl) hS (fun w' hw' => Ev.extract rfl rfl) rfl ?_
  refine WH.take 7 rfl (by kernel_rfl) (by kernel_rfl) (by kernel_rfl) hS (fun w' hw' => Ev.extract rfl rfl) rfl ?_
  refine WH.take 8 rfl (by kernel_rfl) (by kernel_rfl) (by kernel_rfl) hS (fun w' hw' => Ev.assign rfl) rfl ?_
  refine WH.take 9 rfl (by kernel_rfl) (by kernel_rfl) (by kernel_rfl) hS (fun w' hw' => Ev.assign rfl) rfl ?_
  refine WH.take 10 rfl (by kernel_rfl) (by kernel_rfl) (by kernel_rfl) hS (fun w' hw' => Ev.assign rfl) rfl ?_
  refine WH.done (by kernel_rfl) (kr4 _ _ _ ?_)
  refine kh3 _ _ _ ?_
  refine Sq fun _ kh7 _ kr8 => ?_
  refine Mv rfl rfl ?_
  refine Mv rfl rfl ?_
  refine Mv rfl rfl ?_
  refine WL.call hasF83 rfl rfl (r11wide64_spec 0 false 1 _ (by omega)) fun v w4 h' => ?_
  obtain ⟨rfl, rfl⟩ := h'
  refine WL.ev (Ev.extract rfl rfl) rfl ?_
  refine WL.ev (Ev.extract rfl rfl) rfl ?_
  refine As rfl rfl ?_
  refine As rfl rfl ?_
  refine WL.nil (kr8 _ _ _ (kh7 _ _ _ ?_))
  refine CW.ret ?_
  refine bodyA.ret2 rfl rfl rfl ?_
  exact ⟨⟨_, _, rfl, .inr ⟨hm, .inl ⟨hs, rfl, rfl⟩⟩⟩, hch⟩
 ·
  refine WH.take 4 rfl (by kernel_rfl) (by kernel_rfl) (by kernel_rfl) hS (fun w' hw' => Ev.move rfl) rfl ?_
  refine WH.take 5 rfl (by kernel_rfl) (by kernel_rfl) (by kernel_rfl) hS (fun w' hw' => Ev.extract rfl rfl) rfl ?_
  refine WH.take 6 rfl (by kernel_rfl) (by kernel_rfl) (by kernel_rfl) hS (fun w' hw' => Ev.extract rfl rfl) rfl ?_
  refine WH.take 7 rfl (by kernel_rfl) (by kernel_rfl) (by kernel_rfl) hS (fun w' hw' => Ev.extract rfl rfl) rfl ?_
  refine WH.take 8 rfl (by kernel_rfl) (by kernel_rfl) (by kernel_rfl) hS (fun w' hw' => Ev.assign rfl) rfl ?_
  refine WH.take 9 rfl (by kernel_rfl) (by kernel_rfl) (by kernel_rfl) hS (fun w' hw' => Ev.assign rfl) rfl ?_
  refine WH.take 10 rfl (by kernel_rfl) (by kernel_rfl) (by kernel_rfl) hS (fun w' hw' => Ev.assign rfl) rfl ?_
  refine WH.done (by kernel_rfl) (kr4 _ _ _ ?_)
  refine kh3 _ _ _ ?_
  refine Sq fun _ kh9 _ kr10 => ?_
  refine Mv rfl rfl ?_
  refine Mv rfl rfl ?_
  refine Mv rfl rfl ?_
  refine WL.call hasF83 rfl rfl (r11wide64_spec 0 false 2 _ (by omega)) fun v w5 h' => ?_
  obtain ⟨rfl, rfl⟩ := h'
  refine WL.ev (Ev.extract rfl rfl) rfl ?_
  refine WL.ev (Ev.extract rfl rfl) rfl ?_
  refine As rfl rfl ?_
  refine As rfl rfl ?_
  refine WL.nil (kr10 _ _ _ (kh9 _ _ _ ?_))
  refine CW.ret ?_
  refine bodyA.ret2 rfl rfl rfl ?_
  exact ⟨⟨_, _, rfl, .inr ⟨hm, .inr (.inl ⟨hs, hno, rfl, rfl⟩)⟩⟩, hch⟩
 ·
  refine WH.take 4 rfl (by kernel_rfl) (by kernel_rfl) (by kernel_rfl) hS (fun w' hw' => Ev.move rfl) rfl ?_
  refine WH.take 5 rfl (by kernel_rfl) (by kernel_rfl) (by kernel_rfl) hS (fun w' hw' => Ev.extract rfl rfl) rfl ?_
  refine WH.take 6 rfl (by kernel_rfl) (by kernel_rfl) (by kernel_rfl) hS (fun w' hw' => Ev.extract rfl rfl) rfl ?_
  refine WH.take 7 rfl (by kernel_rfl) (by kernel_rfl) (by kernel_rfl) hS (fun w' hw' => Ev.extract rfl rfl) rfl ?_
  refine WH.take 8 rfl (by kernel_rfl) (by kernel_rfl) (by kernel_rfl) hS (fun w' hw' => Ev.assign rfl) rfl ?_
  refine WH.take 9 rfl (by kernel_rfl) (by kernel_rfl) (by kernel_rfl) hS (fun w' hw' => Ev.assign rfl) rfl ?_
  refine WH.take 10 rfl (by kernel_rfl) (by kernel_rfl) (by kernel_rfl) hS (fun w' hw' => Ev.assign rfl) rfl ?_
  refine WH.done (by kernel_rfl) (kr4 _ _ _ ?_)
  refine kh3 _ _ _ ?_
  refine Sq fun _ kh11 _ kr12 => ?_
  refine Mv rfl rfl ?_
  refine Mv rfl rfl ?_
  refine Mv rfl rfl ?_
  refine WL.call hasF83 rfl rfl (r11wide64_spec 0 false 21 _ (by omega)) fun v w6 h' => ?_
  obtain ⟨rfl, rfl⟩ := h'
  refine WL.ev (Ev.extract rfl rfl) rfl ?_
  refine WL.ev (Ev.extract rfl rfl) rfl ?_
  refine As rfl rfl ?_
  refine As rfl rfl ?_
  refine WL.nil (kr12 _ _ _ (kh11 _ _ _ ?_))
  refine CW.ret ?_
  refine bodyA.ret2 rfl rfl rfl ?_
  exact ⟨⟨_, _, rfl, .inr ⟨hm, .inr (.inr ⟨hs, dx, dy, hex, hey, .inl ⟨hy0, rfl, rfl⟩⟩)⟩⟩, hch⟩
 ·
  refine WH.take 4 rfl (by kernel_rfl) (by kernel_rfl) (by kernel_rfl) hS (fun w' hw' => Ev.move rfl) rfl ?_
  refine WH.take 5 rfl (by kernel_rfl) (by kernel_rfl) (by kernel_rfl) hS (fun w' hw' => Ev.extract rfl rfl) rfl ?_
  refine WH.take 6 rfl (by kernel_rfl) (by kernel_rfl) (by kernel_rfl) hS (fun w' hw' => Ev.extract rfl rfl) rfl ?_
  refine WH.take 7 rfl (by kernel_rfl) (by kernel_rfl) (by kernel_rfl) hS (fun w' hw' => Ev.extract rfl rfl) rfl ?_
  refine WH.take 8 rfl (by kernel_rfl) (by kernel_rfl) (by kernel_rfl) hS (fun w' hw' => Ev.assign rfl) rfl ?_
  refine WH.take 9 rfl (by kernel_rfl) (by kernel_rfl) (by kernel_rfl) hS (fun w' hw' => Ev.assign rfl) rfl ?_
  refine WH.take 10 rfl (by kernel_rfl) (by kernel_rfl) (by kernel_rfl) hS (fun w' hw' => Ev.assign rfl) rfl ?_
  refine WH.done (by kernel_rfl) (kr4 _ _ _ ?_)
  refine kh3 _ _ _ ?_
  refine Sq fun _ kh13 _ kr14 => ?_
  refine Mv rfl rfl ?_
  refine Mv rfl rfl ?_
  refine Mv rfl rfl ?_
  refine WL.call hasF83 rfl rfl (r11wide64_spec r dx.neg 0 _ (by omega)) fun v w7 h' => ?_
  obtain ⟨rfl, rfl⟩ := h'
  refine WL.ev (Ev.extract rfl rfl) rfl ?_
  refine WL.ev (Ev.extract rfl rfl) rfl ?_
  refine As rfl rfl ?_
  refine As rfl rfl ?_
  refine WL.nil (kr14 _ _ _ (kh13 _ _ _ ?_))
  refine CW.ret ?_
  refine bodyA.ret2 rfl rfl rfl ?_
  exact ⟨⟨_, _, rfl, .inr ⟨hm, .inr (.inr ⟨hs, dx, dy, hex, hey, .inr ⟨hy0, r, hNr, hr, rfl, rfl⟩⟩)⟩⟩, hch⟩

end Go.Proofs.YtphnpchmdpjabaaGreatDoor

/- Reference of layer 1: parts, classes. No condition. -/
namespace Go.Proofs.YtphnpchmdpjabaaGreatDoor
open Go Sx Wd

theorem r1Of_spec (x : Nat) (w : World) (hx : x < 18446744073709551616) : Ret Tryz.prog 61 [.int .u64 (x : Int)] w fun u w' => u = .float .f64 x ∧ w = w' := by
 refine Ret.enter Tryz.func61 rfl rfl ?_
 simp only [args0, Nat.zero_add, Nat.reduceAdd]
 refine Sq fun _ kh1 _ kr2 => ?_
 refine As rfl rfl ?_
 refine WL.nil (kr2 _ _ _ (kh1 _ _ _ ?_))
 refine Sq fun _ kh3 _ kr4 => ?_
 refine Mv rfl rfl ?_
 refine WL.ev (Ev.ext rfl (ext53 _ _)) rfl ?_
 refine As rfl rfl ?_
 refine WL.nil (kr4 _ _ _ (kh3 _ _ _ ?_))
 refine CW.ret ?_
 refine bodyA.ret1 rfl rfl ?_
 refine ⟨?_, rfl⟩
 first | rfl | simp

end Go.Proofs.YtphnpchmdpjabaaGreatDoor

/- Numbers of 64 bits as plain numbers: which are NaN, their order. No condition. -/
namespace Go.Proofs.YtphnpchmdpjabaaGreatDoor.Fl
open Go

def isNaN (b : Nat) : Bool := decide (9218868437227405312 < b % 9223372036854775808)
def canon (b : Nat) : Nat := if isNaN b then 9221120237041090560 else b
/-- The program's key. -/
def key (b : Nat) : Int := if isNaN b then 9223372036854775807 else if 9223372036854775808 ≤ b then -1 - ((b : Int) - 9223372036854775808) else b
/-- The reference's place. -/
def place (b : Nat) : Int := if 9223372036854775808 ≤ canon b then -1 - ((canon b : Int) - 9223372036854775808) else canon b
theorem double_sign : Ieee.double.signWeight = 9223372036854775808 := by decide
theorem double_inf : Ieee.double.infRung = 9218868437227405312 := by decide
theorem double_bin : Ieee.double.binade = 4503599627370496 := by decide

theorem cmp_self (x : Int) : compare x x = .eq := by simp
theorem cmpN_self (x : Nat) : compare x x = .eq := by simp
theorem order_self (b : Nat) : (FloatKind.f64.format.order b b != some .eq) = isNaN b := by
  show ((Ieee.double.read b).order (Ieee.double.read b) != some .eq) = isNaN b
  unfold Ieee.Format.read isNaN
  simp only [double_sign, double_inf, double_bin]
  split
  · rename_i h
    have h2 : decide (9218868437227405312 < b % 9223372036854775808) = false := by simp; omega
    rw [h2]
    simp [Ieee.Datum.order, cmp_self]
  · split
    · rename_i h h'
      have h2 : decide (9218868437227405312 < b % 9223372036854775808) = false := by simp; omega
      rw [h2]
      simp [Ieee.Datum.order, cmp_self]
    · split
      · rename_i h h' h3
        have h2 : decide (9218868437227405312 < b % 9223372036854775808) = false := by simp; omega
        rw [h2]
        simp [Ieee.Datum.order, cmpN_self]
      · rename_i h h' h3
        have h2 : decide (9218868437227405312 < b % 9223372036854775808) = true := by simp; omega
        rw [h2]
        simp [Ieee.Datum.order]
theorem order_self_eq (b : Nat) : (FloatKind.f64.format.order b b == some .eq) = !isNaN b := by
  rw [← order_self b]; simp [bne]

theorem signed_zero (k : Nat) : Ieee.signed false 0 k = 0 := by simp [Ieee.signed]
theorem signed_eq (s : Bool) (m k : Nat) : Ieee.signed s m k = 0 ↔ m = 0 := by
  have hp : 0 < 2 ^ k := Nat.two_pow_pos k
  have hz : m * 2 ^ k = 0 ↔ m = 0 := by
    constructor
    · intro h; rcases Nat.mul_eq_zero.1 h with h | h
      · exact h
      · omega
    · intro h; simp [h]
  unfold Ieee.signed
  rw [Nat.shiftLeft_eq]
  split <;> omega
theorem cmp_eq (x y : Int) : (some (compare x y) == some Ordering.eq) = decide (x = y) := by
  rw [Bool.eq_iff_iff]; simp
theorem order_num (s : Bool) (m : Nat) (i : Int) (j : Int) : (Ieee.Datum.order (.number s m i) (.number false 0 j) == some .eq) = decide (m = 0) := by
  unfold Ieee.Datum.order
  simp only [signed_zero]
  rw [cmp_eq, Bool.eq_iff_iff]
  simp [signed_eq]
theorem read_zero : Ieee.double.read 0 = .number false 0 Ieee.double.leastPlace := by decide
theorem order_zero (b : Nat) : (FloatKind.f64.format.order b 0 == some .eq) = decide (b % 9223372036854775808 = 0) := by
  show ((Ieee.double.read b).order (Ieee.double.read 0) == some .eq) = _
  rw [read_zero]
  unfold Ieee.Format.read
  simp only [double_sign, double_inf, double_bin]
  split
  · rw [order_num]
  · split
    · rename_i h h'
      rw [order_num, Bool.eq_iff_iff]
      simp; omega
    · split
      · rename_i h h' h3
        have h2 : decide (b % 9223372036854775808 = 0) = false := by simp; omega
        rw [h2]
        simp only [Ieee.Datum.order]
        split <;> rfl
      · rename_i h h' h3
        have h2 : decide (b % 9223372036854775808 = 0) = false := by simp; omega
        rw [h2]
        rfl
end Go.Proofs.YtphnpchmdpjabaaGreatDoor.Fl

/- Numbers as the machine's: a number less itself; which are finite. No condition. -/
namespace Go.Proofs.YtphnpchmdpjabaaGreatDoor
open Go Sx Wd

theorem cls_le2 (x : Nat) : (splitP x).cls ≤ 2 ↔ x % 9223372036854775808 < 9218868437227405312 := by
  have e : x % 9223372036854775808 < 9218868437227405312 ↔ x / 4503599627370496 % 2048 ≠ 2047 := by omega
  rw [e]
  unfold splitP
  split
  · rename_i h; simp; exact h.1
  · split
    · rename_i h1 h; simp; exact h
    · split
      · rename_i h2 h1 h; simp; exact h1
      · split
        · rename_i h2 h1 h; simp; exact h2
        · rename_i h2 h1 h; simp; exact h2
theorem signed_opp (s : Bool) (m k : Nat) : Ieee.signed s m k + Ieee.signed (!s) m k = 0 := by
  unfold Ieee.signed
  cases s <;> simp <;> omega
theorem sub_self_fin {b : Nat} (h : b % 9223372036854775808 < 9218868437227405312) : Ieee.double.sub b b = some 0 := by
  unfold Ieee.Format.sub Ieee.Format.read
  simp only [Fl.double_sign, Fl.double_inf, Fl.double_bin]
  have key : ∀ (s : Bool) (m : Nat) (i : Int), Option.map Ieee.double.write ((Ieee.Datum.number s m i).sum (Ieee.Datum.number s m i).opposite) = some 0 := by
    intro s m i
    unfold Ieee.Datum.opposite Ieee.Datum.sum
    simp only [Int.min_self, Int.sub_self, Int.toNat_zero, signed_opp, if_true, Int.natAbs_zero, Option.map_some]
    cases s <;> rfl
  split
  · exact key ..
  · exact key ..
theorem sub_self_not {b : Nat} (h : ¬ b % 9223372036854775808 < 9218868437227405312) : Ieee.double.sub b b = none := by
  unfold Ieee.Format.sub Ieee.Format.read
  simp only [Fl.double_sign, Fl.double_inf, Fl.double_bin]
  rw [if_neg (by omega), if_neg h]
  split
  · unfold Ieee.Datum.opposite Ieee.Datum.sum
    generalize (b / 9223372036854775808 % 2 == 1) = s
    cases s <;> rfl
  · rfl
/-- The bits that are drawn for a NaN are a NaN's. -/
theorem nan_form (x y t : Nat) : ∃ p q, p ≤ 1 ∧ q < 4503599627370495 ∧ (Question.nanBits .f64 x y).cut t = p * 9223372036854775808 + 9218868437227405312 + 1 + q :=
  ⟨t % 2, t / 2 % 4503599627370495, by omega, Nat.mod_lt _ (by decide), rfl⟩
theorem nan_cut (x y t : Nat) : Fl.isNaN ((Question.nanBits .f64 x y).cut t) = true := by
  obtain ⟨p, q, h1, h2, e⟩ := nan_form x y t
  rw [e]
  unfold Fl.isNaN
  simp only [decide_eq_true_eq]
  omega
theorem nan_lt (x y t : Nat) : (Question.nanBits .f64 x y).cut t < 18446744073709551616 := by
  obtain ⟨p, q, h1, h2, e⟩ := nan_form x y t
  rw [e]; omega
theorem order_nan {b : Nat} (h : Fl.isNaN b = true) : (FloatKind.f64.format.order b 0 == some .eq) = false := by
  rw [Fl.order_zero]
  unfold Fl.isNaN at h
  simp only [decide_eq_true_eq] at h
  simp; omega
section
variable {P : Program} {n : Nat} {D : List Deferred} {s : Sl} {w : World} {ops : Array Oper} {K : KK} {rest : List Oper} {ty : TypeId} {pos : String} {af : Array Edge} {d : Nat} {x y : Operand}
theorem ev_fsubSelf {t t' : TypeId} {b : Nat} (hx : opnd s x = some (.float .f64 b)) (hy : opnd s y = some (.float .f64 b)) :
    ∃ r w', Ev P s (.binOp .sub t x y t') ty w (.float .f64 r) w' ∧ Chg [] w w' ∧ r < 18446744073709551616 ∧ (FloatKind.f64.format.order r 0 == some .eq) = decide ((splitP b).cls ≤ 2) := by
  by_cases h : b % 9223372036854775808 < 9218868437227405312
  · refine ⟨0, w, run_bin hx hy (fun x y => eqGuard_float ..) ?_, Chg.refl _ _, by decide, ?_⟩
    · simp [binOp, Op.floatArith, show FloatKind.f64.format.sub b b = some 0 from sub_self_fin h]
    · rw [decide_eq_true ((cls_le2 b).2 h), Fl.order_zero]; decide
  · refine ⟨(Question.nanBits .f64 b b).cut (w.tape w.drawn (.nanBits .f64 b b)), w.drew, fun ρ d' pos af g hρ => ?_, Chg.drew _ _, nan_lt _ _ _, ?_⟩
    · have e1 := hρ x _ hx
      have e2 := hρ y _ hy
      simp [execOp, e1, e2, eqGuard_float, binOp, Op.floatArith, show FloatKind.f64.format.sub b b = none from sub_self_not h, Question.forced]
      try rfl
    · rw [order_nan (nan_cut _ _ _), decide_eq_false (fun hh => h ((cls_le2 b).1 hh))]
theorem WL.fsubSelf {t t' : TypeId} {b : Nat} (hx : opnd s x = some (.float .f64 b)) (hy : opnd s y = some (.float .f64 b)) (hd : Nat.blt d n = true)
    (k : ∀ r w', Chg [] w w' → r < 18446744073709551616 → (FloatKind.f64.format.order r 0 == some .eq) = decide ((splitP b).cls ≤ 2) → WL P ops K rest n D ((d, .float .f64 r) :: s) w') : WL P ops K (⟨some d, .binOp .sub t x y t', ty, pos, af, none⟩ :: rest) n D s w := by
  obtain ⟨r, w', he, hc, h1, h2⟩ := ev_fsubSelf (P := P) (ty := ty) (w := w) (t := t) (t' := t') hx hy
  exact WL.ev he hd (k r w' hc h1 h2)
end
end Go.Proofs.YtphnpchmdpjabaaGreatDoor

/- Package mean: finite. No condition. -/
namespace Go.Proofs.YtphnpchmdpjabaaGreatDoor
open Go Sx Wd
set_option exponentiation.threshold 5000

def finL (l : List Nat) : Prop := ∀ x ∈ l, (splitP x).cls ≤ 2
instance (l : List Nat) : Decidable (finL l) := by unfold finL; exact inferInstance
theorem finL_step {l : List Nat} {i : Nat} (h : i < l.length) : finL (l.take (i + 1)) ↔ finL (l.take i) ∧ (splitP (l.getD i 0)).cls ≤ 2 := by
  rw [take_step h]
  unfold finL
  constructor
  · intro hh; exact ⟨fun x hx => hh x (List.mem_append_left _ hx), hh _ (by simp)⟩
  · rintro ⟨h1, h2⟩ x hx
    rcases List.mem_append.1 hx with q | q
    · exact h1 x q
    · simp at q; rw [q]; exact h2
theorem finL_take {l : List Nat} {i : Nat} (h : finL l) : finL (l.take i) := fun x hx => h x (List.mem_of_mem_take hx)

theorem finite1_spec (x : Nat) (w : World) : Ret Tryz.prog 107 [.float .f64 x] w fun u w' => u = .bool (!decide ((splitP x).cls ≤ 2)) ∧ Chg [] w w' := by
 have hch : Chg [] w w := Chg.refl _ _
 refine Ret.enter Tryz.func107 rfl rfl ?_
 simp only [args0, Nat.zero_add, Nat.reduceAdd]
 refine Sq fun _ kh1 _ kr2 => ?_
 refine As rfl rfl ?_
 refine WL.nil (kr2 _ _ _ (kh1 _ _ _ ?_))
 refine Sq fun _ kh3 _ kr4 => ?_
 refine Mv rfl rfl ?_
 refine Mv rfl rfl ?_
 refine WL.fsubSelf rfl rfl rfl fun r5 w5 hc5 hr5 ho5 => ?_
 have hch := hch.trans hc5
 refine WL.ev (Ev.fneq rfl rfl) rfl ?_
 refine As rfl rfl ?_
 refine WL.nil (kr4 _ _ _ (kh3 _ _ _ ?_))
 refine CW.ret ?_
 refine bodyA.ret1 rfl rfl ?_
 refine ⟨?_, hch⟩
 rw [← ho5]; rfl

structure KIx (l : List Nat) (w0 : World) (i : Nat) (w : World) : Prop where
  hi : i ≤ l.length
  f : finL (l.take i)
  ch : Chg [] w0 w

set_option maxRecDepth 8000 in
theorem IndexFunc_spec (v : Value) (l : List Nat) (w : World) (hv : NF w v l) : Ret Tryz.prog 135 [v, .func (.func 107) #[] #[]] w fun u w' => (∃ r : Int, u = .int .i64 r ∧ (0 ≤ r ↔ ¬ finL l)) ∧ Chg [] w w' := by
 obtain ⟨⟨al, cl, rfl, hcap, hrl⟩, hWl, hll⟩ := hv
 have hch : Chg [] w w := Chg.refl _ _
 refine Ret.enter Tryz.func135 rfl rfl ?_
 simp only [args0, Nat.zero_add, Nat.reduceAdd]
 refine Sq fun _ kh1 _ kr2 => ?_
 refine As rfl rfl ?_
 refine WL.nil (kr2 _ _ _ (kh1 _ _ _ ?_))
 refine CW.seq fun _ kh3 => ?_
 refine Sq fun _ kh4 _ kr5 => ?_
 refine Mv rfl rfl ?_
 refine WL.ev (Ev.len rfl) rfl ?_
 refine Mv rfl rfl ?_
 refine WL.nil (kr5 _ _ _ (kh4 _ _ _ ?_))
 refine CW.block ?_
 refine CW.loop (S := fun i : Nat => [(0, .slice al l.length cl), (1, .func (.func 107) #[] #[]), (7, .int .i64 (l.length : Int)), (8, .int .i64 (i : Int))]) (Inv := KIx l w) (mu := fun i => l.length - i) (0) ?_ ?_ ?_
 ·
  exact ⟨Nat.zero_le _, fun x hx => (by simp at hx), hch⟩
 ·
  repeat (first | exact Subs.nil | refine Subs.cons rfl ?_ | refine Subs.consI rfl (by omega) ?_)
 ·
  rintro i wr ⟨hi, hf, hch⟩
  refine Sq fun _ kh6 _ kr7 => ?_
  refine WL.ev (Ev.lss rfl rfl) rfl ?_
  refine WL.nil (kr7 _ _ _ (kh6 _ _ _ ?_))
  refine CW.seq fun _ kh8 => ?_
  refine CW.cond rfl (fun hc1 => ?_) (fun hc1 => ?_)
  ·
   try simp only [qs] at hc1
   have hst := finL_step (l := l) (i := i) (by omega)
   refine CW.skip ?_
   refine kh8 _ _ _ ?_
   refine CW.seq fun _ kh9 => ?_
   refine CW.block ?_
   refine Sq fun _ kh10 _ kr11 => ?_
   refine Mv rfl rfl ?_
   refine As rfl rfl ?_
   refine WL.nil (kr11 _ _ _ (kh10 _ _ _ ?_))
   refine Sq fun _ kh12 _ kr13 => ?_
   refine Mv rfl rfl ?_
   refine Mv rfl rfl ?_
   refine Mv rfl rfl ?_
   refine WL.ev (Ev.ixR (i) rfl rfl (hrl.keep0 hch) (by omega) (by omega) (by simp; omega)) rfl ?_
   refine WL.ev (Ev.load rfl rfl ((hrl.keep0 hch).f64 (by first | omega | (simp; omega)))) rfl ?_
   refine WL.callV (cap := []) hasF107 rfl rfl rfl (by rw [List.append_nil]; exact finite1_spec (l.getD i 0) _) fun v16 w16 h16 => ?_
   obtain ⟨rfl, hC16⟩ := h16
   have hch := hch.trans hC16
   refine WL.nil (kr13 _ _ _ (kh12 _ _ _ ?_))
   refine CW.cond rfl (fun hc2 => ?_) (fun hc2 => ?_)
   ·
    try simp only [qs] at hc2
    have hfx : ¬ (splitP (l.getD i 0)).cls ≤ 2 := by simpa using hc2
    refine Sq fun _ kh14 _ kr15 => ?_
    refine Mv rfl rfl ?_
    refine As rfl rfl ?_
    refine WL.nil (kr15 _ _ _ (kh14 _ _ _ ?_))
    refine CW.ret ?_
    refine bodyA.ret1 rfl rfl ?_
    refine ⟨⟨_, rfl, ⟨fun _ h => hfx (hst.1 (finL_take h)).2, fun _ => by omega⟩⟩, hch⟩
   ·
    try simp only [qs] at hc2
    have hfx : (splitP (l.getD i 0)).cls ≤ 2 := by simpa using hc2
    refine CW.skip ?_
    refine kh9 _ _ _ ?_
    refine CW.region fun kR16 kr16 => ?_
    first | refine WL.ev (Ev.addIn rfl rfl (by omega)) rfl ?_ | refine WL.ev (Ev.add rfl rfl) rfl ?_
    refine Mv rfl rfl ?_
    refine WL.nil (kr16 _ _ _ ?_)
    refine ⟨rfl, i + 1, ?_, ?_, ?_⟩
    ·
     repeat (first | exact Subs.nil | refine Subs.cons rfl ?_ | refine Subs.consI rfl (by omega) ?_)
    ·
     exact ⟨by omega, hst.2 ⟨hf, hfx⟩, hch⟩
    ·
     omega
  ·
   try simp only [qs] at hc1
   have hiX : i = l.length := by omega
   subst hiX
   rw [List.take_length] at hf
   refine CW.exit ?_
   refine kh3 _ _ _ ?_
   refine Sq fun _ kh17 _ kr18 => ?_
   refine As rfl rfl ?_
   refine WL.nil (kr18 _ _ _ (kh17 _ _ _ ?_))
   refine CW.ret ?_
   refine bodyA.ret1 rfl rfl ?_
   exact ⟨⟨_, rfl, ⟨fun h => absurd h (by decide), fun h => absurd hf h⟩⟩, hch⟩

theorem ContainsFunc_spec (v : Value) (l : List Nat) (w : World) (hv : NF w v l) : Ret Tryz.prog 106 [v, .func (.func 107) #[] #[]] w fun u w' => u = .bool (!decide (finL l)) ∧ Chg [] w w' := by
 have hch : Chg [] w w := Chg.refl _ _
 refine Ret.enter Tryz.func106 rfl rfl ?_
 simp only [args0, Nat.zero_add, Nat.reduceAdd]
 refine Sq fun _ kh1 _ kr2 => ?_
 refine As rfl rfl ?_
 refine WL.nil (kr2 _ _ _ (kh1 _ _ _ ?_))
 refine Sq fun _ kh3 _ kr4 => ?_
 refine Mv rfl rfl ?_
 refine Mv rfl rfl ?_
 refine WL.call hasF135 rfl rfl (IndexFunc_spec v l _ hv) fun v w1 h' => ?_
 obtain ⟨⟨r, rfl, hr⟩, hC7⟩ := h'
 have hch := hch.trans (Chg.any hC7)
 refine WL.ev (Ev.geq rfl rfl) rfl ?_
 refine As rfl rfl ?_
 refine WL.nil (kr4 _ _ _ (kh3 _ _ _ ?_))
 refine CW.ret ?_
 refine bodyA.ret1 rfl rfl ?_
 refine ⟨?_, hch⟩
 rw [← decide_not]
 exact congrArg Value.bool (decide_eq_decide.2 hr)

theorem mfinite_spec (v : Value) (l : List Nat) (w : World) (hv : NF w v l) : Ret Tryz.prog 62 [v] w fun u w' => u = .bool (decide (finL l)) ∧ Chg [] w w' := by
 have hch : Chg [] w w := Chg.refl _ _
 refine Ret.enter Tryz.func62 rfl rfl ?_
 simp only [args0, Nat.zero_add, Nat.reduceAdd]
 refine Sq fun _ kh1 _ kr2 => ?_
 refine As rfl rfl ?_
 refine WL.nil (kr2 _ _ _ (kh1 _ _ _ ?_))
 refine Sq fun _ kh3 _ kr4 => ?_
 refine Mv rfl rfl ?_
 refine WL.call hasF106 rfl rfl (ContainsFunc_spec v l _ hv) fun v w1 h' => ?_
 obtain ⟨rfl, hC4⟩ := h'
 have hch := hch.trans (Chg.any hC4)
 refine WL.ev (Ev.not rfl) rfl ?_
 refine As rfl rfl ?_
 refine WL.nil (kr4 _ _ _ (kh3 _ _ _ ?_))
 refine CW.ret ?_
 refine bodyA.ret1 rfl rfl ?_
 refine ⟨?_, hch⟩
 rw [Bool.not_not]

end Go.Proofs.YtphnpchmdpjabaaGreatDoor

/- Package mean: Weighted. No condition. -/
namespace Go.Proofs.YtphnpchmdpjabaaGreatDoor
open Go Sx Wd
set_option exponentiation.threshold 5000

theorem sumD_zero : sumD 0 = Dy.zero := rfl
theorem sumD_form {S : Int} (h1 : -((16384 * BB : Nat) : Int) < S) (h2 : S < (16384 * BB : Nat)) (h0 : S ≠ 0) : sumD S = ⟨decide (S < 0), S.natAbs / 2 ^ tz S.natAbs, -2148 + tz S.natAbs⟩ := by
  unfold sumD
  rw [sumD_eq h1 h2, if_neg h0]; rfl
theorem sumD_m0 {S : Int} (h1 : -((16384 * BB : Nat) : Int) < S) (h2 : S < (16384 * BB : Nat)) : (sumD S).m = 0 ↔ S = 0 := by
  constructor
  · intro h
    apply Classical.byContradiction
    intro h0
    rw [sumD_form h1 h2 h0] at h
    have := (tz_spec (n := S.natAbs) (by omega)).1
    simp only at h
    rw [h] at this; cases this
  · intro h; rw [h]; rfl
theorem sumD_sg {S : Int} (h1 : -((16384 * BB : Nat) : Int) < S) (h2 : S < (16384 * BB : Nat)) : sgD (sumD S).neg (sumD S).m = if S < 0 then -1 else if S = 0 then 0 else 1 := by
  by_cases h0 : S = 0
  · subst h0; rfl
  · have hm : (sumD S).m ≠ 0 := fun e => h0 ((sumD_m0 h1 h2).1 e)
    unfold sgD
    rw [if_neg hm, sumD_form h1 h2 h0]
    by_cases h : S < 0
    · simp [h]
    · simp [h, h0]
theorem sumD_neg {S : Int} (h1 : -((16384 * BB : Nat) : Int) < S) (h2 : S < (16384 * BB : Nat)) : negD (formD (!(sumD S).neg) (sumD S).m (sumD S).e) = sumD (-S) := by
  by_cases h0 : S = 0
  · subst h0; rfl
  · have hok := sumD_ok h1 h2
    have h3 := formD_self hok
    have hm : (sumD S).m ≠ 0 := fun e => h0 ((sumD_m0 h1 h2).1 e)
    rw [sumD_form (S := -S) (by omega) (by omega) (by omega), Int.natAbs_neg]
    unfold formD at h3 ⊢
    rw [if_neg hm] at h3 ⊢
    unfold negD
    split at h3
    · cases h3
    · rename_i hq
      rw [if_neg hq]
      have h4 := Option.some.inj h3
      have h5 := congrArg Dy.m h4
      have h6 := congrArg Dy.e h4
      simp only at h5 h6
      show (⟨!(sumD S).neg, (sumD S).m / 2 ^ tz (sumD S).m, (sumD S).e + tz (sumD S).m⟩ : Dy) = _
      rw [h5, h6, sumD_form h1 h2 h0]
      have : (!decide (S < 0)) = decide (-S < 0) := by
        by_cases q : S < 0
        · rw [decide_eq_true q, decide_eq_false (by omega)]; rfl
        · rw [decide_eq_false q, decide_eq_true (by omega)]; rfl
      rw [this]
def QuoD (N W : Int) (mode : Int) (bits : Nat) (e : Int) : Prop := QuotP (sumD N).neg (sumD W).neg (sumD N).m (sumD W).m (sumD N).e (sumD W).e mode bits e
/-- What Weighted answers. -/
def wtR (l k : List Nat) (mode : Int) (bits : Nat) (e : Int) : Prop :=
  (¬ (0 ≤ mode ∧ mode ≤ 4) ∧ bits = 0 ∧ e = 1) ∨ ((0 ≤ mode ∧ mode ≤ 4) ∧
    (((65536 < l.length ∨ 65536 < k.length) ∧ bits = 0 ∧ e = 2) ∨ (¬ (65536 < l.length ∨ 65536 < k.length) ∧
      ((l.length ≠ k.length ∧ bits = 0 ∧ e = 4) ∨ (l.length = k.length ∧
        ((¬ (finL l ∧ finL k) ∧ bits = 0 ∧ e = 30) ∨ ((finL l ∧ finL k) ∧
          ((l = [] ∧ bits = 0 ∧ e = 3) ∨ (l ≠ [] ∧ QuoD (if sumI k < 0 then -sumP l k else sumP l k) (if sumI k < 0 then -sumI k else sumI k) mode bits e)))))))))
structure KWt (l k : List Nat) (b b6 b7 : Nat) (w0 : World) (g : Nat × List Nat × SP) (w : World) : Prop where
  hi : g.1 ≤ l.length
  hB : TB w b 107 g.2.1 g.2.2.cells
  hr : Rep g.2.1 (sumP (l.take g.1) (k.take g.1))
  hs : g.2.2.le g.1
  h6 : BK w b6 28 [.float .f64 0]
  h7 : BK w b7 29 [.int .i64 0]
  ch : Chg [] w0 w

set_option maxRecDepth 8000 in
set_option maxHeartbeats 2000000 in
theorem Weighted_spec (v1 v2 : Value) (l k : List Nat) (mode : Int) (w : World) (hv : NF w v1 l) (hk : NF w v2 k) (hg : GW w) : Ret Tryz.prog 25 [v1, v2, .int .i64 mode] w fun u w' => (∃ bits e, u = .tuple [.float .f64 bits, .int .i64 e].toArray ∧ wtR l k mode bits e) ∧ Chg [] w w' := by
 have hch : Chg [] w w := Chg.refl _ _
 have hv0 := hv
 have hk0 := hk
 obtain ⟨⟨al, cl, rfl, hcapl, hrl⟩, hWl, hll⟩ := hv
 obtain ⟨⟨ak, ck, rfl, hcapk, hrk⟩, hWk, hlk⟩ := hk
 have hg0 := hg
 refine Ret.enterD 31 hasF31 Tryz.func25 rfl rfl ?_
 simp only [args0, Nat.zero_add, Nat.reduceAdd]
 refine Sq fun _ kh1 _ kr2 => ?_
 refine WL.allocB (l := [.float .f64 0]) rfl rfl fun b6 wm6 hb6 hcm6 hge6 => ?_
 have hgehch6 := Nat.le_trans hch.size hge6
 have hch := hch.trans (Chg.any hcm6)
 refine WL.allocB (l := [.int .i64 0]) rfl rfl fun b7 wm7 hb7 hcm7 hge7 => ?_
 have hgehch7 := Nat.le_trans hch.size hge7
 have hch := hch.trans (Chg.any hcm7)
 have hneb67 : b6 ≠ b7 := by have := hb6.lt; omega
 have hb6 := hb6.keep0 hcm7
 refine WL.nil (kr2 _ _ _ (kh1 _ _ _ ?_))
 refine Sq fun _ kh3 _ kr4 => ?_
 refine WL.defer rfl ?_
 refine WL.nil (kr4 _ _ _ (kh3 _ _ _ ?_))
 refine CW.seq fun _ kh5 => ?_
 refine CW.block ?_
 refine Sq fun _ kh6 _ kr7 => ?_
 refine Mv rfl rfl ?_
 refine WL.call hasF32 rfl rfl (right_spec mode _) fun v w1 h' => ?_
 obtain ⟨rfl, rfl⟩ := h'
 refine WL.ev (Ev.not rfl) rfl ?_
 refine As rfl rfl ?_
 refine WL.nil (kr7 _ _ _ (kh6 _ _ _ ?_))
 refine CW.cond rfl (fun hc1 => ?_) (fun hc1 => ?_)
 ·
  try simp only [qs] at hc1
  have hmode : ¬ (0 ≤ mode ∧ mode ≤ 4) := by simpa using hc1
  refine Sq fun _ kh8 _ kr9 => ?_
  refine WL.storeC rfl rfl (by first | rfl | assumption | exact NU.one (by assumption)) hb6 (by simp) rfl fun ws16 hb6_ hcs16 => ?_
  try simp only [Sx.splice, qt] at hb6_
  have hch := hch.s1 hcs16
  have hb7 := hb7.keep hcs16 (by simp; omega)
  have hb6 := hb6_
  refine WL.storeC rfl rfl (by first | rfl | assumption | exact NU.one (by assumption)) hb7 (by simp) rfl fun ws17 hb7_ hcs17 => ?_
  try simp only [Sx.splice, qt] at hb7_
  have hch := hch.s1 hcs17
  have hb6 := hb6.keep hcs17 (by simp; omega)
  have hb7 := hb7_
  refine WL.nil (kr9 _ _ _ (kh8 _ _ _ ?_))
  refine CW.ret ?_
  refine clean_door rfl rfl rfl hb6 hb7 hneb67 fun w9 hc9 => ?_
  have hch := hch.step hc9 (fun y hy => by simp only [List.mem_singleton] at hy; subst hy; exact .inr (by omega))
  exact ⟨⟨_, _, rfl, .inl ⟨hmode, rfl, rfl⟩⟩, hch⟩
 ·
  try simp only [qs] at hc1
  have hmode : 0 ≤ mode ∧ mode ≤ 4 := by simpa using hc1
  refine CW.seqM 15 (decide (65536 < l.length ∨ 65536 < k.length)) ?_ ?_
  ·
   refine CW.region fun kR10 kr10 => ?_
   refine Mv rfl rfl ?_
   refine WL.ev (Ev.len rfl) rfl ?_
   refine WL.ev (Ev.gtr rfl rfl) rfl ?_
   refine Mv rfl rfl ?_
   refine WL.boolCase (fun hg2 => ?_) (fun hg2 => ?_)
   ·
    try simp only [qs] at hg2
    refine WL.pass rfl rfl rfl rfl rfl ?_
    refine WL.pass rfl rfl rfl rfl rfl ?_
    refine WL.pass rfl rfl rfl rfl rfl ?_
    refine WL.ev (Ev.pickT rfl rfl rfl) rfl ?_
    refine As rfl rfl ?_
    refine WL.nil (kr10 _ _ _ ?_)
    refine ⟨rfl, rfl, Subs.consB rfl ?_ ?_⟩
    ·
     first | (simp; omega) | (refine decide_eq_decide.2 ?_; omega)
    ·
     first | ((repeat (first | exact Subs.refl | refine Subs.drop1 (by rfl) ?_)); done) | ((repeat (first | exact Subs.nil | refine Subs.cons rfl ?_)); done)
   ·
    try simp only [qs] at hg2
    refine WL.want rfl rfl rfl rfl ?_
    refine Mv rfl rfl ?_
    refine WL.want rfl rfl rfl rfl ?_
    refine WL.ev (Ev.len rfl) rfl ?_
    refine WL.want rfl rfl rfl rfl ?_
    refine WL.ev (Ev.gtr rfl rfl) rfl ?_
    refine WL.ev (Ev.pickF rfl rfl rfl) rfl ?_
    refine As rfl rfl ?_
    refine WL.nil (kr10 _ _ _ ?_)
    refine ⟨rfl, rfl, Subs.consB rfl ?_ ?_⟩
    ·
     first | (simp; omega) | (refine decide_eq_decide.2 ?_; omega)
    ·
     first | ((repeat (first | exact Subs.refl | refine Subs.drop1 (by rfl) ?_)); done) | ((repeat (first | exact Subs.nil | refine Subs.cons rfl ?_)); done)
  ·
   refine CW.cond rfl (fun hc3 => ?_) (fun hc3 => ?_)
   ·
    try simp only [qs] at hc3
    have hlong : 65536 < l.length ∨ 65536 < k.length := hc3
    refine Sq fun _ kh11 _ kr12 => ?_
    refine WL.storeC rfl rfl (by first | rfl | assumption | exact NU.one (by assumption)) hb6 (by simp) rfl fun ws18 hb6_ hcs18 => ?_
    try simp only [Sx.splice, qt] at hb6_
    have hch := hch.s1 hcs18
    have hb7 := hb7.keep hcs18 (by simp; omega)
    have hb6 := hb6_
    refine WL.storeC rfl rfl (by first | rfl | assumption | exact NU.one (by assumption)) hb7 (by simp) rfl fun ws19 hb7_ hcs19 => ?_
    try simp only [Sx.splice, qt] at hb7_
    have hch := hch.s1 hcs19
    have hb6 := hb6.keep hcs19 (by simp; omega)
    have hb7 := hb7_
    refine WL.nil (kr12 _ _ _ (kh11 _ _ _ ?_))
    refine CW.ret ?_
    refine clean_door rfl rfl rfl hb6 hb7 hneb67 fun w9 hc9 => ?_
    have hch := hch.step hc9 (fun y hy => by simp only [List.mem_singleton] at hy; subst hy; exact .inr (by omega))
    exact ⟨⟨_, _, rfl, .inr ⟨hmode, .inl ⟨hlong, rfl, rfl⟩⟩⟩, hch⟩
   ·
    try simp only [qs] at hc3
    have hlong : ¬ (65536 < l.length ∨ 65536 < k.length) := by have := hc3; omega
    refine Sq fun _ kh13 _ kr14 => ?_
    refine Mv rfl rfl ?_
    refine WL.ev (Ev.len rfl) rfl ?_
    refine Mv rfl rfl ?_
    refine WL.ev (Ev.len rfl) rfl ?_
    refine WL.ev (Ev.neq rfl rfl) rfl ?_
    refine As rfl rfl ?_
    refine WL.nil (kr14 _ _ _ (kh13 _ _ _ ?_))
    refine CW.cond rfl (fun hc4 => ?_) (fun hc4 => ?_)
    ·
     try simp only [qs] at hc4
     have hlen : l.length ≠ k.length := by omega
     refine Sq fun _ kh15 _ kr16 => ?_
     refine WL.storeC rfl rfl (by first | rfl | assumption | exact NU.one (by assumption)) hb6 (by simp) rfl fun ws20 hb6_ hcs20 => ?_
     try simp only [Sx.splice, qt] at hb6_
     have hch := hch.s1 hcs20
     have hb7 := hb7.keep hcs20 (by simp; omega)
     have hb6 := hb6_
     refine WL.storeC rfl rfl (by first | rfl | assumption | exact NU.one (by assumption)) hb7 (by simp) rfl fun ws21 hb7_ hcs21 => ?_
     try simp only [Sx.splice, qt] at hb7_
     have hch := hch.s1 hcs21
     have hb6 := hb6.keep hcs21 (by simp; omega)
     have hb7 := hb7_
     refine WL.nil (kr16 _ _ _ (kh15 _ _ _ ?_))
     refine CW.ret ?_
     refine clean_door rfl rfl rfl hb6 hb7 hneb67 fun w9 hc9 => ?_
     have hch := hch.step hc9 (fun y hy => by simp only [List.mem_singleton] at hy; subst hy; exact .inr (by omega))
     exact ⟨⟨_, _, rfl, .inr ⟨hmode, .inr ⟨hlong, .inl ⟨hlen, rfl, rfl⟩⟩⟩⟩, hch⟩
    ·
     try simp only [qs] at hc4
     have hlen : l.length = k.length := by omega
     refine Sq fun _ kh17 _ kr18 => ?_
     refine Mv rfl rfl ?_
     refine WL.call hasF62 rfl rfl (mfinite_spec _ l _ (hv0.keep0 hch)) fun v w2 h' => ?_
     obtain ⟨rfl, hC32⟩ := h'
     have hch := hch.trans (Chg.any hC32)
     have hb6 := hb6.keep0 hC32
     have hb7 := hb7.keep0 hC32
     refine WL.ev (Ev.not rfl) rfl ?_
     refine Mv rfl rfl ?_
     refine WL.boolCase (fun hg5 => ?_) (fun hg5 => ?_)
     ·
      try simp only [qs] at hg5
      have hf1 : ¬ finL l := by simpa using hg5
      refine WL.pass rfl rfl rfl rfl rfl ?_
      refine WL.pass rfl rfl rfl rfl rfl ?_
      refine WL.pass rfl rfl rfl rfl rfl ?_
      refine WL.ev (Ev.pickT rfl rfl rfl) rfl ?_
      refine As rfl rfl ?_
      refine WL.nil (kr18 _ _ _ (kh17 _ _ _ ?_))
      refine CW.condT rfl ?_
      refine Sq fun _ kh19 _ kr20 => ?_
      refine WL.storeC rfl rfl (by first | rfl | assumption | exact NU.one (by assumption)) hb6 (by simp) rfl fun ws22 hb6_ hcs22 => ?_
      try simp only [Sx.splice, qt] at hb6_
      have hch := hch.s1 hcs22
      have hb7 := hb7.keep hcs22 (by simp; omega)
      have hb6 := hb6_
      refine WL.storeC rfl rfl (by first | rfl | assumption | exact NU.one (by assumption)) hb7 (by simp) rfl fun ws23 hb7_ hcs23 => ?_
      try simp only [Sx.splice, qt] at hb7_
      have hch := hch.s1 hcs23
      have hb6 := hb6.keep hcs23 (by simp; omega)
      have hb7 := hb7_
      refine WL.nil (kr20 _ _ _ (kh19 _ _ _ ?_))
      refine CW.ret ?_
      refine clean_door rfl rfl rfl hb6 hb7 hneb67 fun w9 hc9 => ?_
      have hch := hch.step hc9 (fun y hy => by simp only [List.mem_singleton] at hy; subst hy; exact .inr (by omega))
      exact ⟨⟨_, _, rfl, .inr ⟨hmode, .inr ⟨hlong, .inr ⟨hlen, .inl ⟨fun h => hf1 h.1, rfl, rfl⟩⟩⟩⟩⟩, hch⟩
     ·
      try simp only [qs] at hg5
      have hf1 : finL l := by simpa using hg5
      refine WL.want rfl rfl rfl rfl ?_
      refine Mv rfl rfl ?_
      refine WL.want rfl rfl rfl rfl ?_
      refine WL.call hasF62 rfl rfl (mfinite_spec _ k _ (hk0.keep0 hch)) fun v w3 h' => ?_
      obtain ⟨rfl, hC36⟩ := h'
      have hch := hch.trans (Chg.any hC36)
      have hb6 := hb6.keep0 hC36
      have hb7 := hb7.keep0 hC36
      refine WL.want rfl rfl rfl rfl ?_
      refine WL.ev (Ev.not rfl) rfl ?_
      refine WL.ev (Ev.pickF rfl rfl rfl) rfl ?_
      refine As rfl rfl ?_
      refine WL.nil (kr18 _ _ _ (kh17 _ _ _ ?_))
      refine CW.cond rfl (fun hc6 => ?_) (fun hc6 => ?_)
      ·
       try simp only [qs] at hc6
       have hf2 : ¬ finL k := by simpa using hc6
       refine Sq fun _ kh21 _ kr22 => ?_
       refine WL.storeC rfl rfl (by first | rfl | assumption | exact NU.one (by assumption)) hb6 (by simp) rfl fun ws24 hb6_ hcs24 => ?_
       try simp only [Sx.splice, qt] at hb6_
       have hch := hch.s1 hcs24
       have hb7 := hb7.keep hcs24 (by simp; omega)
       have hb6 := hb6_
       refine WL.storeC rfl rfl (by first | rfl | assumption | exact NU.one (by assumption)) hb7 (by simp) rfl fun ws25 hb7_ hcs25 => ?_
       try simp only [Sx.splice, qt] at hb7_
       have hch := hch.s1 hcs25
       have hb6 := hb6.keep hcs25 (by simp; omega)
       have hb7 := hb7_
       refine WL.nil (kr22 _ _ _ (kh21 _ _ _ ?_))
       refine CW.ret ?_
       refine clean_door rfl rfl rfl hb6 hb7 hneb67 fun w9 hc9 => ?_
       have hch := hch.step hc9 (fun y hy => by simp only [List.mem_singleton] at hy; subst hy; exact .inr (by omega))
       exact ⟨⟨_, _, rfl, .inr ⟨hmode, .inr ⟨hlong, .inr ⟨hlen, .inl ⟨fun h => hf2 h.2, rfl, rfl⟩⟩⟩⟩⟩, hch⟩
      ·
       try simp only [qs] at hc6
       have hf2 : finL k := by simpa using hc6
       have hfin : finL l ∧ finL k := ⟨hf1, hf2⟩
       refine Sq fun _ kh23 _ kr24 => ?_
       refine Mv rfl rfl ?_
       refine WL.ev (Ev.len rfl) rfl ?_
       refine WL.ev (Ev.eql rfl rfl) rfl ?_
       refine As rfl rfl ?_
       refine WL.nil (kr24 _ _ _ (kh23 _ _ _ ?_))
       refine CW.cond rfl (fun hc7 => ?_) (fun hc7 => ?_)
       ·
        try simp only [qs] at hc7
        have hnil : l = [] := List.length_eq_zero_iff.1 (by omega)
        refine Sq fun _ kh25 _ kr26 => ?_
        refine WL.storeC rfl rfl (by first | rfl | assumption | exact NU.one (by assumption)) hb6 (by simp) rfl fun ws26 hb6_ hcs26 => ?_
        try simp only [Sx.splice, qt] at hb6_
        have hch := hch.s1 hcs26
        have hb7 := hb7.keep hcs26 (by simp; omega)
        have hb6 := hb6_
        refine WL.storeC rfl rfl (by first | rfl | assumption | exact NU.one (by assumption)) hb7 (by simp) rfl fun ws27 hb7_ hcs27 => ?_
        try simp only [Sx.splice, qt] at hb7_
        have hch := hch.s1 hcs27
        have hb6 := hb6.keep hcs27 (by simp; omega)
        have hb7 := hb7_
        refine WL.nil (kr26 _ _ _ (kh25 _ _ _ ?_))
        refine CW.ret ?_
        refine clean_door rfl rfl rfl hb6 hb7 hneb67 fun w9 hc9 => ?_
        have hch := hch.step hc9 (fun y hy => by simp only [List.mem_singleton] at hy; subst hy; exact .inr (by omega))
        exact ⟨⟨_, _, rfl, .inr ⟨hmode, .inr ⟨hlong, .inr ⟨hlen, .inr ⟨hfin, .inl ⟨hnil, rfl, rfl⟩⟩⟩⟩⟩⟩, hch⟩
       ·
        try simp only [qs] at hc7
        have hnn : l ≠ [] := fun e => by rw [e] at hc7; exact hc7 rfl
        have hinN := sumP_in hf1 hf2 (by omega)
        have hinW := sumI_in (l := k) (by omega)
        refine CW.skip ?_
        refine kh5 _ _ _ ?_
        refine Sq fun _ kh27 _ kr28 => ?_
        refine WL.call hasF26 rfl rfl (New_spec _) fun v w4 h' => ?_
        obtain ⟨b, rfl, hB6, hge6, hC43⟩ := h'
        have hbge : w.heap.size ≤ b := Nat.le_trans hch.size hge6
        have hnb6 : b6 ≠ b := by have := hb6.lt; omega
        have hnb7 : b7 ≠ b := by have := hb7.lt; omega
        have hch := hch.trans (Chg.any hC43)
        have hb6 := hb6.keep0 hC43
        have hb7 := hb7.keep0 hC43
        refine As rfl rfl ?_
        refine WL.nil (kr28 _ _ _ (kh27 _ _ _ ?_))
        refine CW.seq fun _ kh29 => ?_
        refine Sq fun _ kh30 _ kr31 => ?_
        refine Mv rfl rfl ?_
        refine WL.ev (Ev.len rfl) rfl ?_
        refine Mv rfl rfl ?_
        refine WL.nil (kr31 _ _ _ (kh30 _ _ _ ?_))
        refine CW.block ?_
        refine CW.loop (S := fun g : Nat × List Nat × SP => [(0, .slice al l.length cl), (1, .slice ak k.length ck), (2, .int .i64 mode), (6, .pointer (some ⟨b6, 0, none⟩)), (7, .pointer (some ⟨b7, 0, none⟩)), (8, .pointer (some ⟨b, 0, none⟩)), (45, .int .i64 (l.length : Int)), (46, .int .i64 (g.1 : Int))]) (Inv := KWt l k b b6 b7 w) (mu := fun g => l.length - g.1) ((0, List.replicate 67 0, SP.zero)) ?_ ?_ ?_
        ·
         exact ⟨Nat.zero_le _, hB6, by rw [List.take_zero, List.take_zero]; exact Rep.zero, ⟨by decide, by decide, by decide, by decide, by decide, by decide⟩, hb6, hb7, hch⟩
        ·
         repeat (first | exact Subs.nil | refine Subs.cons rfl ?_ | refine Subs.consI rfl (by omega) ?_)
        ·
         rintro ⟨i, C, s⟩ wr ⟨hi, hB, hr, hs, hb6, hb7, hch⟩
         dsimp only at hi hB hr hs hb6 hb7 hch
         dsimp only
         have hx := D_getD hWl i
         have hy := D_getD hWk i
         refine Sq fun _ kh32 _ kr33 => ?_
         refine WL.ev (Ev.lss rfl rfl) rfl ?_
         refine WL.nil (kr33 _ _ _ (kh32 _ _ _ ?_))
         refine CW.seq fun _ kh34 => ?_
         refine CW.cond rfl (fun hc8 => ?_) (fun hc8 => ?_)
         ·
          try simp only [qs] at hc8
          have hst := sumP_step (l := l) (k := k) (i := i) (by omega) hlen
          have hin := sumP_in (l := l.take (i + 1)) (k := k.take (i + 1)) (finL_take hf1) (finL_take hf2) (by rw [List.length_take]; omega)
          rw [hst] at hin
          have hmx : (splitP (l.getD i 0)).cls ≤ 2 := ((finL_step (by omega)).1 (finL_take (i := i + 1) hf1)).2
          have hmy : (splitP (k.getD i 0)).cls ≤ 2 := ((finL_step (by omega)).1 (finL_take (i := i + 1) hf2)).2
          refine CW.skip ?_
          refine kh34 _ _ _ ?_
          refine CW.seq fun _ kh35 => ?_
          refine CW.block ?_
          refine Sq fun _ kh36 _ kr37 => ?_
          refine Mv rfl rfl ?_
          refine As rfl rfl ?_
          refine WL.nil (kr37 _ _ _ (kh36 _ _ _ ?_))
          refine CW.regionTC 9 hmix (by kernel_rfl) fun kR38 kr38 hdr => ?_
          have hch := hch.trans (Chg.any hdr)
          have hB := hB.keep0 hdr
          have hb6 := hb6.keep0 hdr
          have hb7 := hb7.keep0 hdr
          refine WS.ev (Ev.move rfl) rfl ?_
          refine WS.ev (Ev.move rfl) rfl ?_
          refine WS.ev (Ev.move rfl) rfl ?_
          refine WS.ev (Ev.ixR (i) rfl rfl (hrl.keep0 hch) (by omega) (by omega) (by simp; omega)) rfl ?_
          refine WS.ev (Ev.load rfl rfl ((hrl.keep0 hch).f64 (by first | omega | (simp; omega)))) rfl ?_
          refine WS.ev (Ev.move rfl) rfl ?_
          refine WS.ev (Ev.move rfl) rfl ?_
          refine WS.ev (Ev.ixR (i) rfl rfl (hrk.keep0 hch) (by omega) (by omega) (by simp; omega)) rfl ?_
          refine WS.ev (Ev.load rfl rfl ((hrk.keep0 hch).f64 (by first | omega | (simp; omega)))) rfl ?_
          refine WS.nil ?_
          refine WL.call hasF72 rfl rfl (acAddProduct_spec b C (l.getD i 0) (k.getD i 0) s (sumP (l.take i) (k.take i)) _ hB hr hx hy hmx hmy (hs.mono (by omega)) hin.1 hin.2) fun v w5 h' => ?_
          obtain ⟨rfl, C2, hB2, hr2, hC58⟩ := h'
          rw [← hst] at hr2
          have hch := hch.step hC58 (fun y hy => by simp only [List.mem_singleton] at hy; subst hy; exact .inr hbge)
          have hb6 := hb6.keep hC58 (by simp; omega)
          have hb7 := hb7.keep hC58 (by simp; omega)
          refine WL.nil (kr38 _ _ _ (kh35 _ _ _ ?_))
          refine CW.region fun kR39 kr39 => ?_
          first | refine WL.ev (Ev.addIn rfl rfl (by omega)) rfl ?_ | refine WL.ev (Ev.add rfl rfl) rfl ?_
          refine Mv rfl rfl ?_
          refine WL.nil (kr39 _ _ _ ?_)
          refine ⟨rfl, (i + 1, C2, cnt1 s (prodP (l.getD i 0) (k.getD i 0)).cls (prodP (l.getD i 0) (k.getD i 0)).neg), ?_, ?_, ?_⟩
          ·
           repeat (first | exact Subs.nil | refine Subs.cons rfl ?_ | refine Subs.consI rfl (by omega) ?_)
          ·
           exact ⟨by show i + 1 ≤ l.length; omega, hB2, hr2, cnt1_le hs _ _, hb6, hb7, hch⟩
          ·
           show l.length - (i + 1) < l.length - i; omega
         ·
          try simp only [qs] at hc8
          have hiX : i = l.length := by omega
          subst hiX
          rw [List.take_length, List.take_of_length_le (by omega)] at hr
          refine CW.exit ?_
          refine kh29 _ _ _ ?_
          refine Sq fun _ kh40 _ kr41 => ?_
          refine Mv rfl rfl ?_
          refine WL.call hasF28 rfl rfl (Exact_spec b C (sumP l k) _ hB hr (hg0.keep0 hch) hinN.1 hinN.2) fun v w6 h' => ?_
          obtain ⟨⟨rN, rfl, hNN⟩, hC61⟩ := h'
          have hch := hch.trans (Chg.any hC61)
          have hB := hB.keep0 hC61
          have hb6 := hb6.keep0 hC61
          have hb7 := hb7.keep0 hC61
          refine Mv rfl rfl ?_
          refine WL.call hasF43 rfl rfl (all_spec _ k _ (hk0.keep0 hch) (by omega)) fun v w7 h' => ?_
          obtain ⟨⟨ba, C3, sa, rfl, hBa, hRa, hsa⟩, hC63⟩ := h'
          have hch := hch.trans (Chg.any hC63)
          have hB := hB.keep0 hC63
          have hb6 := hb6.keep0 hC63
          have hb7 := hb7.keep0 hC63
          have hNN := hNN.keep0 hC63
          refine WL.call hasF28 rfl rfl (Exact_spec ba C3 (sumI k) _ hBa hRa (hg0.keep0 hch) hinW.1 hinW.2) fun v w8 h' => ?_
          obtain ⟨⟨rW, rfl, hNW⟩, hC64⟩ := h'
          have hch := hch.trans (Chg.any hC64)
          have hB := hB.keep0 hC64
          have hb6 := hb6.keep0 hC64
          have hb7 := hb7.keep0 hC64
          have hNN := hNN.keep0 hC64
          refine WL.ev (Ev.build (vs := _) (cs := [_, _, _, _, _, _]) rfl rfl) rfl ?_
          refine WL.allocB (l := [.bool false, .slice none 0 0, .int .i64 0, .bool false, .slice none 0 0, .int .i64 0]) rfl rfl fun b10 wm10 hb10 hcm10 hge10 => ?_
          have hgehch10 := Nat.le_trans hch.size hge10
          have hch := hch.trans (Chg.any hcm10)
          have hNN := hNN.keep0 hcm10
          have hNW := hNW.keep0 hcm10
          have hneb10 : b ≠ b10 := by have := hB.lt; omega
          have hB := hB.keep0 hcm10
          have hneb610 : b6 ≠ b10 := by have := hb6.lt; omega
          have hb6 := hb6.keep0 hcm10
          have hneb710 : b7 ≠ b10 := by have := hb7.lt; omega
          have hb7 := hb7.keep0 hcm10
          refine WL.storeB rfl rfl rfl ao hb10 (by simp) rfl fun ws28 hb10_ hcs28 => ?_
          try simp only [Sx.splice, qt] at hb10_
          have hch := hch.s1 hcs28
          have hB := hB.keep hcs28 (by simp; omega)
          have hb6 := hb6.keep hcs28 (by simp; omega)
          have hb7 := hb7.keep hcs28 (by simp; omega)
          have hNN := hNN.keepBK hb10 hcs28 an
          have hNW := hNW.keepBK hb10 hcs28 an
          have hb10 := hb10_
          refine WL.nil (kr41 _ _ _ (kh40 _ _ _ ?_))
          refine CW.seq fun _ kh42 => ?_
          refine Sq fun _ kh43 _ kr44 => ?_
          refine WL.ev (Ev.fieldAddr rfl) rfl ?_
          refine WL.ev (Ev.loadB rfl rfl hb10 rfl rfl) rfl ?_
          try simp only [List.drop_succ_cons, List.drop_zero, List.take_succ_cons, List.take_zero]
          refine WL.call hasF58 rfl rfl (Sign_dspec (sumD (sumI k)).neg rW (wd (sumD (sumI k)).m) (sumD (sumI k)).e _ hNW) fun v w9 h' => ?_
          obtain ⟨rfl, hC68⟩ := h'
          rw [val_wd, sumD_sg hinW.1 hinW.2]
          have hch := hch.trans (Chg.any hC68)
          have hB := hB.keep0 hC68
          have hb6 := hb6.keep0 hC68
          have hb7 := hb7.keep0 hC68
          have hb10 := hb10.keep0 hC68
          have hNN := hNN.keep0 hC68
          have hNW := hNW.keep0 hC68
          refine WL.ev (Ev.lss rfl rfl) rfl ?_
          refine WL.nil (kr44 _ _ _ (kh43 _ _ _ ?_))
          refine CW.cond rfl (fun hc9 => ?_) (fun hc9 => ?_)
          ·
           try simp only [qs] at hc9
           have hneg : sumI k < 0 := Classical.byContradiction fun q => by rw [if_neg q] at hc9; split at hc9 <;> omega
           refine CW.regionKC 7 10 rfl hmix fun kR45 kr45 hS hdr => ?_
           have hch := hch.trans (Chg.any hdr)
           have hB := hB.keep0 hdr
           have hb6 := hb6.keep0 hdr
           have hb7 := hb7.keep0 hdr
           have hb10 := hb10.keep0 hdr
           have hNN := hNN.keep0 hdr
           have hNW := hNW.keep0 hdr
           have hch_r := hch
           have hB_r := hB
           have hb6_r := hb6
           have hb7_r := hb7
           have hb10_r := hb10
           refine WK.take 0 rfl (by kernel_rfl) (by kernel_rfl) (by kernel_rfl) (by kernel_rfl) (by kernel_rfl) (by kernel_rfl) hS (fun w' hw' => Ev.fieldAddr rfl) rfl ?_
           refine WK.take 1 rfl (by kernel_rfl) (by kernel_rfl) (by kernel_rfl) (by kernel_rfl) (by kernel_rfl) (by kernel_rfl) hS (fun w' hw' => Ev.loadB rfl rfl (hb10_r.keep0 hw') rfl rfl) rfl ?_
           try simp only [List.drop_succ_cons, List.drop_zero, List.take_succ_cons, List.take_zero]
           refine WK.take 3 rfl (by kernel_rfl) (by kernel_rfl) (by kernel_rfl) (by kernel_rfl) (by kernel_rfl) (by kernel_rfl) hS (fun w' hw' => Ev.fieldAddr rfl) rfl ?_
           refine WK.take 4 rfl (by kernel_rfl) (by kernel_rfl) (by kernel_rfl) (by kernel_rfl) (by kernel_rfl) (by kernel_rfl) hS (fun w' hw' => Ev.loadB rfl rfl (hb10_r.keep0 hw') rfl rfl) rfl ?_
           try simp only [List.drop_succ_cons, List.drop_zero, List.take_succ_cons, List.take_zero]
           refine WK.oneCall 2 rfl (by kernel_rfl) hasF59 rfl rfl (Neg_dspec (sumD (sumP l k)).neg rN (wd (sumD (sumP l k)).m) (sumD (sumP l k)).e _ hNN (hg0.keep0 hch) (ok_e (sumD_ok hinN.1 hinN.2))) fun v w10 h' => ?_
           obtain ⟨hD72, hC72⟩ := h'
           rw [val_wd, sumD_neg hinN.1 hinN.2] at hD72
           obtain ⟨rN, rfl, hNN2⟩ := hD72
           have hch := hch.trans (Chg.any hC72)
           have hB := hB.keep0 hC72
           have hb6 := hb6.keep0 hC72
           have hb7 := hb7.keep0 hC72
           have hb10 := hb10.keep0 hC72
           have hNN := hNN.keep0 hC72
           have hNW := hNW.keep0 hC72
           have hS := hS.trans hC72
           refine ⟨hS, ?_⟩
           refine WK.take 6 rfl (by kernel_rfl) (by kernel_rfl) (by kernel_rfl) (by kernel_rfl) (by kernel_rfl) (by kernel_rfl) hS (fun w' hw' => Ev.fieldAddr rfl) rfl ?_
           refine WK.oneCall 5 rfl (by kernel_rfl) hasF59 rfl rfl (Neg_dspec (sumD (sumI k)).neg rW (wd (sumD (sumI k)).m) (sumD (sumI k)).e _ hNW (hg0.keep0 hch) (ok_e (sumD_ok hinW.1 hinW.2))) fun v w11 h' => ?_
           obtain ⟨hD75, hC75⟩ := h'
           rw [val_wd, sumD_neg hinW.1 hinW.2] at hD75
           obtain ⟨rW, rfl, hNW2⟩ := hD75
           have hch := hch.trans (Chg.any hC75)
           have hB := hB.keep0 hC75
           have hb6 := hb6.keep0 hC75
           have hb7 := hb7.keep0 hC75
           have hb10 := hb10.keep0 hC75
           have hNN := hNN.keep0 hC75
           have hNW := hNW.keep0 hC75
           have hNN2 := hNN2.keep0 hC75
           have hS := hS.trans hC75
           refine ⟨hS, ?_⟩
           refine WK.storeB 7 rfl (by kernel_rfl) (by kernel_rfl) rfl rfl rfl ao hb10 (by simp) rfl fun ws29 hb10_ hcs29 => ?_
           try simp only [Sx.splice, qt] at hb10_
           have hch := hch.s1 hcs29
           have hB := hB.keep hcs29 (by simp; omega)
           have hb6 := hb6.keep hcs29 (by simp; omega)
           have hb7 := hb7.keep hcs29 (by simp; omega)
           have hNN := hNN.keepBK hb10 hcs29 an
           have hNW := hNW.keepBK hb10 hcs29 an
           have hNN2 := hNN2.keepBK hb10 hcs29 an
           have hNW2 := hNW2.keepBK hb10 hcs29 an
           have hb10 := hb10_
           refine WK.after 8 rfl (by kernel_rfl) (by kernel_rfl) (Ev.fieldAddr rfl) rfl ?_
           refine WK.storeB 9 rfl (by kernel_rfl) (by kernel_rfl) rfl rfl rfl ao hb10 (by simp) rfl fun ws30 hb10_ hcs30 => ?_
           try simp only [Sx.splice, qt] at hb10_
           have hch := hch.s1 hcs30
           have hB := hB.keep hcs30 (by simp; omega)
           have hb6 := hb6.keep hcs30 (by simp; omega)
           have hb7 := hb7.keep hcs30 (by simp; omega)
           have hNN := hNN.keepBK hb10 hcs30 an
           have hNW := hNW.keepBK hb10 hcs30 an
           have hNN2 := hNN2.keepBK hb10 hcs30 an
           have hNW2 := hNW2.keepBK hb10 hcs30 an
           have hb10 := hb10_
           refine WK.done (by kernel_rfl) (kr45 _ _ _ ?_)
           refine kh42 _ _ _ ?_
           refine CW.seq fun _ kh46 => ?_
           have hNN := hNN2
           have hNW := hNW2
           have hokN := sumD_ok (S := -sumP l k) (by omega) (by omega)
           have hokW := sumD_ok (S := -sumI k) (by omega) (by omega)
           refine CW.region fun kR47 kr47 => ?_
           refine WL.ev (Ev.loadA rfl rfl hb10 rfl) rfl ?_
           refine Mv rfl rfl ?_
           refine WL.call hasF73 rfl rfl (Quot_spec (sumD (-sumP l k)).neg (sumD (-sumI k)).neg rN rW (wd (sumD (-sumP l k)).m) (wd (sumD (-sumI k)).m) (sumD (-sumP l k)).e (sumD (-sumI k)).e mode _ hNN hNW (hg0.keep0 hch) (ok_e hokN) (ok_e hokW)) fun v w12 h' => ?_
           obtain ⟨⟨bits, e, rfl, hQ⟩, hC80⟩ := h'
           rw [val_wd, val_wd] at hQ
           have hch := hch.trans (Chg.any hC80)
           have hB := hB.keep0 hC80
           have hb6 := hb6.keep0 hC80
           have hb7 := hb7.keep0 hC80
           have hb10 := hb10.keep0 hC80
           have hNN := hNN.keep0 hC80
           have hNW := hNW.keep0 hC80
           have hNN2 := hNN2.keep0 hC80
           have hNW2 := hNW2.keep0 hC80
           refine WL.ev (Ev.extract rfl rfl) rfl ?_
           refine WL.ev (Ev.extract rfl rfl) rfl ?_
           refine WL.storeC rfl rfl (by first | rfl | assumption | exact NU.one (by assumption)) hb6 (by simp) rfl fun ws31 hb6_ hcs31 => ?_
           try simp only [Sx.splice, qt] at hb6_
           have hch := hch.s1 hcs31
           have hB := hB.keep hcs31 (by simp; omega)
           have hb7 := hb7.keep hcs31 (by simp; omega)
           have hb10 := hb10.keep hcs31 (by simp; omega)
           have hNN2 := hNN2.keepBK hb6 hcs31 an
           have hNW2 := hNW2.keepBK hb6 hcs31 an
           have hb6 := hb6_
           refine WL.storeC rfl rfl (by first | rfl | assumption | exact NU.one (by assumption)) hb7 (by simp) rfl fun ws32 hb7_ hcs32 => ?_
           try simp only [Sx.splice, qt] at hb7_
           have hch := hch.s1 hcs32
           have hB := hB.keep hcs32 (by simp; omega)
           have hb6 := hb6.keep hcs32 (by simp; omega)
           have hb10 := hb10.keep hcs32 (by simp; omega)
           have hNN2 := hNN2.keepBK hb7 hcs32 an
           have hNW2 := hNW2.keepBK hb7 hcs32 an
           have hb7 := hb7_
           refine WL.nil (kr47 _ _ _ (kh46 _ _ _ ?_))
           refine CW.ret ?_
           refine clean_door rfl rfl rfl hb6 hb7 hneb67 fun w9 hc9 => ?_
           have hch := hch.step hc9 (fun y hy => by simp only [List.mem_singleton] at hy; subst hy; exact .inr (by omega))
           refine ⟨⟨_, _, rfl, .inr ⟨hmode, .inr ⟨hlong, .inr ⟨hlen, .inr ⟨hfin, .inr ⟨hnn, ?_⟩⟩⟩⟩⟩⟩, hch⟩
           rw [hQ.err]
           unfold QuoD
           rw [if_pos hneg, if_pos hneg]; exact hQ
          ·
           try simp only [qs] at hc9
           have hneg : ¬ sumI k < 0 := fun q => by rw [if_pos q] at hc9; omega
           refine CW.skip ?_
           refine kh42 _ _ _ ?_
           refine CW.seq fun _ kh48 => ?_
           have hokN := sumD_ok hinN.1 hinN.2
           have hokW := sumD_ok hinW.1 hinW.2
           refine CW.region fun kR49 kr49 => ?_
           refine WL.ev (Ev.loadA rfl rfl hb10 rfl) rfl ?_
           refine Mv rfl rfl ?_
           refine WL.call hasF73 rfl rfl (Quot_spec (sumD (sumP l k)).neg (sumD (sumI k)).neg rN rW (wd (sumD (sumP l k)).m) (wd (sumD (sumI k)).m) (sumD (sumP l k)).e (sumD (sumI k)).e mode _ hNN hNW (hg0.keep0 hch) (ok_e hokN) (ok_e hokW)) fun v w13 h' => ?_
           obtain ⟨⟨bits, e, rfl, hQ⟩, hC80⟩ := h'
           rw [val_wd, val_wd] at hQ
           have hch := hch.trans (Chg.any hC80)
           have hB := hB.keep0 hC80
           have hb6 := hb6.keep0 hC80
           have hb7 := hb7.keep0 hC80
           have hb10 := hb10.keep0 hC80
           have hNN := hNN.keep0 hC80
           have hNW := hNW.keep0 hC80
           refine WL.ev (Ev.extract rfl rfl) rfl ?_
           refine WL.ev (Ev.extract rfl rfl) rfl ?_
           refine WL.storeC rfl rfl (by first | rfl | assumption | exact NU.one (by assumption)) hb6 (by simp) rfl fun ws33 hb6_ hcs33 => ?_
           try simp only [Sx.splice, qt] at hb6_
           have hch := hch.s1 hcs33
           have hB := hB.keep hcs33 (by simp; omega)
           have hb7 := hb7.keep hcs33 (by simp; omega)
           have hb10 := hb10.keep hcs33 (by simp; omega)
           have hb6 := hb6_
           refine WL.storeC rfl rfl (by first | rfl | assumption | exact NU.one (by assumption)) hb7 (by simp) rfl fun ws34 hb7_ hcs34 => ?_
           try simp only [Sx.splice, qt] at hb7_
           have hch := hch.s1 hcs34
           have hB := hB.keep hcs34 (by simp; omega)
           have hb6 := hb6.keep hcs34 (by simp; omega)
           have hb10 := hb10.keep hcs34 (by simp; omega)
           have hb7 := hb7_
           refine WL.nil (kr49 _ _ _ (kh48 _ _ _ ?_))
           refine CW.ret ?_
           refine clean_door rfl rfl rfl hb6 hb7 hneb67 fun w9 hc9 => ?_
           have hch := hch.step hc9 (fun y hy => by simp only [List.mem_singleton] at hy; subst hy; exact .inr (by omega))
           refine ⟨⟨_, _, rfl, .inr ⟨hmode, .inr ⟨hlong, .inr ⟨hlen, .inr ⟨hfin, .inr ⟨hnn, ?_⟩⟩⟩⟩⟩⟩, hch⟩
           rw [hQ.err]
           unfold QuoD
           rw [if_neg hneg, if_neg hneg]; exact hQ

end Go.Proofs.YtphnpchmdpjabaaGreatDoor

/- Package mean: Middle, Of. No condition. -/
namespace Go.Proofs.YtphnpchmdpjabaaGreatDoor
open Go Sx Wd
set_option exponentiation.threshold 5000

theorem NF.of_row {w : World} {a : Option Addr} {l : List Nat} {k c : Nat} (h : RW w a (l.map f64v)) (hw : ∀ x ∈ l, x < 18446744073709551616) (hl : l.length ≤ 70368744177664) (hk : k = l.length) (hc : k ≤ c) : NF w (.slice a k c) l := by
  subst hk
  exact ⟨⟨a, c, rfl, hc, h⟩, hw, hl⟩
theorem meanR.err {l : List Nat} {mode pn pi : Int} {bits : Nat} {e : Int} (h : meanR l mode pn pi bits e) : (if e = 0 then bits else 0) = bits := by
  rcases h with ⟨_, rfl, rfl⟩ | ⟨_, ⟨_, rfl, rfl⟩ | ⟨_, ⟨_, rfl⟩ | ⟨_, ⟨_, rfl, rfl⟩ | ⟨_, h⟩⟩⟩⟩
  · simp
  · simp
  · simp
  · simp
  · exact h.err
/-- What Middle answers. -/
def midR (x y : Nat) (mode : Int) (bits : Nat) (e : Int) : Prop :=
  (¬ (0 ≤ mode ∧ mode ≤ 4) ∧ bits = 0 ∧ e = 1) ∨ ((0 ≤ mode ∧ mode ≤ 4) ∧
    ((¬ ((splitP x).cls ≤ 2 ∧ (splitP y).cls ≤ 2) ∧ bits = 0 ∧ e = 30) ∨ (((splitP x).cls ≤ 2 ∧ (splitP y).cls ≤ 2) ∧ meanR [x, y] mode 0 0 bits e)))
/-- What Of answers. -/
def ofR (neg : Bool) (m : Nat) (ex n mode : Int) (bits : Nat) (e : Int) : Prop :=
  (¬ ((0 ≤ mode ∧ mode ≤ 4) ∧ 1 ≤ n ∧ n ≤ 1099511627776) ∧ bits = 0 ∧ e = 1) ∨ (((0 ≤ mode ∧ mode ≤ 4) ∧ 1 ≤ n ∧ n ≤ 1099511627776) ∧
    ((formD neg m ex = none ∧ bits = 0 ∧ e = 2) ∨ ∃ d, formD neg m ex = some d ∧ toldR d n.toNat SP.zero mode bits e))

set_option maxRecDepth 8000 in
set_option maxHeartbeats 1000000 in
theorem Middle_spec (x y : Nat) (mode : Int) (w : World) (hx : x < 18446744073709551616) (hy : y < 18446744073709551616) (hg : GW w) : Ret Tryz.prog 29 [.float .f64 x, .float .f64 y, .int .i64 mode] w fun u w' => (∃ bits e, u = .tuple [.float .f64 bits, .int .i64 e].toArray ∧ midR x y mode bits e) ∧ Chg [] w w' := by
 have hch : Chg [] w w := Chg.refl _ _
 have hg0 := hg
 refine Ret.enterD 31 hasF31 Tryz.func29 rfl rfl ?_
 simp only [args0, Nat.zero_add, Nat.reduceAdd]
 refine Sq fun _ kh1 _ kr2 => ?_
 refine WL.allocB (l := [.float .f64 0]) rfl rfl fun b6 wm6 hb6 hcm6 hge6 => ?_
 have hgehch6 := Nat.le_trans hch.size hge6
 have hch := hch.trans (Chg.any hcm6)
 refine WL.allocB (l := [.int .i64 0]) rfl rfl fun b7 wm7 hb7 hcm7 hge7 => ?_
 have hgehch7 := Nat.le_trans hch.size hge7
 have hch := hch.trans (Chg.any hcm7)
 have hneb67 : b6 ≠ b7 := by have := hb6.lt; omega
 have hb6 := hb6.keep0 hcm7
 refine WL.nil (kr2 _ _ _ (kh1 _ _ _ ?_))
 refine Sq fun _ kh3 _ kr4 => ?_
 refine WL.defer rfl ?_
 refine WL.nil (kr4 _ _ _ (kh3 _ _ _ ?_))
 refine CW.seq fun _ kh5 => ?_
 refine Sq fun _ kh6 _ kr7 => ?_
 refine Mv rfl rfl ?_
 refine WL.call hasF32 rfl rfl (right_spec mode _) fun v w1 h' => ?_
 obtain ⟨rfl, rfl⟩ := h'
 refine WL.ev (Ev.not rfl) rfl ?_
 refine WL.nil (kr7 _ _ _ (kh6 _ _ _ ?_))
 refine CW.cond rfl (fun hc1 => ?_) (fun hc1 => ?_)
 ·
  try simp only [qs] at hc1
  have hmode : ¬ (0 ≤ mode ∧ mode ≤ 4) := by simpa using hc1
  refine Sq fun _ kh8 _ kr9 => ?_
  refine WL.storeC rfl rfl (by first | rfl | assumption | exact NU.one (by assumption)) hb6 (by simp) rfl fun ws35 hb6_ hcs35 => ?_
  try simp only [Sx.splice, qt] at hb6_
  have hch := hch.s1 hcs35
  have hb7 := hb7.keep hcs35 (by simp; omega)
  have hb6 := hb6_
  refine WL.storeC rfl rfl (by first | rfl | assumption | exact NU.one (by assumption)) hb7 (by simp) rfl fun ws36 hb7_ hcs36 => ?_
  try simp only [Sx.splice, qt] at hb7_
  have hch := hch.s1 hcs36
  have hb6 := hb6.keep hcs36 (by simp; omega)
  have hb7 := hb7_
  refine WL.nil (kr9 _ _ _ (kh8 _ _ _ ?_))
  refine CW.ret ?_
  refine clean_door rfl rfl rfl hb6 hb7 hneb67 fun w9 hc9 => ?_
  have hch := hch.step hc9 (fun y hy => by simp only [List.mem_singleton] at hy; subst hy; exact .inr (by omega))
  exact ⟨⟨_, _, rfl, .inl ⟨hmode, rfl, rfl⟩⟩, hch⟩
 ·
  try simp only [qs] at hc1
  have hmode : 0 ≤ mode ∧ mode ≤ 4 := by simpa using hc1
  refine CW.skip ?_
  refine kh5 _ _ _ ?_
  refine CW.seq fun _ kh10 => ?_
  refine Sq fun _ kh11 _ kr12 => ?_
  refine Mv rfl rfl ?_
  refine WL.call hasF78 rfl rfl (Class_spec x _ hx) fun v w2 h' => ?_
  obtain ⟨rfl, hC12⟩ := h'
  have hch := hch.trans (Chg.any hC12)
  have hb6 := hb6.keep0 hC12
  have hb7 := hb7.keep0 hC12
  refine WL.ev (Ev.gtr rfl rfl) rfl ?_
  refine Mv rfl rfl ?_
  refine WL.boolCase (fun hg2 => ?_) (fun hg2 => ?_)
  ·
   try simp only [qs] at hg2
   have h1 : 2 < (splitP x).cls := by have := hg2; omega
   refine WL.pass rfl rfl rfl rfl rfl ?_
   refine WL.pass rfl rfl rfl rfl rfl ?_
   refine WL.pass rfl rfl rfl rfl rfl ?_
   refine WL.ev (Ev.pickT rfl rfl rfl) rfl ?_
   refine WL.nil (kr12 _ _ _ (kh11 _ _ _ ?_))
   refine CW.condT rfl ?_
   refine Sq fun _ kh13 _ kr14 => ?_
   refine WL.storeC rfl rfl (by first | rfl | assumption | exact NU.one (by assumption)) hb6 (by simp) rfl fun ws37 hb6_ hcs37 => ?_
   try simp only [Sx.splice, qt] at hb6_
   have hch := hch.s1 hcs37
   have hb7 := hb7.keep hcs37 (by simp; omega)
   have hb6 := hb6_
   refine WL.storeC rfl rfl (by first | rfl | assumption | exact NU.one (by assumption)) hb7 (by simp) rfl fun ws38 hb7_ hcs38 => ?_
   try simp only [Sx.splice, qt] at hb7_
   have hch := hch.s1 hcs38
   have hb6 := hb6.keep hcs38 (by simp; omega)
   have hb7 := hb7_
   refine WL.nil (kr14 _ _ _ (kh13 _ _ _ ?_))
   refine CW.ret ?_
   refine clean_door rfl rfl rfl hb6 hb7 hneb67 fun w9 hc9 => ?_
   have hch := hch.step hc9 (fun y hy => by simp only [List.mem_singleton] at hy; subst hy; exact .inr (by omega))
   exact ⟨⟨_, _, rfl, .inr ⟨hmode, .inl ⟨fun h => by have := h.1; omega, rfl, rfl⟩⟩⟩, hch⟩
  ·
   try simp only [qs] at hg2
   have h1 : (splitP x).cls ≤ 2 := by have := hg2; omega
   refine WL.want rfl rfl rfl rfl ?_
   refine Mv rfl rfl ?_
   refine WL.want rfl rfl rfl rfl ?_
   refine WL.call hasF78 rfl rfl (Class_spec y _ hy) fun v w3 h' => ?_
   obtain ⟨rfl, hC16⟩ := h'
   have hch := hch.trans (Chg.any hC16)
   have hb6 := hb6.keep0 hC16
   have hb7 := hb7.keep0 hC16
   refine WL.want rfl rfl rfl rfl ?_
   refine WL.ev (Ev.gtr rfl rfl) rfl ?_
   refine WL.ev (Ev.pickF rfl rfl rfl) rfl ?_
   refine WL.nil (kr12 _ _ _ (kh11 _ _ _ ?_))
   refine CW.cond rfl (fun hc3 => ?_) (fun hc3 => ?_)
   ·
    try simp only [qs] at hc3
    have h2 : 2 < (splitP y).cls := by have := hc3; omega
    refine Sq fun _ kh15 _ kr16 => ?_
    refine WL.storeC rfl rfl (by first | rfl | assumption | exact NU.one (by assumption)) hb6 (by simp) rfl fun ws39 hb6_ hcs39 => ?_
    try simp only [Sx.splice, qt] at hb6_
    have hch := hch.s1 hcs39
    have hb7 := hb7.keep hcs39 (by simp; omega)
    have hb6 := hb6_
    refine WL.storeC rfl rfl (by first | rfl | assumption | exact NU.one (by assumption)) hb7 (by simp) rfl fun ws40 hb7_ hcs40 => ?_
    try simp only [Sx.splice, qt] at hb7_
    have hch := hch.s1 hcs40
    have hb6 := hb6.keep hcs40 (by simp; omega)
    have hb7 := hb7_
    refine WL.nil (kr16 _ _ _ (kh15 _ _ _ ?_))
    refine CW.ret ?_
    refine clean_door rfl rfl rfl hb6 hb7 hneb67 fun w9 hc9 => ?_
    have hch := hch.step hc9 (fun y hy => by simp only [List.mem_singleton] at hy; subst hy; exact .inr (by omega))
    exact ⟨⟨_, _, rfl, .inr ⟨hmode, .inl ⟨fun h => by have := h.2; omega, rfl, rfl⟩⟩⟩, hch⟩
   ·
    try simp only [qs] at hc3
    have h2 : (splitP y).cls ≤ 2 := by have := hc3; omega
    refine CW.skip ?_
    refine kh10 _ _ _ ?_
    refine Sq fun _ kh17 _ kr18 => ?_
    refine Mv rfl rfl ?_
    refine Mv rfl rfl ?_
    refine WL.buildSlice (m := 2) (cs := [f64v (x), f64v (y)]) (by decide) (by decide) rfl (by kernel_rfl) rfl fun b21 w21 hn21 => ?_
    have hcm21 := hn21.chg
    have hge21 := hn21.ge
    have hb21 : FB w21 b21 _ [x, y] := hn21.at_
    have hgehch21 := Nat.le_trans hch.size hge21
    have hch := hch.trans (Chg.any hcm21)
    have hneb621 : b6 ≠ b21 := by have := hb6.lt; omega
    have hb6 := hb6.keep0 hcm21
    have hneb721 : b7 ≠ b21 := by have := hb7.lt; omega
    have hb7 := hb7.keep0 hcm21
    refine Mv rfl rfl ?_
    refine WL.call hasF66 rfl rfl (Plain_spec _) fun v w4 h' => ?_
    obtain ⟨rfl, hC23⟩ := h'
    have hch := hch.trans (Chg.any hC23)
    have hb6 := hb6.keep0 hC23
    have hb7 := hb7.keep0 hC23
    have hb21 := hb21.keep0 hC23
    refine WL.call hasF15 rfl rfl (Mean_spec _ [x, y] mode 0 0 _ (NF.of_row hb21.row (by intro z hz; simp at hz; rcases hz with rfl | rfl <;> assumption) (by simp) rfl (by simp)) (hg0.keep0 hch)) fun v w5 h' => ?_
    obtain ⟨⟨bits, e, rfl, hM⟩, hC24⟩ := h'
    have hch := hch.trans (Chg.any hC24)
    have hb6 := hb6.keep0 hC24
    have hb7 := hb7.keep0 hC24
    have hb21 := hb21.keep0 hC24
    refine WL.ev (Ev.extract rfl rfl) rfl ?_
    refine WL.ev (Ev.extract rfl rfl) rfl ?_
    refine WL.storeC rfl rfl (by first | rfl | assumption | exact NU.one (by assumption)) hb6 (by simp) rfl fun ws41 hb6_ hcs41 => ?_
    try simp only [Sx.splice, qt] at hb6_
    have hch := hch.s1 hcs41
    have hb7 := hb7.keep hcs41 (by simp; omega)
    have hb21 := hb21.keep hcs41 (by simp; omega)
    have hb6 := hb6_
    refine WL.storeC rfl rfl (by first | rfl | assumption | exact NU.one (by assumption)) hb7 (by simp) rfl fun ws42 hb7_ hcs42 => ?_
    try simp only [Sx.splice, qt] at hb7_
    have hch := hch.s1 hcs42
    have hb6 := hb6.keep hcs42 (by simp; omega)
    have hb21 := hb21.keep hcs42 (by simp; omega)
    have hb7 := hb7_
    refine WL.nil (kr18 _ _ _ (kh17 _ _ _ ?_))
    refine CW.ret ?_
    refine clean_door rfl rfl rfl hb6 hb7 hneb67 fun w9 hc9 => ?_
    have hch := hch.step hc9 (fun y hy => by simp only [List.mem_singleton] at hy; subst hy; exact .inr (by omega))
    refine ⟨⟨_, _, rfl, .inr ⟨hmode, .inr ⟨⟨h1, h2⟩, ?_⟩⟩⟩, hch⟩
    rw [hM.err]; exact hM

set_option maxRecDepth 8000 in
set_option maxHeartbeats 1000000 in
theorem mOf_spec (na : Bool) (va : Value) (la : List Nat) (ea n mode : Int) (w : World) (ha : NU w va la) (hg : GW w) (hea : -9223372036854775808 ≤ ea ∧ ea ≤ 9223372036854775807) : Ret Tryz.prog 10 [.agg [.bool na, va, .int .i64 ea].toArray, .int .i64 n, .int .i64 mode] w fun u w' => (∃ bits e, u = .tuple [.float .f64 bits, .int .i64 e].toArray ∧ ofR na (val la) ea n mode bits e) ∧ Chg [] w w' := by
 have hch : Chg [] w w := Chg.refl _ _
 have hg0 := hg
 have hoa := ha.one
 have ha0 := ha
 refine Ret.enterD 31 hasF31 Tryz.func10 rfl rfl ?_
 simp only [args0, Nat.zero_add, Nat.reduceAdd]
 refine Sq fun _ kh1 _ kr2 => ?_
 refine WL.boxB rfl rfl rfl fun b3 wm3 hb3 hcm3 hge3 => ?_
 have hgehch3 := Nat.le_trans hch.size hge3
 have hch := hch.trans (Chg.any hcm3)
 have ha := ha.keep0 hcm3
 refine WL.allocB (l := [.float .f64 0]) rfl rfl fun b6 wm6 hb6 hcm6 hge6 => ?_
 have hgehch6 := Nat.le_trans hch.size hge6
 have hch := hch.trans (Chg.any hcm6)
 have ha := ha.keep0 hcm6
 have hneb36 : b3 ≠ b6 := by have := hb3.lt; omega
 have hb3 := hb3.keep0 hcm6
 refine WL.allocB (l := [.int .i64 0]) rfl rfl fun b7 wm7 hb7 hcm7 hge7 => ?_
 have hgehch7 := Nat.le_trans hch.size hge7
 have hch := hch.trans (Chg.any hcm7)
 have ha := ha.keep0 hcm7
 have hneb37 : b3 ≠ b7 := by have := hb3.lt; omega
 have hb3 := hb3.keep0 hcm7
 have hneb67 : b6 ≠ b7 := by have := hb6.lt; omega
 have hb6 := hb6.keep0 hcm7
 refine WL.nil (kr2 _ _ _ (kh1 _ _ _ ?_))
 refine Sq fun _ kh3 _ kr4 => ?_
 refine WL.defer rfl ?_
 refine WL.nil (kr4 _ _ _ (kh3 _ _ _ ?_))
 refine CW.seq fun _ kh5 => ?_
 refine CW.seqM 18 (decide (¬ ((0 ≤ mode ∧ mode ≤ 4) ∧ 1 ≤ n ∧ n ≤ 1099511627776))) ?_ ?_
 ·
  refine CW.region fun kR6 kr6 => ?_
  refine Mv rfl rfl ?_
  refine WL.call hasF32 rfl rfl (right_spec mode _) fun v w1 h' => ?_
  obtain ⟨rfl, rfl⟩ := h'
  refine WL.ev (Ev.not rfl) rfl ?_
  refine Mv rfl rfl ?_
  refine WL.boolCase (fun hg1 => ?_) (fun hg1 => ?_)
  ·
   try simp only [qs] at hg1
   have hq : ¬ (0 ≤ mode ∧ mode ≤ 4) := by simpa using hg1
   refine WL.pass rfl rfl rfl rfl rfl ?_
   refine WL.pass rfl rfl rfl rfl rfl ?_
   refine WL.ev (Ev.pickT rfl rfl rfl) rfl ?_
   refine Mv rfl rfl ?_
   refine WL.pass rfl rfl rfl rfl rfl ?_
   refine WL.pass rfl rfl rfl rfl rfl ?_
   refine WL.ev (Ev.pickT rfl rfl rfl) rfl ?_
   refine WL.nil (kr6 _ _ _ ?_)
   refine ⟨rfl, rfl, Subs.consB rfl ?_ ?_⟩
   ·
    first | (simp; omega) | (refine decide_eq_decide.2 ?_; omega)
   ·
    first | ((repeat (first | exact Subs.refl | refine Subs.drop1 (by rfl) ?_)); done) | ((repeat (first | exact Subs.nil | refine Subs.cons rfl ?_)); done)
  ·
   try simp only [qs] at hg1
   have hq : 0 ≤ mode ∧ mode ≤ 4 := by simpa using hg1
   refine WL.want rfl rfl rfl rfl ?_
   refine Mv rfl rfl ?_
   refine WL.want rfl rfl rfl rfl ?_
   refine WL.ev (Ev.lss rfl rfl) rfl ?_
   refine WL.ev (Ev.pickF rfl rfl rfl) rfl ?_
   refine Mv rfl rfl ?_
   refine WL.boolCase (fun hg2 => ?_) (fun hg2 => ?_)
   ·
    try simp only [qs] at hg2
    refine WL.pass rfl rfl rfl rfl rfl ?_
    refine WL.pass rfl rfl rfl rfl rfl ?_
    refine WL.ev (Ev.pickT rfl rfl rfl) rfl ?_
    refine WL.nil (kr6 _ _ _ ?_)
    refine ⟨rfl, rfl, Subs.consB rfl ?_ ?_⟩
    ·
     first | (simp; omega) | (refine decide_eq_decide.2 ?_; omega)
    ·
     first | ((repeat (first | exact Subs.refl | refine Subs.drop1 (by rfl) ?_)); done) | ((repeat (first | exact Subs.nil | refine Subs.cons rfl ?_)); done)
   ·
    try simp only [qs] at hg2
    refine WL.want rfl rfl rfl rfl ?_
    refine Mv rfl rfl ?_
    refine WL.want rfl rfl rfl rfl ?_
    refine WL.ev (Ev.gtr rfl rfl) rfl ?_
    refine WL.ev (Ev.pickF rfl rfl rfl) rfl ?_
    refine WL.nil (kr6 _ _ _ ?_)
    refine ⟨rfl, rfl, Subs.consB rfl ?_ ?_⟩
    ·
     first | (simp; omega) | (refine decide_eq_decide.2 ?_; omega)
    ·
     first | ((repeat (first | exact Subs.refl | refine Subs.drop1 (by rfl) ?_)); done) | ((repeat (first | exact Subs.nil | refine Subs.cons rfl ?_)); done)
 ·
  refine CW.cond rfl (fun hc3 => ?_) (fun hc3 => ?_)
  ·
   try simp only [qs] at hc3
   have hbad : ¬ ((0 ≤ mode ∧ mode ≤ 4) ∧ 1 ≤ n ∧ n ≤ 1099511627776) := hc3
   refine Sq fun _ kh7 _ kr8 => ?_
   refine WL.storeC rfl rfl (by first | rfl | assumption | exact NU.one (by assumption)) hb6 (by simp) rfl fun ws43 hb6_ hcs43 => ?_
   try simp only [Sx.splice, qt] at hb6_
   have hch := hch.s1 hcs43
   have hb3 := hb3.keep hcs43 (by simp; omega)
   have hb7 := hb7.keep hcs43 (by simp; omega)
   have ha := ha.keepBK hb6 hcs43 an
   have hb6 := hb6_
   refine WL.storeC rfl rfl (by first | rfl | assumption | exact NU.one (by assumption)) hb7 (by simp) rfl fun ws44 hb7_ hcs44 => ?_
   try simp only [Sx.splice, qt] at hb7_
   have hch := hch.s1 hcs44
   have hb3 := hb3.keep hcs44 (by simp; omega)
   have hb6 := hb6.keep hcs44 (by simp; omega)
   have ha := ha.keepBK hb7 hcs44 an
   have hb7 := hb7_
   refine WL.nil (kr8 _ _ _ (kh7 _ _ _ ?_))
   refine CW.ret ?_
   refine clean_door rfl rfl rfl hb6 hb7 hneb67 fun w9 hc9 => ?_
   have hch := hch.step hc9 (fun y hy => by simp only [List.mem_singleton] at hy; subst hy; exact .inr (by omega))
   exact ⟨⟨_, _, rfl, .inl ⟨hbad, rfl, rfl⟩⟩, hch⟩
  ·
   try simp only [qs] at hc3
   have hgood : (0 ≤ mode ∧ mode ≤ 4) ∧ 1 ≤ n ∧ n ≤ 1099511627776 := by have := hc3; omega
   refine CW.skip ?_
   refine kh5 _ _ _ ?_
   refine Sq fun _ kh9 _ kr10 => ?_
   refine WL.ev (Ev.fieldAddr rfl) rfl ?_
   refine WL.ev (Ev.load rfl rfl (hb3.at_ rfl)) rfl ?_
   refine WL.ev (Ev.fieldAddr rfl) rfl ?_
   refine WL.ev (Ev.load rfl rfl (hb3.at_ rfl)) rfl ?_
   refine WL.ev (Ev.fieldAddr rfl) rfl ?_
   refine WL.ev (Ev.load rfl rfl (hb3.at_ rfl)) rfl ?_
   refine WL.call hasF33 rfl rfl (Make_spec na va la ea _ ha (hg0.keep0 hch) hea) fun v w2 h' => ?_
   obtain ⟨hD26, hC26⟩ := h'
   have hch := hch.trans (Chg.any hC26)
   have hb3 := hb3.keep0 hC26
   have hb6 := hb6.keep0 hC26
   have hb7 := hb7.keep0 hC26
   have ha := ha.keep0 hC26
   rcases hD26 with ⟨r, d, hd, rfl, hNr⟩ | ⟨hd, rfl⟩
   ·
    have hok := formD_ok hd
    refine Mv rfl rfl ?_
    refine WL.ev (Ev.extract rfl rfl) rfl ?_
    refine WL.ev (Ev.extract rfl rfl) rfl ?_
    refine WL.storeB rfl rfl rfl ao hb3 (by simp) rfl fun ws45 hb3_ hcs45 => ?_
    try simp only [Sx.splice, qt] at hb3_
    have hch := hch.s1 hcs45
    have hb6 := hb6.keep hcs45 (by simp; omega)
    have hb7 := hb7.keep hcs45 (by simp; omega)
    have ha := ha.keepBK hb3 hcs45 an
    have hNr := hNr.keepBK hb3 hcs45 an
    have hb3 := hb3_
    refine WL.storeC rfl rfl (by first | rfl | assumption | exact NU.one (by assumption)) hb7 (by simp) rfl fun ws46 hb7_ hcs46 => ?_
    try simp only [Sx.splice, qt] at hb7_
    have hch := hch.s1 hcs46
    have hb3 := hb3.keep hcs46 (by simp; omega)
    have hb6 := hb6.keep hcs46 (by simp; omega)
    have ha := ha.keepBK hb7 hcs46 an
    have hNr := hNr.keepBK hb7 hcs46 an
    have hb7 := hb7_
    refine WL.nil (kr10 _ _ _ (kh9 _ _ _ ?_))
    refine CW.seq fun _ kh11 => ?_
    refine Sq fun _ kh12 _ kr13 => ?_
    refine WL.ev (Ev.load rfl rfl (hb7.at_ rfl)) rfl ?_
    refine WL.ev (Ev.neq rfl rfl) rfl ?_
    refine WL.nil (kr13 _ _ _ (kh12 _ _ _ ?_))
    refine CW.condF rfl ?_
    refine CW.skip ?_
    refine kh11 _ _ _ ?_
    refine Sq fun _ kh14 _ kr15 => ?_
    refine WL.ev (Ev.loadA rfl rfl hb3 rfl) rfl ?_
    refine Mv rfl rfl ?_
    rw [show n = ((n.toNat : Nat) : Int) by omega]
    refine WL.ev (Ev.build (vs := _) (cs := [_, _, _, _, _, _]) rfl rfl) rfl ?_
    refine Mv rfl rfl ?_
    refine WL.call hasF34 rfl rfl (told_spec d r n.toNat SP.zero mode _ hNr hok (by omega) ⟨by decide, by decide, by decide, by decide, by decide, by decide⟩ (hg0.keep0 hch)) fun v w3 h' => ?_
    obtain ⟨⟨bits, e, rfl, hT⟩, hC36⟩ := h'
    have hch := hch.trans (Chg.any hC36)
    have hb3 := hb3.keep0 hC36
    have hb6 := hb6.keep0 hC36
    have hb7 := hb7.keep0 hC36
    have ha := ha.keep0 hC36
    have hNr := hNr.keep0 hC36
    refine WL.ev (Ev.extract rfl rfl) rfl ?_
    refine WL.ev (Ev.extract rfl rfl) rfl ?_
    refine WL.storeC rfl rfl (by first | rfl | assumption | exact NU.one (by assumption)) hb6 (by simp) rfl fun ws47 hb6_ hcs47 => ?_
    try simp only [Sx.splice, qt] at hb6_
    have hch := hch.s1 hcs47
    have hb3 := hb3.keep hcs47 (by simp; omega)
    have hb7 := hb7.keep hcs47 (by simp; omega)
    have hb6 := hb6_
    refine WL.storeC rfl rfl (by first | rfl | assumption | exact NU.one (by assumption)) hb7 (by simp) rfl fun ws48 hb7_ hcs48 => ?_
    try simp only [Sx.splice, qt] at hb7_
    have hch := hch.s1 hcs48
    have hb3 := hb3.keep hcs48 (by simp; omega)
    have hb6 := hb6.keep hcs48 (by simp; omega)
    have hb7 := hb7_
    refine WL.nil (kr15 _ _ _ (kh14 _ _ _ ?_))
    refine CW.ret ?_
    refine clean_door rfl rfl rfl hb6 hb7 hneb67 fun w9 hc9 => ?_
    have hch := hch.step hc9 (fun y hy => by simp only [List.mem_singleton] at hy; subst hy; exact .inr (by omega))
    refine ⟨⟨_, _, rfl, .inr ⟨hgood, .inr ⟨d, hd, ?_⟩⟩⟩, hch⟩
    rw [hT.err]; exact hT
   ·
    refine Mv rfl rfl ?_
    refine WL.ev (Ev.extract rfl rfl) rfl ?_
    refine WL.ev (Ev.extract rfl rfl) rfl ?_
    refine WL.storeB rfl rfl rfl ao hb3 (by simp) rfl fun ws49 hb3_ hcs49 => ?_
    try simp only [Sx.splice, qt] at hb3_
    have hch := hch.s1 hcs49
    have hb6 := hb6.keep hcs49 (by simp; omega)
    have hb7 := hb7.keep hcs49 (by simp; omega)
    have hb3 := hb3_
    refine WL.storeC rfl rfl (by first | rfl | assumption | exact NU.one (by assumption)) hb7 (by simp) rfl fun ws50 hb7_ hcs50 => ?_
    try simp only [Sx.splice, qt] at hb7_
    have hch := hch.s1 hcs50
    have hb3 := hb3.keep hcs50 (by simp; omega)
    have hb6 := hb6.keep hcs50 (by simp; omega)
    have hb7 := hb7_
    refine WL.nil (kr10 _ _ _ (kh9 _ _ _ ?_))
    refine CW.seq fun _ kh16 => ?_
    refine Sq fun _ kh17 _ kr18 => ?_
    refine WL.ev (Ev.load rfl rfl (hb7.at_ rfl)) rfl ?_
    refine WL.ev (Ev.neq rfl rfl) rfl ?_
    refine WL.nil (kr18 _ _ _ (kh17 _ _ _ ?_))
    refine CW.condT rfl ?_
    refine Sq fun _ kh19 _ kr20 => ?_
    refine WL.ev (Ev.load rfl rfl (hb7.at_ rfl)) rfl ?_
    refine WL.storeC rfl rfl (by first | rfl | assumption | exact NU.one (by assumption)) hb6 (by simp) rfl fun ws51 hb6_ hcs51 => ?_
    try simp only [Sx.splice, qt] at hb6_
    have hch := hch.s1 hcs51
    have hb3 := hb3.keep hcs51 (by simp; omega)
    have hb7 := hb7.keep hcs51 (by simp; omega)
    have hb6 := hb6_
    refine WL.storeC rfl rfl (by first | rfl | assumption | exact NU.one (by assumption)) hb7 (by simp) rfl fun ws52 hb7_ hcs52 => ?_
    try simp only [Sx.splice, qt] at hb7_
    have hch := hch.s1 hcs52
    have hb3 := hb3.keep hcs52 (by simp; omega)
    have hb6 := hb6.keep hcs52 (by simp; omega)
    have hb7 := hb7_
    refine WL.nil (kr20 _ _ _ (kh19 _ _ _ ?_))
    refine CW.ret ?_
    refine clean_door rfl rfl rfl hb6 hb7 hneb67 fun w9 hc9 => ?_
    have hch := hch.step hc9 (fun y hy => by simp only [List.mem_singleton] at hy; subst hy; exact .inr (by omega))
    exact ⟨⟨_, _, rfl, .inr ⟨hgood, .inl ⟨hd, rfl, rfl⟩⟩⟩, hch⟩

end Go.Proofs.YtphnpchmdpjabaaGreatDoor

/- Means as plain numbers: what told and Weighted come to; the values that the statements ask. No condition. -/
namespace Go.Proofs.YtphnpchmdpjabaaGreatDoor
open Go Sx Wd
set_option exponentiation.threshold 9000

theorem sgD_one (n : Nat) (neg : Bool) (h : n ≠ 0) (hn : neg = false) : sgD neg n = 1 := by unfold sgD; rw [if_neg h, hn]; rfl
theorem intD_form {n : Nat} (h0 : n ≠ 0) (hn : n < 18446744073709551616) : ∃ t : Nat, n = (intD (n : Int)).m * 2 ^ t ∧ (intD (n : Int)).e = t ∧ (intD (n : Int)).neg = false := by
  have h := intD_eq (n := (n : Int)) (by omega)
  rw [show decide ((n : Int) < 0) = false from decide_eq_false (by omega), Int.natAbs_natCast] at h
  obtain ⟨t, h1, h2, h3⟩ := formD_val h h0
  exact ⟨t, h1, by omega, h3⟩
/-- The exact sum S (in units of 2^-2148) through n, rounded. -/
def MeanQ (S : Int) (n : Nat) (mode : Int) (bits : Nat) : Prop :=
  ∃ r, IsNear S.natAbs (n * 2 ^ 1073) (decide (S < 0)) mode r ∧ r ≤ 9218868437227405312 ∧ bits = (if S < 0 then r + 9223372036854775808 else r)
/-- A ratio of forms by what they were made of. -/
theorem near_forms {x y : Nat} {ex ey : Int} {s t : Nat} {A B : Nat} {neg : Bool} {mode : Int} {r : Nat} {u v : Nat} (hy : y ≠ 0) (hA : A = x * 2 ^ s * 2 ^ u) (hB : B = y * 2 ^ t * 2 ^ v) (he : ex - ey + 1075 + (t : Int) + (v : Int) = (s : Int) + (u : Int)) :
    IsNear (dyA x (ex - ey)) (y * dyB (ex - ey)) neg mode r ↔ IsNear A B neg mode r := by
  have hB0 : 0 < B := by rw [hB]; exact Nat.mul_pos (Nat.mul_pos (by omega) (Nat.two_pow_pos _)) (Nat.two_pow_pos _)
  have hD0 : 0 < y * dyB (ex - ey) := Nat.mul_pos (by omega) (dyB_pos _)
  have hv : dyA x (ex - ey) * B = A * (y * dyB (ex - ey)) := by
    rw [hA, hB]
    unfold dyA dyB
    have e : (ex - ey + 1075).toNat + t + v = s + u + (-(ex - ey + 1075)).toNat := by omega
    calc x * 2 ^ (ex - ey + 1075).toNat * (y * 2 ^ t * 2 ^ v) = x * y * (2 ^ (ex - ey + 1075).toNat * 2 ^ t * 2 ^ v) := by ac_rfl
      _ = x * y * (2 ^ s * 2 ^ u * 2 ^ (-(ex - ey + 1075)).toNat) := by rw [← Nat.pow_add, ← Nat.pow_add, e, Nat.pow_add, Nat.pow_add]
      _ = _ := by ac_rfl
  exact ⟨fun h => h.congr hD0 hB0 hv, fun h => h.congr hB0 hD0 hv.symm⟩
theorem quot_sum {S : Int} {n : Nat} {mode : Int} {bits : Nat} {e : Int} (h1 : -((16384 * BB : Nat) : Int) < S) (h2 : S < (16384 * BB : Nat)) (hS : S ≠ 0) (hn : n ≠ 0) (hn2 : n ≤ 1099511627776) (hm : 0 ≤ mode ∧ mode ≤ 4)
    (h : QuotP (sumD S).neg (intD n).neg (sumD S).m (intD n).m (sumD S).e (intD n).e mode bits e) : e = 0 ∧ MeanQ S n mode bits := by
  have hokS := sumD_ok h1 h2
  have hokN := intD_ok (n := (n : Int)) (by omega)
  obtain ⟨t, q1, q2, q3⟩ := intD_form hn (by omega)
  have hm0 : (intD (n : Int)).m ≠ 0 := fun e => by rw [e, Nat.zero_mul] at q1; exact hn q1
  have hsg := sgD_one (intD (n : Int)).m (intD (n : Int)).neg hm0 q3
  have hf1 := formD_self hokS
  have hf2 := formD_self hokN
  have hform := sumD_form h1 h2 hS
  have htz := (tz_spec (n := S.natAbs) (by omega)).2
  rcases h with ⟨hh, _⟩ | ⟨_, ⟨hh, _⟩ | ⟨_, hh, _⟩ | ⟨_, x, y, hx, hy, ⟨hh, _⟩ | ⟨hy0, r, hN, hr, hb, he⟩⟩⟩
  · exact absurd hm hh
  · rw [hsg] at hh; exact absurd hh (by decide)
  · rw [hf1, hf2] at hh; rcases hh with hh | hh <;> cases hh
  · rw [hf2] at hy; cases hy; exact absurd hh hm0
  · rw [hf1] at hx; cases hx
    rw [hf2] at hy; cases hy
    have hneg : (sumD S).neg = decide (S < 0) := by rw [hform]
    have hmS : S.natAbs = (sumD S).m * 2 ^ tz S.natAbs := by rw [hform]; exact htz
    have heS : (sumD S).e = -2148 + tz S.natAbs := by rw [hform]
    rw [hneg] at hN hb
    refine ⟨he, r, (near_forms (s := tz S.natAbs) (t := t) (u := 0) (v := 1073) hy0 (A := S.natAbs) (B := n * 2 ^ 1073) (by rw [Nat.pow_zero, Nat.mul_one]; exact hmS) (by rw [← q1]) (by omega)).1 hN, hr, ?_⟩
    rw [hb]
    by_cases q : S < 0
    · simp [q]
    · simp [q]
/-- What told answers of a sum. -/
theorem told_sum {S : Int} {n : Nat} {s : SP} {mode : Int} {bits : Nat} {e : Int} (h1 : -((16384 * BB : Nat) : Int) < S) (h2 : S < (16384 * BB : Nat)) (hn : n ≠ 0) (hn2 : n ≤ 1099511627776) (hm : 0 ≤ mode ∧ mode ≤ 4)
    (h : toldR (sumD S) n s mode bits e) : e = 0 ∧ ((S = 0 ∧ bits = noughtP s mode) ∨ (S ≠ 0 ∧ MeanQ S n mode bits)) := by
  rcases h with ⟨hz, hb, he⟩ | ⟨hz, hq⟩
  · exact ⟨he, .inl ⟨(sumD_m0 h1 h2).1 hz, hb⟩⟩
  · have hS : S ≠ 0 := fun e => hz ((sumD_m0 h1 h2).2 e)
    obtain ⟨he, hM⟩ := quot_sum h1 h2 hS hn hn2 hm hq
    exact ⟨he, .inr ⟨hS, hM⟩⟩
theorem MeanQ.unique {S : Int} {n : Nat} {mode : Int} {b b' : Nat} (hn : n ≠ 0) (h : MeanQ S n mode b) (h' : MeanQ S n mode b') : b = b' := by
  obtain ⟨r, h1, _, rfl⟩ := h
  obtain ⟨r', h2, _, rfl⟩ := h'
  rw [h1.unique (Nat.mul_pos (by omega) (Nat.two_pow_pos _)) h2]
/-- Mean of a list of finite numbers. -/
theorem mean_fin {l : List Nat} {mode pn pi : Int} {bits : Nat} {e : Int} (h : meanR l mode pn pi bits e) (hm : 0 ≤ mode ∧ mode ≤ 4) (hs : siftE l pn pi = 0) (hv : verdP (cntP l) pn pi = none) (hf : filP l ≠ []) :
    e = 0 ∧ ((sumI (filP l) = 0 ∧ bits = noughtP (cntP l) mode) ∨ (sumI (filP l) ≠ 0 ∧ MeanQ (sumI (filP l)) (filP l).length mode bits)) := by
  have hl := (siftE_len hs).1
  have hfl := filP_le l
  have hin := sumI_in (l := filP l) (by omega)
  rcases h with ⟨hh, _⟩ | ⟨_, ⟨hh, _⟩ | ⟨_, ⟨hh, _⟩ | ⟨_, ⟨hh, _⟩ | ⟨_, hT⟩⟩⟩⟩
  · exact absurd hm hh
  · exact absurd hs hh
  · rw [hv] at hh; cases hh
  · exact absurd hh hf
  · exact told_sum hin.1 hin.2 (fun e => hf (List.length_eq_zero_iff.1 e)) (by omega) hm hT
/-- What a ratio of sums comes to. -/
theorem quo_sum {N W : Int} {mode : Int} {bits : Nat} {e : Int} (h1 : -((16384 * BB : Nat) : Int) < N) (h2 : N < (16384 * BB : Nat)) (h3 : 0 < W) (h4 : W < (16384 * BB : Nat)) (hm : 0 ≤ mode ∧ mode ≤ 4)
    (h : QuoD N W mode bits e) : e = 0 ∧ ∃ r, IsNear (N.natAbs * 2 ^ 1075) W.natAbs (decide (N < 0)) mode r ∧ r ≤ 9218868437227405312 ∧ bits = (if N < 0 then r + 9223372036854775808 else r) := by
  have hW : -((16384 * BB : Nat) : Int) < W := by omega
  have hokN := sumD_ok h1 h2
  have hokW := sumD_ok hW h4
  have hsg := sumD_sg hW h4
  rw [if_neg (by omega), if_neg (by omega)] at hsg
  have hm0 : (sumD W).m ≠ 0 := fun e => by have := (sumD_m0 hW h4).1 e; omega
  have hf1 := formD_self hokN
  have hf2 := formD_self hokW
  have hformW := sumD_form hW h4 (by omega)
  have htzW := (tz_spec (n := W.natAbs) (by omega)).2
  have hmW : W.natAbs = (sumD W).m * 2 ^ tz W.natAbs := by rw [hformW]; exact htzW
  have heW : (sumD W).e = -2148 + tz W.natAbs := by rw [hformW]
  unfold QuoD at h
  rcases h with ⟨hh, _⟩ | ⟨_, ⟨hh, _⟩ | ⟨_, hh, _⟩ | ⟨_, x, y, hx, hy, ⟨hh, _⟩ | ⟨hy0, r, hN, hr, hb, he⟩⟩⟩
  · exact absurd hm hh
  · rw [hsg] at hh; exact absurd hh (by decide)
  · rw [hf1, hf2] at hh; rcases hh with hh | hh <;> cases hh
  · rw [hf2] at hy; cases hy; exact absurd hh hm0
  · rw [hf1] at hx; cases hx
    rw [hf2] at hy; cases hy
    refine ⟨he, r, ?_, hr, ?_⟩
    · by_cases hN0 : N = 0
      · subst hN0
        have e1 : dyA (sumD 0).m ((sumD 0).e - (sumD W).e) = 0 := by unfold dyA; rw [sumD_zero]; simp [Dy.zero]
        rw [e1] at hN
        have : r = 0 := hN.unique (Nat.mul_pos (by omega) (dyB_pos _)) (near_zero (Nat.mul_pos (by omega) (dyB_pos _)) _ _)
        subst this
        simp only [Int.natAbs_zero, Nat.zero_mul]
        exact near_zero (by omega) _ _
      · have hform := sumD_form h1 h2 hN0
        have htz := (tz_spec (n := N.natAbs) (by omega)).2
        have hneg : (sumD N).neg = decide (N < 0) := by rw [hform]
        have hmN : N.natAbs = (sumD N).m * 2 ^ tz N.natAbs := by rw [hform]; exact htz
        have heN : (sumD N).e = -2148 + tz N.natAbs := by rw [hform]
        rw [hneg] at hN
        exact (near_forms (s := tz N.natAbs) (t := tz W.natAbs) (u := 1075) (v := 0) hy0 (A := N.natAbs * 2 ^ 1075) (B := W.natAbs) (by rw [← hmN]) (by rw [Nat.pow_zero, Nat.mul_one]; exact hmW) (by omega)).1 hN
    · rw [hb]
      by_cases hN0 : N = 0
      · subst hN0; rfl
      · rw [sumD_form h1 h2 hN0]
        by_cases q : N < 0
        · simp [q]
        · simp [q]
/-- A value that is the number r. -/
theorem near_is {A B : Nat} {neg : Bool} {mode : Int} {r : Nat} (hr : r < 9218868437227405312) (hB : 0 < B) (h : 2 * nz r * B = A) : IsNear A B neg mode r :=
  ⟨r, hr, Nat.le_of_eq h, .inl (by have := nz_lt_succ r; rw [← h]; exact Nat.mul_lt_mul_of_pos_right (by omega) hB), by rw [if_pos h]⟩
end Go.Proofs.YtphnpchmdpjabaaGreatDoor

/- The order of finite numbers, by their values; the least and the greatest of two. No condition. -/
namespace Go.Proofs.YtphnpchmdpjabaaGreatDoor
open Go Sx Wd
set_option exponentiation.threshold 9000
set_option maxRecDepth 4000

section
variable {P : Program} {s : Sl} {w : World} {ty : TypeId} {x y : Operand} {t t' : TypeId} {a b : Nat}
end
end Go.Proofs.YtphnpchmdpjabaaGreatDoor

/- Means of finite numbers: from the least to the greatest; of like numbers; signs turned. No condition. -/
namespace Go.Proofs.YtphnpchmdpjabaaGreatDoor
open Go Sx Wd
set_option exponentiation.threshold 9000

end Go.Proofs.YtphnpchmdpjabaaGreatDoor

/- Reference of layer 13: Told, finite. No condition. -/
namespace Go.Proofs.YtphnpchmdpjabaaGreatDoor
open Go Sx Wd

theorem r13no_spec (e : Int) (w : World) : Ret Tryz.prog 36 [.int .i64 e] w fun u w' => u = .tuple [.float .f64 0, .int .i64 e].toArray ∧ w = w' := by
 refine Ret.enter Tryz.func36 rfl rfl ?_
 simp only [args0, Nat.zero_add, Nat.reduceAdd]
 refine Sq fun _ kh1 _ kr2 => ?_
 refine As rfl rfl ?_
 refine As rfl rfl ?_
 refine WL.nil (kr2 _ _ _ (kh1 _ _ _ ?_))
 refine Sq fun _ kh3 _ kr4 => ?_
 refine WL.call hasF61 rfl rfl (r1Of_spec 0 _ (by omega)) fun v w1 h' => ?_
 obtain ⟨rfl, rfl⟩ := h'
 refine Mv rfl rfl ?_
 refine As rfl rfl ?_
 refine As rfl rfl ?_
 refine WL.nil (kr4 _ _ _ (kh3 _ _ _ ?_))
 refine CW.ret ?_
 refine bodyA.ret2 rfl rfl rfl ?_
 exact ⟨rfl, rfl⟩

theorem quot_zero {d y : Dy} {mode : Int} {bits : Nat} {e : Int} (hm : 0 ≤ mode ∧ mode ≤ 4) (hd : d = Dy.zero) (hy : y.ok) (hy0 : y.m ≠ 0) (hs : 0 ≤ sgD y.neg y.m) (h : QuotP d.neg y.neg d.m y.m d.e y.e mode bits e) : bits = 0 ∧ e = 0 := by
  subst hd
  rcases h with ⟨q, _⟩ | ⟨_, ⟨q, _⟩ | ⟨_, q, _⟩ | ⟨_, a, b, ha, hb, ⟨q, _⟩ | ⟨_, r, hN, _, hbits, he⟩⟩⟩
  · exact absurd hm q
  · omega
  · rcases q with q | q
    · cases q
    · rw [formD_self hy] at q; cases q
  · rw [formD_self hy] at hb; cases hb; exact absurd q hy0
  · rw [formD_self hy] at hb; cases hb
    cases ha
    have h0 := near_zero (B := y.m * dyB (Dy.zero.e - y.e)) (Nat.mul_pos (by omega) (dyB_pos _)) Dy.zero.neg mode
    have e0 : dyA Dy.zero.m (Dy.zero.e - y.e) = 0 := by unfold dyA; rw [show Dy.zero.m = 0 from rfl, Nat.zero_mul]
    rw [e0] at hN
    have := hN.unique (Nat.mul_pos (by omega) (dyB_pos _)) h0
    subst this
    exact ⟨by rw [hbits]; rfl, he⟩

end Go.Proofs.YtphnpchmdpjabaaGreatDoor

/- Reference of layer 13: Mean. No condition. -/
namespace Go.Proofs.YtphnpchmdpjabaaGreatDoor
open Go Sx Wd

end Go.Proofs.YtphnpchmdpjabaaGreatDoor

/- Reference of layer 13: Middle, Of. No condition. -/
namespace Go.Proofs.YtphnpchmdpjabaaGreatDoor
open Go Sx Wd

theorem intD_m {n : Int} (h1 : 1 ≤ n) (h2 : n ≤ 1099511627776) : (intD n).m ≠ 0 := by
  have e := intD_eq (n := n) (by omega)
  obtain ⟨t, ht, _⟩ := formD_val e (by omega)
  intro q
  rw [q, Nat.zero_mul] at ht
  omega
theorem intD_sg {n : Int} (h1 : 1 ≤ n) : 0 ≤ sgD (intD n).neg (intD n).m := by
  have hneg : (intD n).neg = false := by
    have hd : decide (n < 0) = false := decide_eq_false (by omega)
    unfold intD
    rw [hd]
    cases q : formD false n.natAbs 0 with
    | none => rfl
    | some d =>
      by_cases h0 : n.natAbs = 0
      · omega
      · obtain ⟨_, _, _, h⟩ := formD_val q h0
        exact h
  unfold sgD
  rw [hneg]
  split <;> simp

set_option maxRecDepth 8000 in
set_option maxHeartbeats 2000000 in
theorem r13Of_spec (na : Bool) (va : Value) (la : List Nat) (ea n mode : Int) (w : World) (ha : NU w va la) (hea : -9223372036854775808 ≤ ea ∧ ea ≤ 9223372036854775807) (hla : la.length ≤ 34359738368) : Ret Tryz.prog 12 [.agg [.bool na, va, .int .i64 ea].toArray, .int .i64 n, .int .i64 mode] w fun u w' => (∃ bits e, u = .tuple [.float .f64 bits, .int .i64 e].toArray ∧ ofR na (val la) ea n mode bits e) ∧ Chg [] w w' := by
  have hch : Chg [] w w := Chg.refl _ _
  have hoa := ha.one
  refine Ret.enter Tryz.func12 rfl rfl ?_
  simp only [args0, Nat.zero_add, Nat.reduceAdd]
  refine Sq fun _ kh1 _ kr2 => ?_
  refine WL.boxB rfl rfl rfl fun b3 wm3 hb3 hcm3 hge3 => ?_
  have hgehch3 := Nat.le_trans hch.size hge3
  have hch := hch.trans (Chg.any hcm3)
  have ha := ha.keep0 hcm3
  refine As rfl rfl ?_
  refine As rfl rfl ?_
  refine WL.nil (kr2 _ _ _ (kh1 _ _ _ ?_))
  refine CW.seq fun _ kh3 => ?_
  refine CW.seqM 23 (decide (((mode < 0 ∨ 4 < mode) ∨ n < 1) ∨ 1099511627776 < n)) ?_ ?_
  ·
    refine CW.region fun kR4 kr4 => ?_
    refine Mv rfl rfl ?_
    refine WL.ev (Ev.lss rfl rfl) rfl ?_
    refine Mv rfl rfl ?_
    refine WL.boolCase (fun hg1 => ?_) (fun hg1 => ?_)
    ·
      try simp only [qs] at hg1
      refine WL.pass rfl rfl rfl rfl rfl ?_
      refine WL.pass rfl rfl rfl rfl rfl ?_
      refine WL.ev (Ev.pickT rfl rfl rfl) rfl ?_
      refine Mv rfl rfl ?_
      refine WL.pass rfl rfl rfl rfl rfl ?_
      refine WL.pass rfl rfl rfl rfl rfl ?_
      refine WL.ev (Ev.pickT rfl rfl rfl) rfl ?_
      refine Mv rfl rfl ?_
      refine WL.pass rfl rfl rfl rfl rfl ?_
      refine WL.pass rfl rfl rfl rfl rfl ?_
      refine WL.ev (Ev.pickT rfl rfl rfl) rfl ?_
      refine WL.nil (kr4 _ _ _ ?_)
      refine ⟨rfl, rfl, Subs.consB rfl ?_ ?_⟩
      ·
        first | (simp; omega) | (simp_all; done) | (refine decide_eq_decide.2 ?_; omega)
      ·
        first | ((repeat (first | exact Subs.refl | refine Subs.drop1 (by rfl) ?_)); done) | ((repeat (first | exact Subs.nil | refine Subs.cons rfl ?_)); done)
    ·
      try simp only [qs] at hg1
      refine WL.want rfl rfl rfl rfl ?_
      refine Mv rfl rfl ?_
      refine WL.want rfl rfl rfl rfl ?_
      refine WL.ev (Ev.gtr rfl rfl) rfl ?_
      refine WL.ev (Ev.pickF rfl rfl rfl) rfl ?_
      refine Mv rfl rfl ?_
      refine WL.boolCase (fun hg2 => ?_) (fun hg2 => ?_)
      ·
        try simp only [qs] at hg2
        refine WL.pass rfl rfl rfl rfl rfl ?_
        refine WL.pass rfl rfl rfl rfl rfl ?_
        refine WL.ev (Ev.pickT rfl rfl rfl) rfl ?_
        refine Mv rfl rfl ?_
        refine WL.pass rfl rfl rfl rfl rfl ?_
        refine WL.pass rfl rfl rfl rfl rfl ?_
        refine WL.ev (Ev.pickT rfl rfl rfl) rfl ?_
        refine WL.nil (kr4 _ _ _ ?_)
        refine ⟨rfl, rfl, Subs.consB rfl ?_ ?_⟩
        ·
          first | (simp; omega) | (simp_all; done) | (refine decide_eq_decide.2 ?_; omega)
        ·
          first | ((repeat (first | exact Subs.refl | refine Subs.drop1 (by rfl) ?_)); done) | ((repeat (first | exact Subs.nil | refine Subs.cons rfl ?_)); done)
      ·
        try simp only [qs] at hg2
        refine WL.want rfl rfl rfl rfl ?_
        refine Mv rfl rfl ?_
        refine WL.want rfl rfl rfl rfl ?_
        refine WL.ev (Ev.lss rfl rfl) rfl ?_
        refine WL.ev (Ev.pickF rfl rfl rfl) rfl ?_
        refine Mv rfl rfl ?_
        refine WL.boolCase (fun hg3 => ?_) (fun hg3 => ?_)
        ·
          try simp only [qs] at hg3
          refine WL.pass rfl rfl rfl rfl rfl ?_
          refine WL.pass rfl rfl rfl rfl rfl ?_
          refine WL.ev (Ev.pickT rfl rfl rfl) rfl ?_
          refine WL.nil (kr4 _ _ _ ?_)
          refine ⟨rfl, rfl, Subs.consB rfl ?_ ?_⟩
          ·
            first | (simp; omega) | (simp_all; done) | (refine decide_eq_decide.2 ?_; omega)
          ·
            first | ((repeat (first | exact Subs.refl | refine Subs.drop1 (by rfl) ?_)); done) | ((repeat (first | exact Subs.nil | refine Subs.cons rfl ?_)); done)
        ·
          try simp only [qs] at hg3
          refine WL.want rfl rfl rfl rfl ?_
          refine Mv rfl rfl ?_
          refine WL.want rfl rfl rfl rfl ?_
          refine WL.ev (Ev.gtr rfl rfl) rfl ?_
          refine WL.ev (Ev.pickF rfl rfl rfl) rfl ?_
          refine WL.nil (kr4 _ _ _ ?_)
          refine ⟨rfl, rfl, Subs.consB rfl ?_ ?_⟩
          ·
            first | (simp; omega) | (simp_all; done) | (refine decide_eq_decide.2 ?_; omega)
          ·
            first | ((repeat (first | exact Subs.refl | refine Subs.drop1 (by rfl) ?_)); done) | ((repeat (first | exact Subs.nil | refine Subs.cons rfl ?_)); done)
  ·
    refine CW.cond rfl (fun hc4 => ?_) (fun hc4 => ?_)
    ·
      try simp only [qs] at hc4
      have hbad := hc4
      refine Sq fun _ kh5 _ kr6 => ?_
      refine WL.call hasF36 rfl rfl (r13no_spec (1) _) fun v w1 h' => ?_
      obtain ⟨rfl, rfl⟩ := h'
      refine WL.ev (Ev.extract rfl rfl) rfl ?_
      refine WL.ev (Ev.extract rfl rfl) rfl ?_
      refine As rfl rfl ?_
      refine As rfl rfl ?_
      refine WL.nil (kr6 _ _ _ (kh5 _ _ _ ?_))
      refine CW.ret ?_
      refine bodyA.ret2 rfl rfl rfl ?_
      exact ⟨⟨0, 1, rfl, .inl ⟨by omega, rfl, rfl⟩⟩, hch⟩
    ·
      try simp only [qs] at hc4
      have hgood : (0 ≤ mode ∧ mode ≤ 4) ∧ 1 ≤ n ∧ n ≤ 1099511627776 := by have := hc4; omega
      have hok2 := intD_ok (n := n) (by omega)
      have he2 := hok2.e
      have hl2 := hok2.len
      refine CW.skip ?_
      refine kh3 _ _ _ ?_
      refine Sq fun _ kh7 _ kr8 => ?_
      refine WL.ev (Ev.loadA rfl rfl hb3 rfl) rfl ?_
      refine WL.call hasF37 rfl rfl (r3Made_spec na va la ea _ ha hea hla) fun v w2 h' => ?_
      obtain ⟨hD1, hC1⟩ := h'
      have hch := hch.trans (Chg.any hC1)
      have hb3 := hb3.keep0 hC1
      have ha := ha.keep0 hC1
      rcases hD1 with ⟨r1, d1, hd1, rfl, hNr1⟩ | ⟨hd1, rfl⟩
      ·
        have hok := formD_ok hd1
        have he := hok.e
        have hl := hok.len
        refine Mv rfl rfl ?_
        refine WL.ev (Ev.extract rfl rfl) rfl ?_
        refine WL.ev (Ev.extract rfl rfl) rfl ?_
        refine WL.allocB (l := [.bool false, .slice none 0 0, .int .i64 0]) rfl rfl fun b8 wm8 hb8 hcm8 hge8 => ?_
        have hgehch8 := Nat.le_trans hch.size hge8
        have hch := hch.trans (Chg.any hcm8)
        have ha := ha.keep0 hcm8
        have hNr1 := hNr1.keep0 hcm8
        have hneb38 : b3 ≠ b8 := by have := hb3.lt; omega
        have hb3 := hb3.keep0 hcm8
        refine WL.storeB rfl rfl rfl ao hb8 (by simp) rfl fun ws18 hb8_ hcs18 => ?_
        try simp only [Sx.splice, qt] at hb8_
        have hch := hch.s1 hcs18
        have hb3 := hb3.keep hcs18 (by simp; omega)
        have ha := ha.keepBK hb8 hcs18 an
        have hNr1 := hNr1.keepBK hb8 hcs18 an
        have hb8 := hb8_
        refine As rfl rfl ?_
        refine WL.nil (kr8 _ _ _ (kh7 _ _ _ ?_))
        refine CW.seq fun _ kh9 => ?_
        refine Sq fun _ kh10 _ kr11 => ?_
        refine Mv rfl rfl ?_
        refine WL.ev (Ev.not rfl) rfl ?_
        refine WL.nil (kr11 _ _ _ (kh10 _ _ _ ?_))
        refine CW.condF rfl ?_
        refine CW.skip ?_
        refine kh9 _ _ _ ?_
        refine CW.seq fun _ kh12 => ?_
        refine CW.regionHC 10 rfl hmix fun kR13 kr13 hS hdr => ?_
        have hch := hch.trans (Chg.any hdr)
        have hb3 := hb3.keep0 hdr
        have hb8 := hb8.keep0 hdr
        have ha := ha.keep0 hdr
        have hNr1 := hNr1.keep0 hdr
        have hch_r := hch
        have hb3_r := hb3
        have hb8_r := hb8
        refine WH.take 0 rfl (by kernel_rfl) (by kernel_rfl) (by kernel_rfl) hS (fun w' hw' => Ev.loadA rfl rfl (hb8_r.keep0 hw') rfl) rfl ?_
        refine WH.take 1 rfl (by kernel_rfl) (by kernel_rfl) (by kernel_rfl) hS (fun w' hw' => Ev.move rfl) rfl ?_
        refine WH.take 4 rfl (by kernel_rfl) (by kernel_rfl) (by kernel_rfl) hS (fun w' hw' => Ev.move rfl) rfl ?_
        refine WH.oneCall 2 rfl (by kernel_rfl) hasF39 rfl rfl (r3Int_spec n _ (by omega)) fun v w3 h' => ?_
        obtain ⟨⟨ri, rfl, hNi⟩, hC⟩ := h'
        have hch := hch.trans (Chg.any hC)
        have hb3 := hb3.keep0 hC
        have hb8 := hb8.keep0 hC
        have ha := ha.keep0 hC
        have hNr1 := hNr1.keep0 hC
        have hS := hS.trans hC
        refine ⟨hS, ?_⟩
        refine WH.take 3 rfl (by kernel_rfl) (by kernel_rfl) (by kernel_rfl) hS (fun w' hw' => Ev.build (vs := _) (cs := [_, _, _, _, _, _]) rfl rfl) rfl ?_
        refine WH.oneCall 5 rfl (by kernel_rfl) hasF38 rfl rfl (r11Quot_spec _ _ _ _ _ _ _ _ mode _ hNr1 hNi (by omega) (by omega) (by omega) (by omega)) fun v w4 h' => ?_
        obtain ⟨⟨bits, e, rfl, hQ⟩, hC⟩ := h'
        rw [val_wd, val_wd] at hQ
        have hch := hch.trans (Chg.any hC)
        have hb3 := hb3.keep0 hC
        have hb8 := hb8.keep0 hC
        have ha := ha.keep0 hC
        have hNr1 := hNr1.keep0 hC
        have hNi := hNi.keep0 hC
        have hS := hS.trans hC
        refine ⟨hS, ?_⟩
        refine WH.take 6 rfl (by kernel_rfl) (by kernel_rfl) (by kernel_rfl) hS (fun w' hw' => Ev.extract rfl rfl) rfl ?_
        refine WH.take 7 rfl (by kernel_rfl) (by kernel_rfl) (by kernel_rfl) hS (fun w' hw' => Ev.extract rfl rfl) rfl ?_
        refine WH.take 8 rfl (by kernel_rfl) (by kernel_rfl) (by kernel_rfl) hS (fun w' hw' => Ev.assign rfl) rfl ?_
        refine WH.take 9 rfl (by kernel_rfl) (by kernel_rfl) (by kernel_rfl) hS (fun w' hw' => Ev.assign rfl) rfl ?_
        refine WH.done (by kernel_rfl) (kr13 _ _ _ ?_)
        refine kh12 _ _ _ ?_
        refine CW.ret ?_
        refine bodyA.ret2 rfl rfl rfl ?_
        refine ⟨⟨bits, e, rfl, .inr ⟨hgood, .inr ⟨d1, hd1, ?_⟩⟩⟩, hch⟩
        have hnn : ((n.toNat : Nat) : Int) = n := by omega
        by_cases h0 : d1.m = 0
        · obtain ⟨q1, q2⟩ := quot_zero hgood.1 (hok.z h0) hok2 (intD_m (by omega) (by omega)) (intD_sg (by omega)) hQ
          subst q1; subst q2
          exact .inl ⟨h0, by unfold noughtP SP.zero; simp, rfl⟩
        · exact .inr ⟨h0, by rw [hnn]; exact hQ⟩
      ·
        refine Mv rfl rfl ?_
        refine WL.ev (Ev.extract rfl rfl) rfl ?_
        refine WL.ev (Ev.extract rfl rfl) rfl ?_
        refine WL.allocB (l := [.bool false, .slice none 0 0, .int .i64 0]) rfl rfl fun b8 wm8 hb8 hcm8 hge8 => ?_
        have hgehch8 := Nat.le_trans hch.size hge8
        have hch := hch.trans (Chg.any hcm8)
        have ha := ha.keep0 hcm8
        have hneb38 : b3 ≠ b8 := by have := hb3.lt; omega
        have hb3 := hb3.keep0 hcm8
        refine WL.storeB rfl rfl rfl ao hb8 (by simp) rfl fun ws19 hb8_ hcs19 => ?_
        try simp only [Sx.splice, qt] at hb8_
        have hch := hch.s1 hcs19
        have hb3 := hb3.keep hcs19 (by simp; omega)
        have ha := ha.keepBK hb8 hcs19 an
        have hb8 := hb8_
        refine As rfl rfl ?_
        refine WL.nil (kr8 _ _ _ (kh7 _ _ _ ?_))
        refine CW.seq fun _ kh14 => ?_
        refine Sq fun _ kh15 _ kr16 => ?_
        refine Mv rfl rfl ?_
        refine WL.ev (Ev.not rfl) rfl ?_
        refine WL.nil (kr16 _ _ _ (kh15 _ _ _ ?_))
        refine CW.condT rfl ?_
        refine Sq fun _ kh17 _ kr18 => ?_
        refine WL.call hasF36 rfl rfl (r13no_spec (2) _) fun v w5 h' => ?_
        obtain ⟨rfl, rfl⟩ := h'
        refine WL.ev (Ev.extract rfl rfl) rfl ?_
        refine WL.ev (Ev.extract rfl rfl) rfl ?_
        refine As rfl rfl ?_
        refine As rfl rfl ?_
        refine WL.nil (kr18 _ _ _ (kh17 _ _ _ ?_))
        refine CW.ret ?_
        refine bodyA.ret2 rfl rfl rfl ?_
        exact ⟨⟨0, 2, rfl, .inr ⟨hgood, .inl ⟨hd1, rfl, rfl⟩⟩⟩, hch⟩

end Go.Proofs.YtphnpchmdpjabaaGreatDoor

/- What the laws compare is determined: each answer is the only one. No condition. -/
namespace Go.Proofs.YtphnpchmdpjabaaGreatDoor
open Go Sx Wd

theorem quot_unique {nn nd : Bool} {ln ld : Nat} {en ed mode : Int} {b b' : Nat} {e e' : Int} (h : QuotP nn nd ln ld en ed mode b e) (h' : QuotP nn nd ln ld en ed mode b' e') : b = b' ∧ e = e' := by
  rcases h with ⟨a, b1, e1⟩ | ⟨a, h⟩ <;> rcases h' with ⟨a', b2, e2⟩ | ⟨a', h'⟩
  · exact ⟨b1.trans b2.symm, e1.trans e2.symm⟩
  · exact absurd a' a
  · exact absurd a a'
  · rcases h with ⟨s, b1, e1⟩ | ⟨s, n, b1, e1⟩ | ⟨s, x, y, hx, hy, h⟩ <;> rcases h' with ⟨s', b2, e2⟩ | ⟨s', n', b2, e2⟩ | ⟨s', x', y', hx', hy', h'⟩
    · exact ⟨b1.trans b2.symm, e1.trans e2.symm⟩
    · omega
    · omega
    · omega
    · exact ⟨b1.trans b2.symm, e1.trans e2.symm⟩
    · rcases n with n | n
      · rw [hx'] at n; cases n
      · rw [hy'] at n; cases n
    · omega
    · rcases n' with n | n
      · rw [hx] at n; cases n
      · rw [hy] at n; cases n
    · rw [hx] at hx'; cases hx'
      rw [hy] at hy'; cases hy'
      rcases h with ⟨z, b1, e1⟩ | ⟨z, r, N, _, b1, e1⟩ <;> rcases h' with ⟨z', b2, e2⟩ | ⟨z', r', N', _, b2, e2⟩
      · exact ⟨b1.trans b2.symm, e1.trans e2.symm⟩
      · exact absurd z z'
      · exact absurd z' z
      · have := N.unique (Nat.mul_pos (by omega) (dyB_pos _)) N'
        subst this
        exact ⟨b1.trans b2.symm, e1.trans e2.symm⟩
theorem told_unique {d : Dy} {n : Nat} {s : SP} {mode : Int} {b b' : Nat} {e e' : Int} (h : toldR d n s mode b e) (h' : toldR d n s mode b' e') : b = b' ∧ e = e' := by
  rcases h with ⟨a, b1, e1⟩ | ⟨a, h⟩ <;> rcases h' with ⟨a', b2, e2⟩ | ⟨a', h'⟩
  · exact ⟨b1.trans b2.symm, e1.trans e2.symm⟩
  · exact absurd a a'
  · exact absurd a' a
  · exact quot_unique h h'
theorem of_unique {neg : Bool} {m : Nat} {ex n mode : Int} {b b' : Nat} {e e' : Int} (h : ofR neg m ex n mode b e) (h' : ofR neg m ex n mode b' e') : b = b' ∧ e = e' := by
  rcases h with ⟨a, b1, e1⟩ | ⟨a, h⟩ <;> rcases h' with ⟨a', b2, e2⟩ | ⟨a', h'⟩
  · exact ⟨b1.trans b2.symm, e1.trans e2.symm⟩
  · exact absurd a' a
  · exact absurd a a'
  · rcases h with ⟨s, b1, e1⟩ | ⟨d, s, h⟩ <;> rcases h' with ⟨s', b2, e2⟩ | ⟨d', s', h'⟩
    · exact ⟨b1.trans b2.symm, e1.trans e2.symm⟩
    · rw [s] at s'; cases s'
    · rw [s] at s'; cases s'
    · rw [s] at s'; cases s'; exact told_unique h h'
end Go.Proofs.YtphnpchmdpjabaaGreatDoor

/- The numbers that every statement on means asks first. No condition. -/
namespace Go.Proofs.YtphnpchmdpjabaaGreatDoor
open Go Sx Wd
set_option exponentiation.threshold 9000

def lv1 : List Nat := [4607182418800017408, 4611686018427387904, 4618441417868443648]
def lv2 : List Nat := [4607182418800017408, 4611686018427387904]
def lv3 : List Nat := [4607182418800017408, 4613937818241073152]
theorem lv1_fil : filP lv1 = lv1 := by decide +kernel
theorem lv2_fil : filP lv2 = lv2 := by decide +kernel
theorem lv1_sum : sumI lv1 = (9 * 2 ^ 2148 : Nat) := by decide +kernel
theorem lv2_sum : sumI lv2 = (3 * 2 ^ 2148 : Nat) := by decide +kernel
theorem lv3_sum : sumI lv3 = (4 * 2 ^ 2148 : Nat) := by decide +kernel
theorem lv23_prod : sumP lv2 lv3 = (7 * 2 ^ 2148 : Nat) := by decide +kernel
theorem p2148 : (0 : Int) < ((2 ^ 2148 : Nat) : Int) := by have := Nat.two_pow_pos 2148; omega
theorem meanQ_of {S n r : Nat} {mode : Int} {bits : Nat} (hn : n ≠ 0) (hr : r < 9218868437227405312) (h : 2 * nz r * (n * 2 ^ 1073) = S) (hM : MeanQ (S : Int) n mode bits) : bits = r := by
  obtain ⟨r', h1, _, hb⟩ := hM
  rw [if_neg (by omega)] at hb
  rw [hb]
  rw [Int.natAbs_natCast] at h1
  exact h1.unique (Nat.mul_pos (by omega) (Nat.two_pow_pos _)) (near_is hr (Nat.mul_pos (by omega) (Nat.two_pow_pos _)) h)
theorem live_mean {bits : Nat} {e : Int} (h : meanR lv1 0 0 0 bits e) : bits = 4613937818241073152 ∧ e = 0 := by
  obtain ⟨he, hh⟩ := mean_fin h (by decide) (by decide +kernel) (by decide +kernel) (by rw [lv1_fil]; decide)
  rw [lv1_fil, lv1_sum] at hh
  rcases hh with ⟨hz, _⟩ | ⟨_, hM⟩
  · have := p2148; exact absurd hz (by rw [Int.natCast_mul]; omega)
  · exact ⟨meanQ_of (by decide) (by decide) (by decide +kernel) hM, he⟩
theorem live_mid {bits : Nat} {e : Int} (h : midR 4607182418800017408 4611686018427387904 0 bits e) : bits = 4609434218613702656 ∧ e = 0 := by
  rcases h with ⟨hh, _⟩ | ⟨_, ⟨hh, _⟩ | ⟨_, h⟩⟩
  · exact absurd (by decide) hh
  · exact absurd (by decide +kernel) hh
  obtain ⟨he, hh⟩ := mean_fin (l := lv2) h (by decide) (by decide +kernel) (by decide +kernel) (by rw [lv2_fil]; decide)
  rw [lv2_fil, lv2_sum] at hh
  rcases hh with ⟨hz, _⟩ | ⟨_, hM⟩
  · have := p2148; exact absurd hz (by rw [Int.natCast_mul]; omega)
  · exact ⟨meanQ_of (by decide) (by decide) (by decide +kernel) hM, he⟩
theorem lv_in {a : Nat} (h : a ≤ 16) : ((a * 2 ^ 2148 : Nat) : Int) < (16384 * BB : Nat) := by
  rw [BB_pow]
  have : a * 2 ^ 2148 < 2 ^ 4238 := by
    have h1 : a * 2 ^ 2148 ≤ 2 ^ 4 * 2 ^ 2148 := Nat.mul_le_mul_right _ h
    rw [← Nat.pow_add] at h1
    exact Nat.lt_of_le_of_lt h1 (Nat.pow_lt_pow_right (by decide) (by decide))
  omega
theorem live_wt {bits : Nat} {e : Int} (h : wtR lv2 lv3 0 bits e) : bits = 4610560118520545280 ∧ e = 0 := by
  have hp := p2148
  rcases h with ⟨hh, _⟩ | ⟨_, ⟨hh, _⟩ | ⟨_, ⟨hh, _⟩ | ⟨_, ⟨hh, _⟩ | ⟨_, ⟨hh, _⟩ | ⟨_, h⟩⟩⟩⟩⟩
  · exact absurd (by decide) hh
  · exact absurd hh (by decide)
  · exact absurd rfl hh
  · exact absurd (by decide +kernel) hh
  · cases hh
  rw [lv3_sum, lv23_prod, if_neg (by rw [Int.natCast_mul]; omega), if_neg (by rw [Int.natCast_mul]; omega)] at h
  have i7 := lv_in (a := 7) (by decide)
  have i4 := lv_in (a := 4) (by decide)
  obtain ⟨he, r, hN, hr, hb⟩ := quo_sum (by have := BB_pos; omega) i7 (by rw [Int.natCast_mul]; omega) i4 (by decide) h
  refine ⟨?_, he⟩
  rw [if_neg (by rw [Int.natCast_mul]; omega)] at hb
  rw [hb]
  rw [Int.natAbs_natCast, Int.natAbs_natCast] at hN
  have hB : 0 < 4 * 2 ^ 2148 := Nat.mul_pos (by decide) (Nat.two_pow_pos _)
  exact hN.unique hB (near_is (by decide) hB (by decide +kernel))
end Go.Proofs.YtphnpchmdpjabaaGreatDoor

/- Package steelyardlaw13: live, exact. No condition. -/
namespace Go.Proofs.YtphnpchmdpjabaaGreatDoor
open Go Sx Wd
set_option exponentiation.threshold 5000

theorem exact_spec (x y : Nat) (w : World) : Ret Tryz.prog 13 [.float .f64 x, .float .f64 y] w fun u w' => u = .bool (decide (x = y)) ∧ w = w' := by
 refine Ret.enter Tryz.func13 rfl rfl ?_
 simp only [args0, Nat.zero_add, Nat.reduceAdd]
 refine Sq fun _ kh1 _ kr2 => ?_
 refine As rfl rfl ?_
 refine WL.nil (kr2 _ _ _ (kh1 _ _ _ ?_))
 refine Sq fun _ kh3 _ kr4 => ?_
 refine Mv rfl rfl ?_
 refine WL.ev (Ev.ext rfl (ext40 _ _)) rfl ?_
 refine Mv rfl rfl ?_
 refine WL.ev (Ev.ext rfl (ext40 _ _)) rfl ?_
 refine WL.ev (Ev.eql rfl rfl) rfl ?_
 refine As rfl rfl ?_
 refine WL.nil (kr4 _ _ _ (kh3 _ _ _ ?_))
 refine CW.ret ?_
 refine bodyA.ret1 rfl rfl ?_
 refine ⟨congrArg Value.bool (decide_eq_decide.2 (by omega)), rfl⟩

set_option maxRecDepth 8000 in
theorem live_spec (w : World) (hg : GW w) : Ret Tryz.prog 8 [] w fun u w' => u = .bool true ∧ Chg [] w w' := by
 have hch : Chg [] w w := Chg.refl _ _
 have hg0 := hg
 refine Ret.enter Tryz.func8 rfl rfl ?_
 simp only [args0, Nat.zero_add, Nat.reduceAdd]
 refine Sq fun _ kh1 _ kr2 => ?_
 refine As rfl rfl ?_
 refine WL.nil (kr2 _ _ _ (kh1 _ _ _ ?_))
 refine Sq fun _ kh3 _ kr4 => ?_
 refine WL.buildSlice (m := 3) (cs := [f64v (4607182418800017408), f64v (4611686018427387904), f64v (4618441417868443648)]) (by decide) (by decide) rfl (by kernel_rfl) rfl fun b8 w8 hn8 => ?_
 have hcm8 := hn8.chg
 have hge8 := hn8.ge
 have hb8 : FB w8 b8 _ [4607182418800017408, 4611686018427387904, 4618441417868443648] := hn8.at_
 have hgehch8 := Nat.le_trans hch.size hge8
 have hch := hch.trans (Chg.any hcm8)
 refine WL.ev (Ev.build (vs := _) (cs := [_, _]) rfl rfl) rfl ?_
 refine WL.call hasF15 rfl rfl (Mean_spec _ lv1 0 0 0 _ (NF.of_row hb8.row (by decide) (by decide) rfl (by decide)) (hg0.keep0 hch)) fun v w1 h' => ?_
 obtain ⟨⟨bits, e, rfl, hM⟩, hC10⟩ := h'
 obtain ⟨rfl, rfl⟩ := live_mean hM
 have hch := hch.trans (Chg.any hC10)
 have hb8 := hb8.keep0 hC10
 refine Mv rfl rfl ?_
 refine WL.ev (Ev.extract rfl rfl) rfl ?_
 refine WL.ev (Ev.extract rfl rfl) rfl ?_
 refine As rfl rfl ?_
 refine As rfl rfl ?_
 refine WL.nil (kr4 _ _ _ (kh3 _ _ _ ?_))
 refine Sq fun _ kh5 _ kr6 => ?_
 refine WL.buildSlice (m := 2) (cs := [f64v (4607182418800017408), f64v (4611686018427387904)]) (by decide) (by decide) rfl (by kernel_rfl) rfl fun b14 w14 hn14 => ?_
 have hcm14 := hn14.chg
 have hge14 := hn14.ge
 have hb14 : FB w14 b14 _ [4607182418800017408, 4611686018427387904] := hn14.at_
 have hgehch14 := Nat.le_trans hch.size hge14
 have hch := hch.trans (Chg.any hcm14)
 have hneb814 : b8 ≠ b14 := by have := hb8.lt; omega
 have hb8 := hb8.keep0 hcm14
 refine WL.buildSlice (m := 2) (cs := [f64v (4607182418800017408), f64v (4613937818241073152)]) (by decide) (by decide) rfl (by kernel_rfl) rfl fun b15 w15 hn15 => ?_
 have hcm15 := hn15.chg
 have hge15 := hn15.ge
 have hb15 : FB w15 b15 _ [4607182418800017408, 4613937818241073152] := hn15.at_
 have hgehch15 := Nat.le_trans hch.size hge15
 have hch := hch.trans (Chg.any hcm15)
 have hneb815 : b8 ≠ b15 := by have := hb8.lt; omega
 have hb8 := hb8.keep0 hcm15
 have hneb1415 : b14 ≠ b15 := by have := hb14.lt; omega
 have hb14 := hb14.keep0 hcm15
 refine WL.call hasF25 rfl rfl (Weighted_spec _ _ lv2 lv3 0 _ (NF.of_row hb14.row (by decide) (by decide) rfl (by decide)) (NF.of_row hb15.row (by decide) (by decide) rfl (by decide)) (hg0.keep0 hch)) fun v w2 h' => ?_
 obtain ⟨⟨bits, e, rfl, hM⟩, hC16⟩ := h'
 obtain ⟨rfl, rfl⟩ := live_wt hM
 have hch := hch.trans (Chg.any hC16)
 have hb8 := hb8.keep0 hC16
 have hb14 := hb14.keep0 hC16
 have hb15 := hb15.keep0 hC16
 refine Mv rfl rfl ?_
 refine WL.ev (Ev.extract rfl rfl) rfl ?_
 refine WL.ev (Ev.extract rfl rfl) rfl ?_
 refine As rfl rfl ?_
 refine As rfl rfl ?_
 refine WL.nil (kr6 _ _ _ (kh5 _ _ _ ?_))
 refine Sq fun _ kh7 _ kr8 => ?_
 refine WL.call hasF29 rfl rfl (Middle_spec _ _ 0 _ (by decide) (by decide) (hg0.keep0 hch)) fun v w3 h' => ?_
 obtain ⟨⟨bits, e, rfl, hM⟩, hC20⟩ := h'
 obtain ⟨rfl, rfl⟩ := live_mid hM
 have hch := hch.trans (Chg.any hC20)
 have hb8 := hb8.keep0 hC20
 have hb14 := hb14.keep0 hC20
 have hb15 := hb15.keep0 hC20
 refine Mv rfl rfl ?_
 refine WL.ev (Ev.extract rfl rfl) rfl ?_
 refine WL.ev (Ev.extract rfl rfl) rfl ?_
 refine As rfl rfl ?_
 refine As rfl rfl ?_
 refine WL.nil (kr8 _ _ _ (kh7 _ _ _ ?_))
 refine Sq fun _ kh9 _ kr10 => ?_
 refine Mv rfl rfl ?_
 refine WL.ev (Ev.eql rfl rfl) rfl ?_
 refine Mv rfl rfl ?_
 refine WL.want rfl rfl rfl rfl ?_
 refine Mv rfl rfl ?_
 refine WL.want rfl rfl rfl rfl ?_
 refine WL.ev (Ev.feql rfl rfl) rfl ?_
 rw [show (FloatKind.f64.format.order 4613937818241073152 4613937818241073152 == some .eq) = true by rw [Fl.order_self_eq]; decide]
 refine WL.ev (Ev.pickT rfl rfl rfl) rfl ?_
 refine Mv rfl rfl ?_
 refine WL.want rfl rfl rfl rfl ?_
 refine Mv rfl rfl ?_
 refine WL.want rfl rfl rfl rfl ?_
 refine WL.ev (Ev.eql rfl rfl) rfl ?_
 refine WL.ev (Ev.pickT rfl rfl rfl) rfl ?_
 refine Mv rfl rfl ?_
 refine WL.want rfl rfl rfl rfl ?_
 refine Mv rfl rfl ?_
 refine WL.want rfl rfl rfl rfl ?_
 refine WL.ev (Ev.feql rfl rfl) rfl ?_
 rw [show (FloatKind.f64.format.order 4610560118520545280 4610560118520545280 == some .eq) = true by rw [Fl.order_self_eq]; decide]
 refine WL.ev (Ev.pickT rfl rfl rfl) rfl ?_
 refine Mv rfl rfl ?_
 refine WL.want rfl rfl rfl rfl ?_
 refine Mv rfl rfl ?_
 refine WL.want rfl rfl rfl rfl ?_
 refine WL.ev (Ev.eql rfl rfl) rfl ?_
 refine WL.ev (Ev.pickT rfl rfl rfl) rfl ?_
 refine Mv rfl rfl ?_
 refine WL.want rfl rfl rfl rfl ?_
 refine Mv rfl rfl ?_
 refine WL.want rfl rfl rfl rfl ?_
 refine WL.ev (Ev.feql rfl rfl) rfl ?_
 rw [show (FloatKind.f64.format.order 4609434218613702656 4609434218613702656 == some .eq) = true by rw [Fl.order_self_eq]; decide]
 refine WL.ev (Ev.pickT rfl rfl rfl) rfl ?_
 refine As rfl rfl ?_
 refine WL.nil (kr10 _ _ _ (kh9 _ _ _ ?_))
 refine CW.ret ?_
 refine bodyA.ret1 rfl rfl ?_
 exact ⟨rfl, hch⟩

end Go.Proofs.YtphnpchmdpjabaaGreatDoor

/- References of layers 2, 3: words and forms that are lent. No condition. -/
namespace Go.Proofs.YtphnpchmdpjabaaGreatDoor
open Go Sx Wd

theorem lent_len (l : List Nat) : (l ++ [71, 72]).length = l.length + 2 := by simp
theorem lent_a (l : List Nat) : (l ++ [71, 72]).getD l.length 0 = 71 := by rw [List.getD_eq_getElem?_getD, List.getElem?_append_right (Nat.le_refl _)]; simp
theorem lent_b (l : List Nat) : (l ++ [71, 72]).getD (l.length + 1) 0 = 72 := by rw [List.getD_eq_getElem?_getD, List.getElem?_append_right (by omega)]; simp
theorem lent_in {l : List Nat} {i : Nat} (h : i < l.length) : (l ++ [71, 72]).getD i 0 = l.getD i 0 := by
  rw [List.getD_eq_getElem?_getD, List.getElem?_append_left h, ← List.getD_eq_getElem?_getD]
theorem lent_set (l : List Nat) : (((l ++ List.replicate 2 0).set l.length 71).set (l.length + 1) 72) = (l ++ [71, 72]) := by
  rw [List.set_append_right _ _ (Nat.le_refl _), List.set_append_right _ _ (by omega)]; simp
theorem NU.lent {w : World} {b : Nat} {E : TypeId} {l R : List Nat} (h : OB w b E (l ++ R)) (hw : W l) (hl : l.length ≤ 70368744177664) {c : Nat} (hc : l.length ≤ c) : NU w (.slice (some ⟨b, 0, none⟩) l.length c) l :=
  ⟨⟨_, c, rfl, hc, by have := h.row; rw [List.map_append] at this; exact this.append_left⟩, hw, hl⟩
/-- The row of a lies in no word of block b. -/
def OffR (b : Nat) (a : Option Addr) (xs : List Value) : Prop := xs = [] ∨ ∀ ad, a = some ad → ad.block ≠ b
theorem Sx.RW.keepOB {w w' : World} {a : Option Addr} {xs : List Value} {b : Nat} {E : TypeId} {lb : List Nat} (h : RW w a xs) (hb : OB w b E lb) (hc : Chg [b] w w') (hn : OffR b a xs) : RW w' a xs := by
  rcases hn with rfl | hn
  · exact RW.nil
  · exact h.keepB hc fun ad e => by have := hn ad e; simpa using this
theorem Sx.RW.offR {w : World} {a : Option Addr} {xs : List Value} {b : Nat} (h : RW w a xs) (hb : w.heap.size ≤ b) : OffR b a xs := by
  cases xs with
  | nil => exact .inl rfl
  | cons x r =>
    refine .inr fun ad e => ?_
    obtain ⟨ad', e', h2⟩ := h 0 x rfl
    rw [e] at e'; cases e'
    have := block_lt_of_cell h2
    rw [addr_blk] at this
    omega
/-- v's words lie in no word of block b. -/
def OffV (b : Nat) (v : Value) (l : List Nat) : Prop := ∀ a m c, v = .slice a m c → OffR b a (l.map u32v)
theorem NU.offV {w : World} {v : Value} {l : List Nat} {b : Nat} (h : NU w v l) (hb : w.heap.size ≤ b) : OffV b v l := fun a m c e => by
  obtain ⟨⟨a', c', e', _, hr⟩, _⟩ := h
  rw [e] at e'; cases e'
  exact hr.offR hb
structure KAw (l T : List Nat) (b : Nat) (w0 : World) (g : Nat × List Nat) (w : World) : Prop where
  hi : g.1 ≤ l.length + 2
  len : g.2.length = l.length + 2
  same : ∀ j, g.1 ≤ j → g.2.getD j 0 = T.getD j 0
  hB : OB w b 116 g.2
  ch : Chg [b] w0 w
theorem set_same {L T : List Nat} {i v : Nat} (h : ∀ j, i ≤ j → L.getD j 0 = T.getD j 0) : ∀ j, i + 1 ≤ j → (L.set i v).getD j 0 = T.getD j 0 := fun j hj => by
  rw [← h j (by omega), List.getD_eq_getElem?_getD, List.getD_eq_getElem?_getD, List.getElem?_set_ne (by omega)]

set_option maxRecDepth 8000 in
set_option maxHeartbeats 2000000 in
theorem r2Lent_spec (v : Value) (l : List Nat) (w : World) (hv : NU w v l) (hlm : l.length ≤ 34359738368) : Ret Tryz.prog 30 [v] w fun u w' => ∃ b, u = .slice (some ⟨b, 0, none⟩) l.length (l.length + 2) ∧ OB w' b 116 (l ++ [71, 72]) ∧ Chg [] w w' ∧ w.heap.size ≤ b := by
 obtain ⟨⟨al, cl, rfl, hcapl, hrl⟩, hWl, hll⟩ := hv
 have hch : Chg [] w w := Chg.refl _ _
 refine Ret.enter Tryz.func30 rfl rfl ?_
 simp only [args0, Nat.zero_add, Nat.reduceAdd]
 refine Sq fun _ kh1 _ kr2 => ?_
 refine As rfl rfl ?_
 refine WL.nil (kr2 _ _ _ (kh1 _ _ _ ?_))
 refine Sq fun _ kh3 _ kr4 => ?_
 refine Mv rfl rfl ?_
 refine WL.ev (Ev.len rfl) rfl ?_
 first | refine WL.ev (Ev.addIn rfl rfl (by omega)) rfl ?_ | refine WL.ev (Ev.add rfl rfl) rfl ?_
 refine WL.makeU (((l).length + 2)) (((l).length + 2)) rfl rfl (by omega) (by omega) (by omega) (by omega) (by omega) rfl fun b7 wm7 hb7 hcm7 hge7 => ?_
 have hgehch7 := Nat.le_trans hch.size hge7
 have hch := hch.trans (Chg.any hcm7)
 refine As rfl rfl ?_
 refine WL.nil (kr4 _ _ _ (kh3 _ _ _ ?_))
 refine Sq fun _ kh5 _ kr6 => ?_
 refine Mv rfl rfl ?_
 refine Mv rfl rfl ?_
 refine WL.copyU rfl rfl hb7 (hrl.keep0 hch) (by simp; try omega) (by simp; try omega) rfl fun ws1 hb7_ hcs1 => ?_
 have hch := hch.s1 hcs1
 have hb7 := hb7_
 rw [show ((l).take (min ((l).length) (((l).length + 2))) ++ (List.replicate (((l).length + 2)) 0).drop (min ((l).length) (((l).length + 2)))) = (l ++ List.replicate 2 0) from by rw [show min l.length (l.length + 2) = l.length by omega, List.take_length, List.drop_replicate, show l.length + 2 - l.length = 2 by omega]] at hb7
 refine WL.nil (kr6 _ _ _ (kh5 _ _ _ ?_))
 refine Sq fun _ kh7 _ kr8 => ?_
 refine Mv rfl rfl ?_
 refine Mv rfl rfl ?_
 refine WL.ev (Ev.len rfl) rfl ?_
 refine WL.ev (Ev.ixB ((l).length) rfl rfl (by omega) (by omega)) rfl ?_
 refine WL.storeU rfl rfl hb7 (by first | omega | (simp; done) | (simp; omega)) fun ws2 hb7_ hcs2 => ?_
 have hch := hch.s1 hcs2
 have hb7 := hb7_
 refine WL.nil (kr8 _ _ _ (kh7 _ _ _ ?_))
 refine Sq fun _ kh9 _ kr10 => ?_
 refine Mv rfl rfl ?_
 refine Mv rfl rfl ?_
 refine WL.ev (Ev.len rfl) rfl ?_
 first | refine WL.ev (Ev.addIn rfl rfl (by omega)) rfl ?_ | refine WL.ev (Ev.add rfl rfl) rfl ?_
 refine WL.ev (Ev.ixB (((l).length + 1)) rfl rfl (by omega) (by omega)) rfl ?_
 refine WL.storeU rfl rfl hb7 (by first | omega | (simp; done) | (simp; omega)) fun ws3 hb7_ hcs3 => ?_
 have hch := hch.s1 hcs3
 have hb7 := hb7_
 refine WL.nil (kr10 _ _ _ (kh9 _ _ _ ?_))
 refine Sq fun _ kh11 _ kr12 => ?_
 refine Mv rfl rfl ?_
 refine Mv rfl rfl ?_
 refine WL.ev (Ev.len rfl) rfl ?_
 refine WL.ev (Ev.sliceHn ((l).length) rfl rfl (by omega) (by omega)) rfl ?_
 refine As rfl rfl ?_
 refine WL.nil (kr12 _ _ _ (kh11 _ _ _ ?_))
 refine CW.ret ?_
 refine bodyA.ret1 rfl rfl ?_
 rw [lent_set] at hb7
 exact ⟨b7, rfl, hb7, hch, hgehch7⟩

set_option maxRecDepth 8000 in
set_option maxHeartbeats 2000000 in
theorem r2AsLentT_spec (b : Nat) (v : Value) (l Lt : List Nat) (w : World) (hB : OB w b 116 Lt) (hv : NU w v l) (hoff : OffV b v l) (hTl : Lt.length = l.length + 2) (hT1 : Lt.getD l.length 0 = 71) (hT2 : Lt.getD (l.length + 1) 0 = 72) (hT3 : ∀ i, i < l.length → Lt.getD i 0 = l.getD i 0) : Ret Tryz.prog 35 [.slice (some ⟨b, 0, none⟩) l.length (l.length + 2), v] w fun u w' => u = .bool true ∧ Chg [b] w w' := by
 obtain ⟨⟨al, cl, rfl, hcapl, hrl⟩, hWl, hll⟩ := hv
 have hch : Chg [b] w w := Chg.refl _ _
 have hdis := hoff _ _ _ rfl
 have hB0 := hB
 have hrl0 := hrl
 refine Ret.enter Tryz.func35 rfl rfl ?_
 simp only [args0, Nat.zero_add, Nat.reduceAdd]
 refine Sq fun _ kh1 _ kr2 => ?_
 refine As rfl rfl ?_
 refine WL.nil (kr2 _ _ _ (kh1 _ _ _ ?_))
 refine CW.seq fun _ kh3 => ?_
 refine Sq fun _ kh4 _ kr5 => ?_
 refine Mv rfl rfl ?_
 refine WL.ev (Ev.len rfl) rfl ?_
 refine Mv rfl rfl ?_
 refine WL.ev (Ev.len rfl) rfl ?_
 refine WL.ev (Ev.neq rfl rfl) rfl ?_
 refine WL.nil (kr5 _ _ _ (kh4 _ _ _ ?_))
 refine CW.cond rfl (fun hc1 => ?_) (fun hc1 => ?_)
 ·
  try simp only [qs] at hc1
  first | exact absurd rfl hc1 | (simp at hc1; done) | exact hc1.elim
 ·
  try simp only [qs] at hc1
  refine CW.skip ?_
  refine kh3 _ _ _ ?_
  refine Sq fun _ kh6 _ kr7 => ?_
  refine Mv rfl rfl ?_
  refine Mv rfl rfl ?_
  refine WL.ev (Ev.len rfl) rfl ?_
  first | refine WL.ev (Ev.addIn rfl rfl (by omega)) rfl ?_ | refine WL.ev (Ev.add rfl rfl) rfl ?_
  refine WL.ev (Ev.sliceHn (l.length + 2) rfl rfl (by omega) (by omega)) rfl ?_
  refine As rfl rfl ?_
  refine WL.nil (kr7 _ _ _ (kh6 _ _ _ ?_))
  refine Sq fun _ kh8 _ kr9 => ?_
  refine Mv rfl rfl ?_
  refine Mv rfl rfl ?_
  refine WL.ev (Ev.len rfl) rfl ?_
  refine WL.ev (Ev.ixB ((l).length) rfl rfl (by omega) (by omega)) rfl ?_
  refine WL.ev (Ev.load rfl rfl (hB.u32 (by first | omega | (simp; omega)))) rfl ?_
  refine WL.ev (Ev.eql rfl rfl) rfl ?_
  rw [show decide (((Lt.getD l.length 0 : Nat) : Int) = 71) = true from decide_eq_true (by first | (rw [hT1]; done) | (rw [hT1]; rfl))]
  refine Mv rfl rfl ?_
  refine WL.want rfl rfl rfl rfl ?_
  refine Mv rfl rfl ?_
  refine WL.want rfl rfl rfl rfl ?_
  refine Mv rfl rfl ?_
  refine WL.want rfl rfl rfl rfl ?_
  refine WL.ev (Ev.len rfl) rfl ?_
  refine WL.want rfl rfl rfl rfl ?_
  first | refine WL.ev (Ev.addIn rfl rfl (by omega)) rfl ?_ | refine WL.ev (Ev.add rfl rfl) rfl ?_
  refine WL.want rfl rfl rfl rfl ?_
  refine WL.ev (Ev.ixB (((l).length + 1)) rfl rfl (by omega) (by omega)) rfl ?_
  refine WL.want rfl rfl rfl rfl ?_
  refine WL.ev (Ev.load rfl rfl (hB.u32 (by first | omega | (simp; omega)))) rfl ?_
  refine WL.want rfl rfl rfl rfl ?_
  refine WL.ev (Ev.eql rfl rfl) rfl ?_
  rw [show decide (((Lt.getD (l.length + 1) 0 : Nat) : Int) = 72) = true from decide_eq_true (by first | (rw [hT2]; done) | (rw [hT2]; rfl))]
  refine WL.ev (Ev.pickT rfl rfl rfl) rfl ?_
  refine As rfl rfl ?_
  refine WL.nil (kr9 _ _ _ (kh8 _ _ _ ?_))
  refine CW.seq fun _ kh10 => ?_
  refine Sq fun _ kh11 _ kr12 => ?_
  refine As rfl rfl ?_
  refine WL.nil (kr12 _ _ _ (kh11 _ _ _ ?_))
  refine CW.block ?_
  refine CW.loop (S := fun g : Nat × List Nat => [(0, .slice (some ⟨b, 0, none⟩) l.length (l.length + 2)), (1, .slice al l.length cl), (5, .slice (some ⟨b, 0, none⟩) (l.length + 2) (l.length + 2)), (6, .bool true), (7, .int .i64 (g.1 : Int))]) (Inv := KAw l Lt b w) (mu := fun g => l.length + 2 - g.1) ((0, Lt)) ?_ ?_ ?_
  ·
   exact ⟨Nat.zero_le _, by dsimp only; omega, fun _ _ => rfl, hB, hch⟩
  ·
   repeat (first | exact Subs.nil | refine Subs.cons rfl ?_ | refine Subs.consI rfl (by omega) ?_)
  ·
   rintro ⟨i, Lc⟩ wr ⟨hi, hlen, hsame, hB, hch⟩
   dsimp only at hi hlen hsame hB
   dsimp only
   have hrl := hrl0.keepOB hB0 hch hdis
   refine CW.seq fun _ kh13 => ?_
   refine Sq fun _ kh14 _ kr15 => ?_
   refine Mv rfl rfl ?_
   refine Mv rfl rfl ?_
   refine WL.ev (Ev.len rfl) rfl ?_
   refine WL.ev (Ev.lss rfl rfl) rfl ?_
   refine WL.nil (kr15 _ _ _ (kh14 _ _ _ ?_))
   refine CW.cond rfl (fun hc2 => ?_) (fun hc2 => ?_)
   ·
    try simp only [qs] at hc2
    refine CW.skip ?_
    refine kh13 _ _ _ ?_
    refine CW.seq fun _ kh16 => ?_
    refine CW.block ?_
    refine CW.seq fun _ kh17 => ?_
    refine CW.regionSC hmix (by kernel_rfl) fun kR18 kr18 hdr => ?_
    have hch := hch.trans (Chg.any hdr)
    have hB := hB.keep0 hdr
    have hrl := hrl.keep0 hdr
    refine WS.ev (Ev.move rfl) rfl ?_
    refine WS.ev (Ev.move rfl) rfl ?_
    refine WS.want rfl rfl rfl rfl ?_
    refine WS.ev (Ev.move rfl) rfl ?_
    refine WS.want rfl rfl rfl rfl ?_
    refine WS.ev (Ev.move rfl) rfl ?_
    refine WS.want rfl rfl rfl rfl ?_
    refine WS.ev (Ev.len rfl) rfl ?_
    refine WS.want rfl rfl rfl rfl ?_
    refine WS.ev (Ev.geq rfl rfl) rfl ?_
    refine WS.want rfl rfl rfl rfl ?_
    refine WS.ev (Ev.move rfl) rfl ?_
    refine WS.boolCase (fun hg3 => ?_) (fun hg3 => ?_)
    ·
     try simp only [qs] at hg3
     refine WS.pass rfl rfl rfl rfl rfl ?_
     refine WS.pass rfl rfl rfl rfl rfl ?_
     refine WS.pass rfl rfl rfl rfl rfl ?_
     refine WS.pass rfl rfl rfl rfl rfl ?_
     refine WS.pass rfl rfl rfl rfl rfl ?_
     refine WS.pass rfl rfl rfl rfl rfl ?_
     refine WS.pass rfl rfl rfl rfl rfl ?_
     refine WS.pass rfl rfl rfl rfl rfl ?_
     refine WS.pass rfl rfl rfl rfl rfl ?_
     refine WS.want rfl rfl rfl rfl ?_
     refine WS.ev (Ev.pickT rfl rfl rfl) rfl ?_
     refine WS.ev (Ev.pickT rfl rfl rfl) rfl ?_
     refine WS.ev (Ev.assign rfl) rfl ?_
     refine WS.nil (kr18 _ _ ?_)
     refine kh17 _ _ _ ?_
     refine CW.region fun kR19 kr19 => ?_
     refine Mv rfl rfl ?_
     refine Mv rfl rfl ?_
     refine WL.ev (Ev.ixB (i) rfl rfl (by omega) (by omega)) rfl ?_
     refine WL.storeU rfl rfl hB (by first | omega | (simp; done) | (simp; omega)) fun ws4 hB_ hcs4 => ?_
     have hch := hch.s1 hcs4
     have hrl := hrl.keepOB hB hcs4 (by assumption)
     have hB := hB_
     refine WL.nil (kr19 _ _ _ (kh16 _ _ _ ?_))
     refine CW.region fun kR20 kr20 => ?_
     refine Mv rfl rfl ?_
     first | refine WL.ev (Ev.addIn rfl rfl (by omega)) rfl ?_ | refine WL.ev (Ev.add rfl rfl) rfl ?_
     refine As rfl rfl ?_
     refine WL.nil (kr20 _ _ _ ?_)
     refine ⟨rfl, (i + 1, Lc.set i 83), ?_, ?_, ?_⟩
     ·
      repeat (first | exact Subs.nil | refine Subs.cons rfl ?_ | refine Subs.consI rfl (by omega) ?_)
     ·
      exact ⟨by dsimp only; omega, by dsimp only; rw [List.length_set, hlen], set_same hsame, hB, hch⟩
     ·
      show l.length + 2 - (i + 1) < l.length + 2 - i; omega
    ·
     try simp only [qs] at hg3
     have hme : Lc.getD i 0 = l.getD i 0 := by rw [hsame i (Nat.le_refl _)]; exact hT3 i (by omega)
     refine WS.want rfl rfl rfl rfl ?_
     refine WS.ev (Ev.move rfl) rfl ?_
     refine WS.want rfl rfl rfl rfl ?_
     refine WS.ev (Ev.move rfl) rfl ?_
     refine WS.want rfl rfl rfl rfl ?_
     refine WS.ev (Ev.ixB (i) rfl rfl (by omega) (by omega)) rfl ?_
     refine WS.want rfl rfl rfl rfl ?_
     refine WS.ev (Ev.load rfl rfl (hB.u32 (by first | omega | (simp; omega)))) rfl ?_
     refine WS.want rfl rfl rfl rfl ?_
     refine WS.ev (Ev.move rfl) rfl ?_
     refine WS.want rfl rfl rfl rfl ?_
     refine WS.ev (Ev.move rfl) rfl ?_
     refine WS.want rfl rfl rfl rfl ?_
     refine WS.ev (Ev.ixR (i) rfl rfl hrl (by omega) (by omega) (by simp; omega)) rfl ?_
     refine WS.want rfl rfl rfl rfl ?_
     refine WS.ev (Ev.load rfl rfl (hrl.u32 (by first | omega | (simp; omega)))) rfl ?_
     refine WS.want rfl rfl rfl rfl ?_
     refine WS.ev (Ev.eql rfl rfl) rfl ?_
     rw [show decide (((Lc.getD i 0 : Nat) : Int) = ((l.getD i 0 : Nat) : Int)) = true from decide_eq_true (by first | (rw [hme]; done) | (rw [hme]; rfl))]
     refine WS.want rfl rfl rfl rfl ?_
     refine WS.ev (Ev.pickF rfl rfl rfl) rfl ?_
     refine WS.ev (Ev.pickT rfl rfl rfl) rfl ?_
     refine WS.ev (Ev.assign rfl) rfl ?_
     refine WS.nil (kr18 _ _ ?_)
     refine kh17 _ _ _ ?_
     refine CW.region fun kR21 kr21 => ?_
     refine Mv rfl rfl ?_
     refine Mv rfl rfl ?_
     refine WL.ev (Ev.ixB (i) rfl rfl (by omega) (by omega)) rfl ?_
     refine WL.storeU rfl rfl hB (by first | omega | (simp; done) | (simp; omega)) fun ws5 hB_ hcs5 => ?_
     have hch := hch.s1 hcs5
     have hrl := hrl.keepOB hB hcs5 (by assumption)
     have hB := hB_
     refine WL.nil (kr21 _ _ _ (kh16 _ _ _ ?_))
     refine CW.region fun kR22 kr22 => ?_
     refine Mv rfl rfl ?_
     first | refine WL.ev (Ev.addIn rfl rfl (by omega)) rfl ?_ | refine WL.ev (Ev.add rfl rfl) rfl ?_
     refine As rfl rfl ?_
     refine WL.nil (kr22 _ _ _ ?_)
     refine ⟨rfl, (i + 1, Lc.set i 83), ?_, ?_, ?_⟩
     ·
      repeat (first | exact Subs.nil | refine Subs.cons rfl ?_ | refine Subs.consI rfl (by omega) ?_)
     ·
      exact ⟨by dsimp only; omega, by dsimp only; rw [List.length_set, hlen], set_same hsame, hB, hch⟩
     ·
      show l.length + 2 - (i + 1) < l.length + 2 - i; omega
   ·
    try simp only [qs] at hc2
    refine CW.exit ?_
    refine kh10 _ _ _ ?_
    refine Sq fun _ kh23 _ kr24 => ?_
    refine Mv rfl rfl ?_
    refine As rfl rfl ?_
    refine WL.nil (kr24 _ _ _ (kh23 _ _ _ ?_))
    refine CW.ret ?_
    refine bodyA.ret1 rfl rfl ?_
    exact ⟨rfl, hch⟩

theorem r2AsLent_spec (b : Nat) (v : Value) (l : List Nat) (w : World) (hB : OB w b 116 (l ++ [71, 72])) (hv : NU w v l) (hoff : OffV b v l) : Ret Tryz.prog 35 [.slice (some ⟨b, 0, none⟩) l.length (l.length + 2), v] w fun u w' => u = .bool true ∧ Chg [b] w w' :=
 r2AsLentT_spec b v l _ w hB hv hoff (lent_len l) (lent_a l) (lent_b l) (fun i h => lent_in h)

end Go.Proofs.YtphnpchmdpjabaaGreatDoor

/- Reference of layer 3: forms that are lent. No condition. -/
namespace Go.Proofs.YtphnpchmdpjabaaGreatDoor
open Go Sx Wd

set_option maxRecDepth 8000 in
set_option maxHeartbeats 2000000 in
theorem r3Lent_spec (na : Bool) (va : Value) (la : List Nat) (ea : Int) (w : World) (ha : NU w va la) (hla : la.length ≤ 34359738368) : Ret Tryz.prog 9 [.agg [.bool na, va, .int .i64 ea].toArray] w fun u w' => ∃ b, u = .agg [.bool na, .slice (some ⟨b, 0, none⟩) la.length (la.length + 2), .int .i64 ea].toArray ∧ OB w' b 116 (la ++ [71, 72]) ∧ Chg [] w w' ∧ w.heap.size ≤ b := by
 have hch : Chg [] w w := Chg.refl _ _
 have hoa := ha.one
 refine Ret.enter Tryz.func9 rfl rfl ?_
 simp only [args0, Nat.zero_add, Nat.reduceAdd]
 refine Sq fun _ kh1 _ kr2 => ?_
 refine WL.boxB rfl rfl rfl fun b1 wm1 hb1 hcm1 hge1 => ?_
 have hgehch1 := Nat.le_trans hch.size hge1
 have hch := hch.trans (Chg.any hcm1)
 have ha := ha.keep0 hcm1
 refine WL.allocB (l := [.bool false, .slice none 0 0, .int .i64 0]) rfl rfl fun b2 wm2 hb2 hcm2 hge2 => ?_
 have hgehch2 := Nat.le_trans hch.size hge2
 have hch := hch.trans (Chg.any hcm2)
 have ha := ha.keep0 hcm2
 have hneb12 : b1 ≠ b2 := by have := hb1.lt; omega
 have hb1 := hb1.keep0 hcm2
 refine WL.nil (kr2 _ _ _ (kh1 _ _ _ ?_))
 refine CW.seq fun _ kh3 => ?_
 refine CW.regionKC 8 9 rfl hmix fun kR4 kr4 hS hdr => ?_
 have hch := hch.trans (Chg.any hdr)
 have hb1 := hb1.keep0 hdr
 have hb2 := hb2.keep0 hdr
 have ha := ha.keep0 hdr
 have hch_r := hch
 have hb1_r := hb1
 have hb2_r := hb2
 refine WK.take 0 rfl (by kernel_rfl) (by kernel_rfl) (by kernel_rfl) (by kernel_rfl) (by kernel_rfl) (by kernel_rfl) hS (fun w' hw' => Ev.fieldAddr rfl) rfl ?_
 refine WK.take 1 rfl (by kernel_rfl) (by kernel_rfl) (by kernel_rfl) (by kernel_rfl) (by kernel_rfl) (by kernel_rfl) hS (fun w' hw' => Ev.load rfl rfl ((hb1_r.keep0 hw').at_ rfl)) rfl ?_
 refine WK.take 2 rfl (by kernel_rfl) (by kernel_rfl) (by kernel_rfl) (by kernel_rfl) (by kernel_rfl) (by kernel_rfl) hS (fun w' hw' => Ev.fieldAddr rfl) rfl ?_
 refine WK.take 3 rfl (by kernel_rfl) (by kernel_rfl) (by kernel_rfl) (by kernel_rfl) (by kernel_rfl) (by kernel_rfl) hS (fun w' hw' => Ev.load rfl rfl ((hb1_r.keep0 hw').at_ rfl)) rfl ?_
 refine WK.take 5 rfl (by kernel_rfl) (by kernel_rfl) (by kernel_rfl) (by kernel_rfl) (by kernel_rfl) (by kernel_rfl) hS (fun w' hw' => Ev.fieldAddr rfl) rfl ?_
 refine WK.take 6 rfl (by kernel_rfl) (by kernel_rfl) (by kernel_rfl) (by kernel_rfl) (by kernel_rfl) (by kernel_rfl) hS (fun w' hw' => Ev.load rfl rfl ((hb1_r.keep0 hw').at_ rfl)) rfl ?_
 refine WK.oneCall 4 rfl (by kernel_rfl) hasF30 rfl rfl (r2Lent_spec _ la _ ha hla) fun v w1 h' => ?_
 obtain ⟨b, rfl, hB, hC, hge⟩ := h'
 have hgeb : w.heap.size ≤ b := Nat.le_trans hch.size hge
 have hneb : b ≠ b2 := by have := hb2.lt; omega
 have hch := hch.trans (Chg.any hC)
 have hb1 := hb1.keep0 hC
 have hb2 := hb2.keep0 hC
 have ha := ha.keep0 hC
 have hS := hS.trans hC
 refine ⟨hS, ?_⟩
 refine WK.take 7 rfl (by kernel_rfl) (by kernel_rfl) (by kernel_rfl) (by kernel_rfl) (by kernel_rfl) (by kernel_rfl) hS (fun w' hw' => Ev.build (vs := _) (cs := [_, _, _]) rfl rfl) rfl ?_
 refine WK.storeB 8 rfl (by kernel_rfl) (by kernel_rfl) rfl rfl rfl ao hb2 (by simp) rfl fun ws6 hb2_ hcs6 => ?_
 try simp only [Sx.splice, qt] at hb2_
 have hch := hch.s1 hcs6
 have hb1 := hb1.keep hcs6 (by simp; omega)
 have hB := hB.keep hcs6 (by simp; omega)
 have ha := ha.keepBK hb2 hcs6 an
 have hb2 := hb2_
 refine WK.done (by kernel_rfl) (kr4 _ _ _ ?_)
 refine kh3 _ _ _ ?_
 refine CW.ret ?_
 refine bodyA.retR1 rfl (RVal.cell rfl (hb2.varA rfl rfl)) ?_
 exact ⟨b, rfl, hB, hch, hgeb⟩

set_option maxRecDepth 8000 in
set_option maxHeartbeats 2000000 in
theorem r3AsLent_spec (na : Bool) (b : Nat) (va : Value) (la : List Nat) (ea : Int) (w : World) (hB : OB w b 116 (la ++ [71, 72])) (ha : NU w va la) (hoff : OffV b va la) : Ret Tryz.prog 11 [.agg [.bool na, .slice (some ⟨b, 0, none⟩) la.length (la.length + 2), .int .i64 ea].toArray, .agg [.bool na, va, .int .i64 ea].toArray] w fun u w' => u = .bool true ∧ Chg [b] w w' := by
 have hch : Chg [b] w w := Chg.refl _ _
 have hoa := ha.one
 refine Ret.enter Tryz.func11 rfl rfl ?_
 simp only [args0, Nat.zero_add, Nat.reduceAdd]
 refine Sq fun _ kh1 _ kr2 => ?_
 refine WL.boxB rfl rfl rfl fun b2 wm2 hb2 hcm2 hge2 => ?_
 have hgehch2 := Nat.le_trans hch.size hge2
 have hch := hch.trans (Chg.any hcm2)
 have ha := ha.keep0 hcm2
 have hneb2 : b ≠ b2 := by have := hB.lt; omega
 have hB := hB.keep0 hcm2
 refine WL.boxB rfl rfl rfl fun b3 wm3 hb3 hcm3 hge3 => ?_
 have hgehch3 := Nat.le_trans hch.size hge3
 have hch := hch.trans (Chg.any hcm3)
 have ha := ha.keep0 hcm3
 have hneb3 : b ≠ b3 := by have := hB.lt; omega
 have hB := hB.keep0 hcm3
 have hneb23 : b2 ≠ b3 := by have := hb2.lt; omega
 have hb2 := hb2.keep0 hcm3
 refine As rfl rfl ?_
 refine WL.nil (kr2 _ _ _ (kh1 _ _ _ ?_))
 refine Sq fun _ kh3 _ kr4 => ?_
 refine WL.ev (Ev.fieldAddr rfl) rfl ?_
 refine WL.ev (Ev.load rfl rfl (hb2.at_ rfl)) rfl ?_
 refine WL.ev (Ev.fieldAddr rfl) rfl ?_
 refine WL.ev (Ev.load rfl rfl (hb3.at_ rfl)) rfl ?_
 refine WL.call hasF35 rfl rfl (r2AsLent_spec b _ la _ hB ha hoff) fun v w1 h' => ?_
 obtain ⟨rfl, hC⟩ := h'
 have hb2 := hb2.keep hC (by simp; omega)
 have hb3 := hb3.keep hC (by simp; omega)
 have hch := hch.step hC (fun y hy => .inl hy)
 refine As rfl rfl ?_
 refine WL.nil (kr4 _ _ _ (kh3 _ _ _ ?_))
 refine Sq fun _ kh5 _ kr6 => ?_
 refine Mv rfl rfl ?_
 refine Mv rfl rfl ?_
 refine WL.want rfl rfl rfl rfl ?_
 refine WL.ev (Ev.fieldAddr rfl) rfl ?_
 refine WL.want rfl rfl rfl rfl ?_
 refine WL.ev (Ev.load rfl rfl (hb2.at_ rfl)) rfl ?_
 refine WL.want rfl rfl rfl rfl ?_
 refine WL.ev (Ev.fieldAddr rfl) rfl ?_
 refine WL.want rfl rfl rfl rfl ?_
 refine WL.ev (Ev.load rfl rfl (hb3.at_ rfl)) rfl ?_
 refine WL.want rfl rfl rfl rfl ?_
 refine WL.ev (Ev.eql_bool rfl rfl) rfl ?_
 rw [show (na == na) = true by cases na <;> rfl]
 refine WL.ev (Ev.pickT rfl rfl rfl) rfl ?_
 refine Mv rfl rfl ?_
 refine WL.want rfl rfl rfl rfl ?_
 refine WL.ev (Ev.fieldAddr rfl) rfl ?_
 refine WL.want rfl rfl rfl rfl ?_
 refine WL.ev (Ev.load rfl rfl (hb2.at_ rfl)) rfl ?_
 refine WL.want rfl rfl rfl rfl ?_
 refine WL.ev (Ev.fieldAddr rfl) rfl ?_
 refine WL.want rfl rfl rfl rfl ?_
 refine WL.ev (Ev.load rfl rfl (hb3.at_ rfl)) rfl ?_
 refine WL.want rfl rfl rfl rfl ?_
 refine WL.ev (Ev.eql rfl rfl) rfl ?_
 rw [decide_eq_true rfl]
 refine WL.ev (Ev.pickT rfl rfl rfl) rfl ?_
 refine As rfl rfl ?_
 refine WL.nil (kr6 _ _ _ (kh5 _ _ _ ?_))
 refine CW.ret ?_
 refine bodyA.ret1 rfl rfl ?_
 exact ⟨rfl, hch⟩

end Go.Proofs.YtphnpchmdpjabaaGreatDoor

/- Package steelyardlaw13: MeanOf. No condition. -/
namespace Go.Proofs.YtphnpchmdpjabaaGreatDoor
open Go Sx Wd

set_option maxRecDepth 8000 in
set_option maxHeartbeats 2000000 in
theorem MeanOf_spec (na : Bool) (va : Value) (la : List Nat) (ea n mode : Int) (w : World) (hg : GW w) (ha : NU w va la ∧ la.length ≤ 1048576) (hea : -9223372036854775808 ≤ ea ∧ ea ≤ 9223372036854775807) (hn : -9223372036854775808 ≤ n ∧ n ≤ 9223372036854775807) (hmode : -9223372036854775808 ≤ mode ∧ mode ≤ 9223372036854775807) : Ret Tryz.prog 3 [.agg [.bool na, va, .int .i64 ea].toArray, .int .i64 n, .int .i64 mode] w fun u w' => u = .bool true ∧ Chg [] w w' := by
 obtain ⟨ha, hla⟩ := ha
 have ha0 := ha
 have hoa := ha.one
 have hch : Chg [] w w := Chg.refl _ _
 have hg0 := hg
 refine Ret.enter Tryz.func3 rfl rfl ?_
 simp only [args0, Nat.zero_add, Nat.reduceAdd]
 refine Sq fun _ kh1 _ kr2 => ?_
 refine WL.boxB rfl rfl rfl fun b3 wm3 hb3 hcm3 hge3 => ?_
 have hgehch3 := Nat.le_trans hch.size hge3
 have hch := hch.trans (Chg.any hcm3)
 refine As rfl rfl ?_
 refine WL.nil (kr2 _ _ _ (kh1 _ _ _ ?_))
 refine Sq fun _ kh3 _ kr4 => ?_
 refine WL.call hasF8 rfl rfl (live_spec _ (hg0.keep0 hch)) fun v w1 h' => ?_
 obtain ⟨rfl, hC⟩ := h'
 have hch := hch.trans (Chg.any hC)
 have hb3 := hb3.keep0 hC
 refine As rfl rfl ?_
 refine WL.nil (kr4 _ _ _ (kh3 _ _ _ ?_))
 refine Sq fun _ kh5 _ kr6 => ?_
 refine WL.ev (Ev.loadA rfl rfl hb3 rfl) rfl ?_
 refine WL.call hasF9 rfl rfl (r3Lent_spec na va la ea _ (ha0.keep0 hch) (by omega)) fun v w2 h' => ?_
 obtain ⟨b, rfl, hB, hC, hge⟩ := h'
 have hgeb : w.heap.size ≤ b := Nat.le_trans hch.size hge
 have hneb : b ≠ b3 := by have := hb3.lt; omega
 have hch := hch.trans (Chg.any hC)
 have hb3 := hb3.keep0 hC
 refine WL.allocB (l := [.bool false, .slice none 0 0, .int .i64 0]) rfl rfl fun b8 wm8 hb8 hcm8 hge8 => ?_
 have hgehch8 := Nat.le_trans hch.size hge8
 have hch := hch.trans (Chg.any hcm8)
 have hneb38 : b3 ≠ b8 := by have := hb3.lt; omega
 have hb3 := hb3.keep0 hcm8
 have hneb8 : b ≠ b8 := by have := hB.lt; omega
 have hB := hB.keep0 hcm8
 refine WL.storeB rfl rfl rfl ao hb8 (by simp) rfl fun ws7 hb8_ hcs7 => ?_
 try simp only [Sx.splice, qt] at hb8_
 have hch := hch.s1 hcs7
 have hb3 := hb3.keep hcs7 (by simp; omega)
 have hB := hB.keep hcs7 (by simp; omega)
 have hb8 := hb8_
 refine WL.nil (kr6 _ _ _ (kh5 _ _ _ ?_))
 refine Sq fun _ kh7 _ kr8 => ?_
 refine WL.ev (Ev.loadA rfl rfl hb8 rfl) rfl ?_
 refine Mv rfl rfl ?_
 refine Mv rfl rfl ?_
 refine WL.call hasF10 rfl rfl (mOf_spec na _ la ea n mode _ (NU.lent hB ha0.hw ha0.len (by omega)) (hg0.keep0 hch) hea) fun v w3 h' => ?_
 obtain ⟨⟨bits, e, rfl, hM⟩, hC⟩ := h'
 have hch := hch.trans (Chg.any hC)
 have hb3 := hb3.keep0 hC
 have hB := hB.keep0 hC
 have hb8 := hb8.keep0 hC
 refine Mv rfl rfl ?_
 refine WL.ev (Ev.extract rfl rfl) rfl ?_
 refine WL.ev (Ev.extract rfl rfl) rfl ?_
 refine As rfl rfl ?_
 refine As rfl rfl ?_
 refine WL.nil (kr8 _ _ _ (kh7 _ _ _ ?_))
 refine Sq fun _ kh9 _ kr10 => ?_
 refine WL.ev (Ev.loadA rfl rfl hb8 rfl) rfl ?_
 refine WL.ev (Ev.loadA rfl rfl hb3 rfl) rfl ?_
 refine WL.call hasF11 rfl rfl (r3AsLent_spec na b va la ea _ hB (ha0.keep0 hch) (ha0.offV hgeb)) fun v w4 h' => ?_
 obtain ⟨rfl, hC⟩ := h'
 have hb3 := hb3.keep hC (by simp; omega)
 have hb8 := hb8.keep hC (by simp; omega)
 have hch := hch.step hC (fun y hy => .inr (by simp only [List.mem_singleton] at hy; omega))
 refine As rfl rfl ?_
 refine WL.nil (kr10 _ _ _ (kh9 _ _ _ ?_))
 refine Sq fun _ kh11 _ kr12 => ?_
 refine WL.ev (Ev.loadA rfl rfl hb3 rfl) rfl ?_
 refine Mv rfl rfl ?_
 refine Mv rfl rfl ?_
 refine WL.call hasF12 rfl rfl (r13Of_spec na va la ea n mode _ (ha0.keep0 hch) hea (by omega)) fun v w5 h' => ?_
 obtain ⟨⟨bits2, e2, rfl, hM2⟩, hC⟩ := h'
 obtain ⟨rfl, rfl⟩ := of_unique hM hM2
 have hch := hch.trans (Chg.any hC)
 have hb3 := hb3.keep0 hC
 have hb8 := hb8.keep0 hC
 refine Mv rfl rfl ?_
 refine WL.ev (Ev.extract rfl rfl) rfl ?_
 refine WL.ev (Ev.extract rfl rfl) rfl ?_
 refine As rfl rfl ?_
 refine As rfl rfl ?_
 refine WL.nil (kr12 _ _ _ (kh11 _ _ _ ?_))
 refine Sq fun _ kh13 _ kr14 => ?_
 refine Mv rfl rfl ?_
 refine Mv rfl rfl ?_
 refine WL.want rfl rfl rfl rfl ?_
 refine Mv rfl rfl ?_
 refine WL.ev (Ev.pickT rfl rfl rfl) rfl ?_
 refine Mv rfl rfl ?_
 refine WL.want rfl rfl rfl rfl ?_
 refine Mv rfl rfl ?_
 refine WL.want rfl rfl rfl rfl ?_
 refine Mv rfl rfl ?_
 refine WL.want rfl rfl rfl rfl ?_
 refine WL.ev (Ev.eql rfl rfl) rfl ?_
 rw [decide_eq_true rfl]
 refine WL.ev (Ev.pickT rfl rfl rfl) rfl ?_
 refine Mv rfl rfl ?_
 refine WL.want rfl rfl rfl rfl ?_
 refine Mv rfl rfl ?_
 refine WL.want rfl rfl rfl rfl ?_
 refine Mv rfl rfl ?_
 refine WL.want rfl rfl rfl rfl ?_
 refine WL.call hasF13 rfl rfl (exact_spec _ _ _) fun v w6 h' => ?_
 obtain ⟨rfl, rfl⟩ := h'
 rw [decide_eq_true rfl]
 refine WL.ev (Ev.pickT rfl rfl rfl) rfl ?_
 refine As rfl rfl ?_
 refine WL.nil (kr14 _ _ _ (kh13 _ _ _ ?_))
 refine CW.ret ?_
 refine bodyA.ret1 rfl rfl ?_
 exact ⟨rfl, hch⟩

end Go.Proofs.YtphnpchmdpjabaaGreatDoor

/- What came in, opened; the listed table, opened. No condition. -/
namespace Go.Proofs.YtphnpchmdpjabaaGreatDoor
open Go Sx Wd
open Go.ChangeShapes Go.WideShapes Go.ChangeAt Go.WideMaps Go.WideElems Go.RowKit

theorem own : ownKnob Tryz.prog.godebug = none := by kernel_rfl
theorem laidOut : laidOutB Tryz.prog = true := by kernel_rfl
theorem door_met (os : Os) (args : Array Value) : laidMetH Tryz.prog [("math/bits.deBruijn32tab", Rows.laid_math_bits_deBruijn32tab)] ((World.doorLaid Tryz.prog 400 os).forCall (fun _ _ => 0) ⟨#[], args, []⟩).memory :=
  laidMetH_of_parts3 (fuel := 8) (laidMet_of_run' 8 (by kernel_rfl) (by kernel_rfl)) (by kernel_rfl) (by kernel_rfl)
theorem gDeb : Tryz.prog.globalNamed "math/bits.deBruijn32tab" = some 1 := by kernel_rfl
theorem tDeb : (Tryz.prog.globals[1]?).map (·.type) = some 199 := by kernel_rfl
theorem deb_data {H : Type} : (Rows.laid_math_bits_deBruijn32tab : DataW H) = .agg (deb.map fun n : Nat => .lit (.int .u8 (n : Int))) := rfl
theorem gw_of_laid {W : World} (h : laidMetH Tryz.prog [("math/bits.deBruijn32tab", Rows.laid_math_bits_deBruijn32tab)] W) : GW W := by
  rw [MakeChecks.laidMetH_plain _ _ _ (by kernel_rfl)] at h
  obtain ⟨ps, ⟨g0, t0, cs0, f0, p0, q0, hg0, ht0, hv0, hd0, _, _⟩, _, _⟩ := h
  obtain rfl := Option.some.inj (gDeb.symm.trans hg0)
  obtain rfl := Option.some.inj (tDeb.symm.trans ht0)
  obtain ⟨xs, m1, rfl, hx1, hlen, hn3, hel⟩ := DataW.trod_array Tryz.underlying199 hd0
  have c8 : Tryz.prog.cellsOf 5 = 1 := by kernel_rfl
  simp only [Prod.mk.injEq] at hx1
  intro i hi
  have hi' := hel i hi
  rw [c8, Nat.mul_one] at hi'
  have hxi : xs[i]? = some (xs[i]'(by omega)) := List.getElem?_eq_getElem (by omega)
  rw [hxi] at hi'
  obtain ⟨k, e1, e2, _⟩ := DataW.trod_int Tryz.underlying5 hi'
  have hxs : (deb.map fun n : Nat => (DataW.lit (.int .u8 (n : Int)) : DataW Unit)) = xs.map (·.1) := by
    have := hx1.1
    rw [deb_data] at this
    exact DataW.agg.inj this
  have hdat : (deb.map fun n : Nat => (DataW.lit (.int .u8 (n : Int)) : DataW Unit))[i]? = some (.lit (.int .u8 ((deb.getD i 0 : Nat) : Int))) := by
    rw [List.getElem?_map, List.getElem?_eq_getElem (show i < deb.length from hi), List.getD_eq_getElem?_getD, List.getElem?_eq_getElem (show i < deb.length from hi)]; rfl
  rw [hxs, List.getElem?_map, hxi] at hdat
  simp only [Option.map_some] at hdat
  rw [e2] at hdat
  have hk : k = ((deb.getD i 0 : Nat) : Int) := by
    have := Option.some.inj hdat
    simp only [DataW.lit.injEq, Lit.int.injEq, true_and] at this
    exact this
  subst hk
  have hc : cs0[i]? = some (.int .u8 ((deb.getD i 0 : Nat) : Int)) := by
    have h3 : (cs0.toList.drop i)[0]? = some (.int .u8 ((deb.getD i 0 : Nat) : Int)) := by
      have := congrArg (fun l : List Value => l[0]?) e1
      simpa using this
    simpa using h3
  have := World.var?_cell hg0 hv0 i
  rw [hc] at this
  exact this

end Go.Proofs.YtphnpchmdpjabaaGreatDoor

/- A form that came in, of a bulk that is bounded. No condition. -/
namespace Go.Proofs.YtphnpchmdpjabaaGreatDoor
open Go Sx Wd
open Go.ChangeShapes Go.WideShapes Go.ChangeAt Go.WideMaps Go.WideElems Go.RowKit

theorem bulk_one {H : Type} (d : DataW H) : 1 ≤ Rows.uptoBulk d := by
  cases d with
  | lit l => cases l <;> simp [Rows.uptoBulk]
  | nil => simp [Rows.uptoBulk]
  | ptr d => simp [Rows.uptoBulk]
  | slice elems spare => simp [Rows.uptoBulk]
  | agg parts => simp [Rows.uptoBulk]
  | iface t d => simp [Rows.uptoBulk]
  | map entries => simp [Rows.uptoBulk]
  | held h => simp [Rows.uptoBulk]
theorem bulk_len {H : Type} (l : List (DataW H)) : l.length ≤ Rows.uptoBulkAll l := by
  induction l with
  | nil => simp [Rows.uptoBulkAll]
  | cons x r ih => have := bulk_one x; simp only [Rows.uptoBulkAll, List.length_cons]; omega
theorem bulk_part {H : Type} {d : DataW H} {l : List (DataW H)} (h : d ∈ l) : Rows.uptoBulk d ≤ Rows.uptoBulkAll l := by
  induction l with
  | nil => cases h
  | cons x r ih =>
    simp only [Rows.uptoBulkAll]
    rcases List.mem_cons.1 h with e | e
    · subst e; omega
    · have := ih e; omega
theorem bulk_slice {H : Type} (elems spare : List (DataW H)) : elems.length + spare.length + 1 ≤ Rows.uptoBulk (.slice elems spare) := by
  have h1 := bulk_len elems
  have h2 := bulk_len spare
  simp only [Rows.uptoBulk]
  omega
theorem int_cell {H : Type} {enc : TypeId × Value → H} {P : Program} {w : World} {base : Nat} {spare : Nat → Bool} {held : Bool} {n : Nat} {e : TypeId} {k : IntKind} {v : Value} {x : DataW H × List MemPlace} (he : P.underlying e = some (.int k)) (h : DataW.trod enc P w base spare held n e [v] = some x) : ∃ z, v = .int k z ∧ (Lit.int k z).wf = true := by
  obtain ⟨z, e1, _, e3⟩ := DataW.trod_int he h
  exact ⟨z, by simpa using e1, e3⟩
theorem bool_cell {H : Type} {enc : TypeId × Value → H} {P : Program} {w : World} {base : Nat} {spare : Nat → Bool} {held : Bool} {n : Nat} {e : TypeId} {v : Value} {x : DataW H × List MemPlace} (he : P.underlying e = some .bool) (h : DataW.trod enc P w base spare held n e [v] = some x) : ∃ z, v = .bool z := by
  cases n with
  | zero => simp [DataW.trod] at h
  | succ n =>
    simp only [DataW.trod, he] at h
    cases v <;> simp_all
/-- Words that came in. -/
theorem words_cell {H : Type} {enc : TypeId × Value → H} {P : Program} {w : World} {base : Nat} {spare : Nat → Bool} {held : Bool} {fuel : Nat} {t e : TypeId} {v : Value} {x : DataW H × List MemPlace} (ht : P.underlying t = some (.slice e)) (he : P.underlying e = some (.int .u32)) (hc : P.cellsOf e = 1)
    (h : DataW.trod enc P w base spare held fuel t [v] = some x) (hb : Rows.uptoBulk x.1 ≤ 1048576) : ∃ l : List Nat, NU w v l ∧ l.length ≤ 1048576 := by
  rcases Go.Deep.open_slice1 ht hc h with ⟨hcs, _⟩ | ⟨ad, len, c, m, n, V, D, Pl, hcs, _, hlc, hcm, hm, hx, hV⟩
  · simp at hcs
    subst hcs
    exact ⟨[], ⟨⟨none, 0, rfl, Nat.le_refl _, RW.nil⟩, W_nil, by decide⟩, by decide⟩
  · simp at hcs
    subst hcs
    have hlm : len ≤ m := by rw [hm]; split <;> omega
    rw [hx] at hb
    dsimp only at hb
    have h8 := bulk_slice ((List.range len).map D) ((List.range (m - len)).map fun j => D (len + j))
    simp only [List.length_map, List.length_range] at h8
    have hlen : len ≤ 1048576 := by omega
    obtain ⟨f, hf2⟩ := Go.Deep.choose_lt (α := Nat) (n := len) (p := fun i b => V i = .int .u32 (b : Int) ∧ b < 4294967296) (fun i hi => by
      obtain ⟨z, e1, e2⟩ := int_cell he (hV i (by omega)).2
      obtain ⟨b1, b2⟩ := bounds_u32 e2
      exact ⟨z.toNat, by rw [e1, Int.toNat_of_nonneg b1], by omega⟩)
    refine ⟨(List.range len).map f, ⟨⟨some ad, c, by simp, by simpa using hlc, fun i y hy => ?_⟩, fun y hy => ?_, by simp; omega⟩, by simpa using hlen⟩
    · have hi : i < len := by
        by_cases q : i < len
        · exact q
        · rw [List.getElem?_eq_none (by simp; omega)] at hy; cases hy
      simp [List.getElem?_range hi] at hy
      subst hy
      exact ⟨ad, rfl, by rw [(hV i (by omega)).1, (hf2 i hi).1]; rfl⟩
    · obtain ⟨i, hi, rfl⟩ := List.mem_map.1 hy
      exact (hf2 i (List.mem_range.1 hi)).2
set_option maxRecDepth 100000 in
/-- A form that came in. -/
theorem open_dyad {H : Type} {enc : TypeId × Value → H} {w : World} {base b0 : Nat} {spare : Nat → Bool} {held : Bool} {v : Value} {d : DataW H} {ps : List MemPlace} (hval : Value.okWide Tryz.prog w .any b0 25 v) (h : DataW.Trod enc Tryz.prog w base spare held 25 v d ps) (hb : Rows.uptoBulk d ≤ 1048576) :
    ∃ na va la ea, v = .agg [.bool na, va, .int .i64 ea].toArray ∧ (NU w va la ∧ la.length ≤ 1048576) ∧ (-9223372036854775808 ≤ ea ∧ ea ≤ 9223372036854775807) := by
  obtain ⟨fuel, hf⟩ := h
  have hu := Tryz.underlying25
  simp only [Value.okWide, hu] at hval
  obtain ⟨cs, rfl, hsz, _⟩ := hval
  have hc3 : Tryz.prog.cellsOf 25 = 3 := by kernel_rfl
  rw [hc3] at hsz
  obtain ⟨y0, y1, y2, m1, hx, _, h0, h1, h2⟩ := Go.Deep.trod_struct3 hu hf
  have c1 : Tryz.prog.cellsOf 3 = 1 := by kernel_rfl
  have c2 : Tryz.prog.cellsOf 4 = 1 := by kernel_rfl
  have c3 : Tryz.prog.cellsOf 23 = 1 := by kernel_rfl
  obtain ⟨l⟩ := cs
  simp only [Prod.mk.injEq] at hx
  rw [hx.1] at hb
  have hb1 : Rows.uptoBulk y1.1 ≤ 1048576 := by
    have := bulk_part (H := H) (d := y1.1) (l := [y0.1, y1.1, y2.1]) (by simp)
    simp only [Rows.uptoBulk] at hb
    omega
  match l, hsz with
  | [x, y, z], _ =>
    simp only [Value.cells] at h0 h1 h2
    rw [c2] at h0; rw [c3] at h1; rw [c1] at h2
    obtain ⟨na, rfl⟩ := bool_cell Tryz.underlying4 (show DataW.trod enc Tryz.prog w base spare held m1 4 [x] = some y0 from by simpa using h0)
    obtain ⟨la, hN, hlen⟩ := words_cell Tryz.underlying23 Tryz.underlying116 (by kernel_rfl) (show DataW.trod enc Tryz.prog w base spare held m1 23 [y] = some y1 from by simpa using h1) hb1
    obtain ⟨ea, rfl, wf⟩ := int_cell Tryz.underlying3 (show DataW.trod enc Tryz.prog w base spare held m1 3 [z] = some y2 from by simpa using h2)
    exact ⟨na, y, la, ea, rfl, ⟨hN, hlen⟩, bounds_i64 wf⟩
end Go.Proofs.YtphnpchmdpjabaaGreatDoor

/- The statement on MeanOf. -/
namespace Go.Proofs.YtphnpchmdpjabaaGreatDoor.meanOf
open Go.ChangeShapes Go.WideShapes Go.ChangeAt Go.RowKit

set_option maxRecDepth 100000 in
theorem contract (H : Type) (enc : TypeId × Value → H) (W : World) (base : Nat) (args : Array Value) (ds gs : List (DataW H)) (before : List MemPlace)
    (hval0 : ∀ (j : Nat) t v, Tryz.f3.params[j]? = some t → args[j]? = some v → Value.okWide Tryz.prog W .any base t v)
    (hW : DataW.Whole enc Tryz.prog Tryz.f3.params.toList Rows.meanOfSpec.vars false W args.toList ds gs before) (hk : Rows.uptoSmall H (ds ++ gs) = true)
    (hsz0 : (DataW.weightsEach Tryz.prog (Tryz.f3.params.toList ++ []) (ds ++ gs)).all (· ≤ reachBytes) = true) (hL : laidMetH Tryz.prog [("math/bits.deBruijn32tab", Rows.laid_math_bits_deBruijn32tab)] W) :
    Calls Tryz.prog 3 args W fun e W' => ∃ v, e = .returned v ∧ Rows.meanOfSpec.post enc Tryz.prog Tryz.f3 false true false false W args v W' := by
  have hGW := gw_of_laid hL
  have hval : ∀ (j : Nat) t v, Tryz.f3.params[j]? = some t → args[j]? = some v → Value.okWide Tryz.prog W .any base t v := hval0
  have hsz : (DataW.weightsEach Tryz.prog (Tryz.f3.params.toList ++ []) (ds ++ gs)).all (· ≤ reachBytes) = true := hsz0
  have hbk : Rows.uptoBulkAll (ds ++ gs) ≤ 1048576 := of_decide_eq_true hk
  have hW' := hW
  obtain ⟨p, q, hA0, hV, rfl, hfz, hnd⟩ := hW
  have hA : DataW.TrodAll enc Tryz.prog W 0 (fun _ => true) true Tryz.f3.params.toList args.toList ds p := hA0
  rw [Tryz.params3] at hA hval hsz
  obtain ⟨v0, vs0, d0, ds0, p0, q0, hargs, rfl, rfl, h0, r0⟩ := trodAll_cons hA
  obtain ⟨v1, vs1, d1, ds1, p1, q1, rfl, rfl, rfl, h1, r1⟩ := trodAll_cons r0
  obtain ⟨v2, vs2, d2, ds2, p2, q2, rfl, rfl, rfl, h2, r2⟩ := trodAll_cons r1
  obtain ⟨rfl, rfl, rfl⟩ := trodAll_nil r2
  obtain rfl : args = #[v0, v1, v2] := by cases args; simp_all
  obtain ⟨rfl, rfl⟩ := trodVars_none hV
  simp only [List.append_nil] at hsz
  simp only [List.append_nil, Rows.uptoBulkAll] at hbk
  have k0 := h0
  have lt0 : ∀ x ∈ p0, x.block < W.heap.size := by obtain ⟨m, hm⟩ := k0; exact DataW.trod_lt m _ _ _ hm
  obtain ⟨na0, va0, la0, ea0, rfl, nu0, be0⟩ := open_dyad (hval 0 25 v0 rfl rfl) h0 (by omega)
  have k1 := h1
  have lt1 : ∀ x ∈ p1, x.block < W.heap.size := by obtain ⟨m, hm⟩ := k1; exact DataW.trod_lt m _ _ _ hm
  obtain ⟨a1, rfl, _, _, wf1⟩ := open_int Tryz.underlying3 (hval 1 3 v1 rfl rfl) h1
  have bd1 := bounds_i64 wf1
  have k2 := h2
  have lt2 : ∀ x ∈ p2, x.block < W.heap.size := by obtain ⟨m, hm⟩ := k2; exact DataW.trod_lt m _ _ _ hm
  obtain ⟨a2, rfl, _, _, wf2⟩ := open_int Tryz.underlying3 (hval 2 3 v2 rfl rfl) h2
  have bd2 := bounds_i64 wf2
  clear hA0 hval0
  refine Calls.mono (MeanOf_spec na0 va0 la0 ea0 a1 a2 W hGW nu0 be0 bd1 bd2) fun e W' ⟨v, he, hv, hc⟩ => ?_
  subst he
  subst hv
  have bel : Below W.heap.size W W' := hc.below
  exact ⟨_, rfl, _, _, _, [], _, [], hW', trodAll_mk1 (shut_bool Tryz.underlying4 _), (trodAll_cons_mk (Below.trod laidOut (by kernel_rfl) (of_decide_eq_true (by kernel_rfl)) k0 bel lt0) (trodAll_cons_mk (Below.trod laidOut (by kernel_rfl) (of_decide_eq_true (by kernel_rfl)) k1 bel lt1) (trodAll_cons_mk (Below.trod laidOut (by kernel_rfl) (of_decide_eq_true (by kernel_rfl)) k2 bel lt2) trodAll_mk0))), rfl, bel.frame _, fun h => by cases h⟩

theorem reads (os : Os) {H : Type} (enc : TypeId × Value → H) : ∃ places, DataW.whole enc Tryz.prog ((World.doorLaid Tryz.prog 400 os).forCall (fun _ _ => 0) ⟨#[], #[.agg #[.bool false, .slice none 0 0, .int .i64 0], .int .i64 0, .int .i64 0], []⟩).memory Tryz.f3.params.toList Rows.meanOfSpec.vars false (#[.agg #[.bool false, .slice none 0 0, .int .i64 0], .int .i64 0, .int .i64 0] : Array Value).toList 8 = some ([.agg [.lit (.bool false), .nil, .lit (.int .i64 0)], .lit (.int .i64 0), .lit (.int .i64 0)], [], places) :=
  ⟨[], by kernel_rfl⟩
set_option maxRecDepth 100000 in
theorem lifted (os : Os) (started : os.Started) (H : Type) (enc : TypeId × Value → H) (F : Stop.Interp) :
    ReturnsInHanded {} Tryz.checked os 3 .any ((Rows.OpenSpec.upto Rows.meanOfSpec).preRow enc Tryz.prog Tryz.f3 Rows.meanOfUptoRow.domain false Rows.meanOfUptoRow.laid) (((Rows.OpenSpec.upto Rows.meanOfSpec).at F).post enc Tryz.prog Tryz.f3 false true false false) := by
  obtain ⟨places, hx⟩ := reads os enc
  refine returnsInHanded_of_row (C := Tryz.checked) (s := Rows.OpenSpec.upto Rows.meanOfSpec) own started (by kernel_rfl) Tryz.func3
    (witness_row_atRef (enc := enc) (C := Tryz.checked) false (World.doorLaid Tryz.prog 400 os) #[.agg #[.bool false, .slice none 0 0, .int .i64 0], .int .i64 0, .int .i64 0] rfl (by kernel_rfl) (by kernel_rfl) (by kernel_rfl)
      (OpenSpec.preRow_of_cond 8 hx (by kernel_rfl) (fun k hk => by cases hk; kernel_rfl) (by kernel_rfl) (door_met os _))) ?_
  intro W base args ds gs before hval hW _ hcond hsz hL _ _
  exact contract H enc W base args ds gs before hval hW (hcond _ rfl) hsz hL

theorem over : Rows.meanOfUptoRow.holds Tryz.pinned (Rows.OpenSpec.upto Rows.meanOfSpec) :=
  OpenClaim.holds_of_cond 3 Tryz.f3 rfl rfl rfl rfl rfl rfl rfl ⟨rfl, rfl, rfl, rfl, rfl⟩ rfl rfl rfl rfl rfl (by kernel_rfl) Tryz.func3 (by kernel_rfl)
    (of_decide_eq_true (by kernel_rfl)) (by unfold Func.isWrapper; first | (rw [if_pos (by decide +kernel)]; kernel_rfl) | (rw [if_neg (by decide +kernel)]; exact ⟨rfl, rfl⟩))
    (fun os started H enc _ F => by rw [OpenClaim.pre_eq_preRow]; exact lifted os started H enc F)

theorem proved : Rows.MeanOfUptoCardSaid :=
  Claim7.holds_tied_plain_at .later [] _ _ _ _
    over (fun _ h => by cases h) (by kernel_rfl) (fun _ h => by cases h) meanOfUpto_row_tie rfl ⟨rfl, rfl⟩ (by kernel_rfl) rfl
    (fun f fn hf hfn => by
      obtain rfl : f = 3 := Option.some.inj ((show Tryz.prog.funcNamed "steelyard/steelyardlaw13.MeanOf" = some 3 by kernel_rfl).symm.trans hf) |>.symm
      obtain rfl : fn = Tryz.f3 := (Option.some.inj (Tryz.func3.symm.trans hfn)).symm
      exact ⟨by kernel_rfl, fun j t ht => by
        have hm : t ∈ Tryz.f3.params.toList := by simpa using Array.mem_of_getElem? ht
        have hall : (Tryz.f3.params.toList.all fun u => !Tryz.prog.wantsStandIn u) = true := by kernel_rfl
        exact (show Tryz.prog.wantsStandIn t = false by simpa using List.all_eq_true.1 hall t hm)⟩)
    (by kernel_rfl)
end Go.Proofs.YtphnpchmdpjabaaGreatDoor.meanOf
