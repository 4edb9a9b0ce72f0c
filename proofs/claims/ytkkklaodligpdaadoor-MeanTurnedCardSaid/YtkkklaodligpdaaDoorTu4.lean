/- Part 4 of what the proof rests on. No condition. -/
import Derived.Test.YtkkklaodligpdaaDoorTu3
/- Package policy: Verdict, Nought, Plain; math.Inf, Copysign; bits.NaN. No condition. -/
namespace Go.Proofs.YtkkklaodligpdaaDoor
open Go Sx Wd
set_option linter.unusedVariables false
set_option linter.unusedSimpArgs false

theorem Inf_spec (n : Int) (w : World) : Ret Tryd.prog 33 [.int .i64 n] w fun u w' => u = .float .f64 (if 0 ≤ n then 9218868437227405312 else 18442240474082181120) ∧ w = w' := by
  refine Ret.enter Tryd.func33 rfl rfl ?_
  simp only [args0, Nat.zero_add, Nat.reduceAdd]
  refine CW.seq fun kK1 kh1 => ?_
  refine CW.region fun kR2 kr2 => ?_  -- region 0
  refine WL.ev (Ev.assign rfl) rfl ?_
  refine WL.nil (kr2 _ _ _ ?_)
  refine kh1 _ _ _ ?_
  refine CW.seq fun kK3 kh3 => ?_
  refine CW.region fun kR4 kr4 => ?_  -- region 1
  refine WL.ev (Ev.assign rfl) rfl ?_
  refine WL.nil (kr4 _ _ _ ?_)
  refine kh3 _ _ _ ?_
  refine CW.seq fun kK5 kh5 => ?_
  refine CW.seq fun kK6 kh6 => ?_
  refine CW.region fun kR7 kr7 => ?_  -- region 2
  refine WL.ev (Ev.move rfl) rfl ?_
  refine WL.ev (Ev.geq rfl rfl) rfl ?_
  refine WL.nil (kr7 _ _ _ ?_)
  refine kh6 _ _ _ ?_
  refine CW.cond rfl (fun hc1 => ?_) (fun hc1 => ?_)  -- if 5
  ·
    try simp only [decide_eq_true_eq, decide_eq_false_iff_not, Decidable.not_not, Bool.and_eq_true, Bool.or_eq_true, Bool.not_eq_true', Bool.not_eq_false', ne_eq, Int.not_lt, Int.not_le] at hc1
    refine CW.region fun kR8 kr8 => ?_  -- region 3
    refine WL.ev (Ev.assign rfl) rfl ?_
    refine WL.nil (kr8 _ _ _ ?_)
    refine kh5 _ _ _ ?_
    refine CW.seq fun kK9 kh9 => ?_
    refine CW.region fun kR10 kr10 => ?_  -- region 5
    refine WL.ev (Ev.move rfl) rfl ?_
    refine WL.ev (Ev.ext rfl (ext50 _ _)) rfl ?_
    refine WL.ev (Ev.assign rfl) rfl ?_
    refine WL.nil (kr10 _ _ _ ?_)
    refine kh9 _ _ _ ?_
    refine CW.ret ?_
    refine bodyA.ret1 rfl rfl ?_
    rw [if_pos (by omega)]
    exact ⟨rfl, rfl⟩
  ·
    try simp only [decide_eq_true_eq, decide_eq_false_iff_not, Decidable.not_not, Bool.and_eq_true, Bool.or_eq_true, Bool.not_eq_true', Bool.not_eq_false', ne_eq, Int.not_lt, Int.not_le] at hc1
    refine CW.region fun kR11 kr11 => ?_  -- region 4
    refine WL.ev (Ev.assign rfl) rfl ?_
    refine WL.nil (kr11 _ _ _ ?_)
    refine kh5 _ _ _ ?_
    refine CW.seq fun kK12 kh12 => ?_
    refine CW.region fun kR13 kr13 => ?_  -- region 5
    refine WL.ev (Ev.move rfl) rfl ?_
    refine WL.ev (Ev.ext rfl (ext50 _ _)) rfl ?_
    refine WL.ev (Ev.assign rfl) rfl ?_
    refine WL.nil (kr13 _ _ _ ?_)
    refine kh12 _ _ _ ?_
    refine CW.ret ?_
    refine bodyA.ret1 rfl rfl ?_
    rw [if_neg (by omega)]
    exact ⟨rfl, rfl⟩

theorem Copysign_spec (w : World) : Ret Tryd.prog 51 [.float .f64 0, .float .f64 13830554455654793216] w fun u w' => u = .float .f64 9223372036854775808 ∧ w = w' := by
  refine Ret.enter Tryd.func51 rfl rfl ?_
  simp only [args0, Nat.zero_add, Nat.reduceAdd]
  refine CW.seq fun kK1 kh1 => ?_
  refine CW.region fun kR2 kr2 => ?_  -- region 0
  refine WL.ev (Ev.assign rfl) rfl ?_
  refine WL.nil (kr2 _ _ _ ?_)
  refine kh1 _ _ _ ?_
  refine CW.seq fun kK3 kh3 => ?_
  refine CW.region fun kR4 kr4 => ?_  -- region 1
  refine WL.ev (Ev.move rfl) rfl ?_
  refine WL.ev (Ev.ext rfl (ext19 _ _)) rfl ?_
  refine WL.ev (Ev.andNotU (a := 0) (b := 9223372036854775808) rfl rfl rfl (by decide) (by decide)) rfl ?_
  rw [show 0 &&& (2 ^ IntKind.u64.bits - 1 - 9223372036854775808) = 0 from Nat.zero_and _]
  refine WL.ev (Ev.move rfl) rfl ?_
  refine WL.ev (Ev.ext rfl (ext19 _ _)) rfl ?_
  refine WL.ev (Ev.andU (a := 13830554455654793216) (b := 9223372036854775808) rfl rfl rfl (by decide) (by decide)) rfl ?_
  rw [show 13830554455654793216 &&& 9223372036854775808 = 9223372036854775808 from by decide]
  refine WL.ev (Ev.orU (a := 0) (b := 9223372036854775808) rfl rfl rfl (by decide) (by decide)) rfl ?_
  rw [show 0 ||| 9223372036854775808 = 9223372036854775808 from by decide]
  refine WL.ev (Ev.ext rfl (ext50 _ _)) rfl ?_
  refine WL.ev (Ev.assign rfl) rfl ?_
  refine WL.nil (kr4 _ _ _ ?_)
  refine kh3 _ _ _ ?_
  refine CW.ret ?_
  refine bodyA.ret1 rfl rfl ?_
  exact ⟨rfl, rfl⟩

theorem NaN_spec (w : World) : Ret Tryd.prog 32 [] w fun u w' => u = .float .f64 9221120237041090560 ∧ w = w' := by
  refine Ret.enter Tryd.func32 rfl rfl ?_
  simp only [args0, Nat.zero_add, Nat.reduceAdd]
  refine CW.seq fun kK1 kh1 => ?_
  refine CW.region fun kR2 kr2 => ?_  -- region 0
  refine WL.ev (Ev.assign rfl) rfl ?_
  refine WL.nil (kr2 _ _ _ ?_)
  refine kh1 _ _ _ ?_
  refine CW.seq fun kK3 kh3 => ?_
  refine CW.region fun kR4 kr4 => ?_  -- region 1
  refine WL.ev (Ev.ext rfl (ext50 _ _)) rfl ?_
  refine WL.ev (Ev.assign rfl) rfl ?_
  refine WL.nil (kr4 _ _ _ ?_)
  refine kh3 _ _ _ ?_
  refine CW.ret ?_
  refine bodyA.ret1 rfl rfl ?_
  exact ⟨rfl, rfl⟩

theorem Plain_spec (w : World) : Ret Tryd.prog 27 [] w fun u w' => u = .agg [.int .i64 0, .int .i64 0].toArray ∧ Chg [] w w' := by
  have hch : Chg [] w w := Chg.refl _ _
  refine Ret.enter Tryd.func27 rfl rfl ?_
  simp only [args0, Nat.zero_add, Nat.reduceAdd]
  refine CW.seq fun kK1 kh1 => ?_
  refine CW.region fun kR2 kr2 => ?_  -- region 0
  refine WL.allocB (l := [.int .i64 0, .int .i64 0]) rfl rfl fun b0 wm0 hb0 hcm0 hge0 => ?_
  have hgehch0 := Nat.le_trans hch.size hge0
  have hch := hch.trans (Chg.any hcm0)
  refine WL.nil (kr2 _ _ _ ?_)
  refine kh1 _ _ _ ?_
  refine CW.seq fun kK3 kh3 => ?_
  refine CW.region fun kR4 kr4 => ?_  -- region 1
  refine WL.ev (Ev.build (vs := _) (cs := [_, _]) rfl rfl) rfl ?_
  refine WL.storeB rfl rfl rfl (by intro v hv; simp only [List.mem_cons, List.not_mem_nil, or_false] at hv; rcases hv with rfl | rfl <;> first | rfl | assumption | exact NU.one (by assumption)) hb0 (by simp) rfl fun ws15 hb0_ hcs15 => ?_
  try simp only [Sx.splice, List.set_cons_zero, List.set_cons_succ, Nat.zero_add] at hb0_
  have hch := hch.step hcs15 (fun y hy => by simp only [List.mem_singleton] at hy; subst hy; first | exact .inr (by first | assumption | omega) | exact .inl (by simp))
  have hb0 := hb0_
  refine WL.nil (kr4 _ _ _ ?_)
  refine kh3 _ _ _ ?_
  refine CW.ret ?_
  refine bodyA.retR1 rfl (RVal.cell rfl (hb0.varA rfl rfl)) ?_
  exact ⟨rfl, hch⟩

/-- What a sum with such specials is. -/
def verdP (s : SP) (pn pi : Int) : Option Nat :=
  if ¬ mayBeP s ∨ ¬ mayQ pn pi then none else if (0 < s.na ∧ pn = 0) ∨ (0 < s.up ∧ 0 < s.dn ∧ pi = 0) then some 9221120237041090560
  else if 0 < s.up ∧ pi = 0 then some 9218868437227405312 else if 0 < s.dn ∧ pi = 0 then some 18442240474082181120 else none
/-- The sign of a sum that comes to nought. -/
def noughtP (s : SP) (mode : Int) : Nat :=
  if mayBeP s ∧ s.na + s.up + s.dn < s.al ∧ (s.mi + s.na + s.up + s.dn = s.al ∨ s.pl + s.na + s.up + s.dn < s.al ∧ mode = 3) then 9223372036854775808 else 0

set_option maxRecDepth 4000 in
theorem Verdict_spec (s : SP) (pn pi : Int) (w : World) (hs : s.le 1000000000000000) : Ret Tryd.prog 15 [.agg [.int .i64 (s.na : Int), .int .i64 (s.up : Int), .int .i64 (s.dn : Int), .int .i64 (s.mi : Int), .int .i64 (s.pl : Int), .int .i64 (s.al : Int)].toArray, .agg [.int .i64 pn, .int .i64 pi].toArray] w fun u w' => u = .tuple [.float .f64 ((verdP s pn pi).getD 0), .bool (verdP s pn pi).isSome].toArray ∧ Chg [] w w' := by
  have hs0 := hs
  obtain ⟨hs1, hs2, hs3, hs4, hs5, hs6⟩ := hs
  have hch : Chg [] w w := Chg.refl _ _
  refine Ret.enter Tryd.func15 rfl rfl ?_
  simp only [args0, Nat.zero_add, Nat.reduceAdd]
  refine CW.seq fun kK1 kh1 => ?_
  refine CW.region fun kR2 kr2 => ?_  -- region 0
  refine WL.boxB rfl rfl rfl fun b2 wm2 hb2 hcm2 hge2 => ?_
  have hgehch2 := Nat.le_trans hch.size hge2
  have hch := hch.trans (Chg.any hcm2)
  refine WL.boxB rfl rfl rfl fun b3 wm3 hb3 hcm3 hge3 => ?_
  have hgehch3 := Nat.le_trans hch.size hge3
  have hch := hch.trans (Chg.any hcm3)
  have hneb23 : b2 ≠ b3 := by have := hb2.lt; omega
  have hb2 := hb2.keep0 hcm3
  refine WL.ev (Ev.assign rfl) rfl ?_
  refine WL.ev (Ev.assign rfl) rfl ?_
  refine WL.nil (kr2 _ _ _ ?_)
  refine kh1 _ _ _ ?_
  refine CW.seq fun kK3 kh3 => ?_
  refine CW.seq fun kK4 kh4 => ?_
  refine CW.region fun kR5 kr5 => ?_  -- region 1
  refine WL.ev (Ev.loadA rfl rfl hb2 rfl) rfl ?_
  refine WL.call hasF31 rfl rfl (mayBe_spec s _ hs0) fun v w1 h' => ?_
  obtain ⟨rfl, hC9⟩ := h'
  have hch := hch.trans (Chg.any hC9)
  have hb2 := hb2.keep0 hC9
  have hb3 := hb3.keep0 hC9
  refine WL.ev (Ev.not rfl) rfl ?_
  refine WL.ev (Ev.move rfl) rfl ?_
  refine WL.boolCase (fun hg1 => ?_) (fun hg1 => ?_)
  ·
    try simp only [decide_eq_true_eq, decide_eq_false_iff_not, Decidable.not_not, Bool.and_eq_true, Bool.or_eq_true, Bool.not_eq_true', Bool.not_eq_false', ne_eq, Int.not_lt, Int.not_le] at hg1
    have hMM : ¬ mayBeP s ∨ ¬ mayQ pn pi := .inl hg1
    refine WL.pass rfl rfl rfl rfl rfl ?_
    refine WL.pass rfl rfl rfl rfl rfl ?_
    refine WL.pass rfl rfl rfl rfl rfl ?_
    refine WL.ev (Ev.pickT rfl rfl rfl) rfl ?_
    refine WL.nil (kr5 _ _ _ ?_)
    refine kh4 _ _ _ ?_
    refine CW.condT rfl ?_
    refine CW.seq fun kK6 kh6 => ?_
    refine CW.region fun kR7 kr7 => ?_  -- region 2
    refine WL.ev (Ev.assign rfl) rfl ?_
    refine WL.ev (Ev.assign rfl) rfl ?_
    refine WL.nil (kr7 _ _ _ ?_)
    refine kh6 _ _ _ ?_
    refine CW.ret ?_
    refine bodyA.ret2 rfl rfl rfl ?_
    first | (exfalso; omega) | (refine ⟨?_, hch⟩; unfold verdP; rw [if_pos hMM]; rfl) | (refine ⟨?_, hch⟩; unfold verdP; rw [if_neg hMM]; (repeat (first | rw [if_pos (by omega)] | rw [if_neg (by omega)])); rfl)
  ·
    try simp only [decide_eq_true_eq, decide_eq_false_iff_not, Decidable.not_not, Bool.and_eq_true, Bool.or_eq_true, Bool.not_eq_true', Bool.not_eq_false', ne_eq, Int.not_lt, Int.not_le] at hg1
    have hM1 : mayBeP s := hg1
    refine WL.want rfl rfl rfl rfl ?_
    refine WL.ev (Ev.loadA rfl rfl hb3 rfl) rfl ?_
    refine WL.want rfl rfl rfl rfl ?_
    refine WL.call hasF28 rfl rfl (May_spec pn pi _) fun v w2 h' => ?_
    obtain ⟨rfl, hC13⟩ := h'
    have hch := hch.trans (Chg.any hC13)
    have hb2 := hb2.keep0 hC13
    have hb3 := hb3.keep0 hC13
    refine WL.want rfl rfl rfl rfl ?_
    refine WL.ev (Ev.not rfl) rfl ?_
    refine WL.ev (Ev.pickF rfl rfl rfl) rfl ?_
    refine WL.nil (kr5 _ _ _ ?_)
    refine kh4 _ _ _ ?_
    refine CW.cond rfl (fun hc2 => ?_) (fun hc2 => ?_)  -- if 15
    ·
      try simp only [decide_eq_true_eq, decide_eq_false_iff_not, Decidable.not_not, Bool.and_eq_true, Bool.or_eq_true, Bool.not_eq_true', Bool.not_eq_false', ne_eq, Int.not_lt, Int.not_le] at hc2
      have hMM : ¬ mayBeP s ∨ ¬ mayQ pn pi := .inr hc2
      refine CW.seq fun kK8 kh8 => ?_
      refine CW.region fun kR9 kr9 => ?_  -- region 2
      refine WL.ev (Ev.assign rfl) rfl ?_
      refine WL.ev (Ev.assign rfl) rfl ?_
      refine WL.nil (kr9 _ _ _ ?_)
      refine kh8 _ _ _ ?_
      refine CW.ret ?_
      refine bodyA.ret2 rfl rfl rfl ?_
      first | (exfalso; omega) | (refine ⟨?_, hch⟩; unfold verdP; rw [if_pos hMM]; rfl) | (refine ⟨?_, hch⟩; unfold verdP; rw [if_neg hMM]; (repeat (first | rw [if_pos (by omega)] | rw [if_neg (by omega)])); rfl)
    ·
      try simp only [decide_eq_true_eq, decide_eq_false_iff_not, Decidable.not_not, Bool.and_eq_true, Bool.or_eq_true, Bool.not_eq_true', Bool.not_eq_false', ne_eq, Int.not_lt, Int.not_le] at hc2
      have hMM : ¬ (¬ mayBeP s ∨ ¬ mayQ pn pi) := fun q => q.elim (fun z => z hM1) (fun z => z hc2)
      refine CW.skip ?_
      refine kh3 _ _ _ ?_
      refine CW.seq fun kK10 kh10 => ?_
      refine CW.regionSC hmix (by kernel_rfl) fun kR11 kr11 hdr => ?_  -- region 3
      have hch := hch.trans (Chg.any hdr)
      have hb2 := hb2.keep0 hdr
      have hb3 := hb3.keep0 hdr
      refine WS.ev (Ev.fieldAddr rfl) rfl ?_
      refine WS.ev (Ev.load rfl rfl (hb2.at_ rfl)) rfl ?_
      refine WS.ev (Ev.gtr rfl rfl) rfl ?_
      refine WS.ev (Ev.move rfl) rfl ?_
      refine WS.boolCase (fun hg3 => ?_) (fun hg3 => ?_)
      ·
        try simp only [decide_eq_true_eq, decide_eq_false_iff_not, Decidable.not_not, Bool.and_eq_true, Bool.or_eq_true, Bool.not_eq_true', Bool.not_eq_false', ne_eq, Int.not_lt, Int.not_le] at hg3
        refine WS.want rfl rfl rfl rfl ?_
        refine WS.ev (Ev.fieldAddr rfl) rfl ?_
        refine WS.want rfl rfl rfl rfl ?_
        refine WS.ev (Ev.load rfl rfl (hb3.at_ rfl)) rfl ?_
        refine WS.want rfl rfl rfl rfl ?_
        refine WS.ev (Ev.eql rfl rfl) rfl ?_
        refine WS.ev (Ev.pickT rfl rfl rfl) rfl ?_
        refine WS.ev (Ev.fieldAddr rfl) rfl ?_
        refine WS.ev (Ev.load rfl rfl (hb2.at_ rfl)) rfl ?_
        refine WS.ev (Ev.gtr rfl rfl) rfl ?_
        refine WS.ev (Ev.move rfl) rfl ?_
        refine WS.boolCase (fun hg4 => ?_) (fun hg4 => ?_)
        ·
          try simp only [decide_eq_true_eq, decide_eq_false_iff_not, Decidable.not_not, Bool.and_eq_true, Bool.or_eq_true, Bool.not_eq_true', Bool.not_eq_false', ne_eq, Int.not_lt, Int.not_le] at hg4
          refine WS.want rfl rfl rfl rfl ?_
          refine WS.ev (Ev.fieldAddr rfl) rfl ?_
          refine WS.want rfl rfl rfl rfl ?_
          refine WS.ev (Ev.load rfl rfl (hb3.at_ rfl)) rfl ?_
          refine WS.want rfl rfl rfl rfl ?_
          refine WS.ev (Ev.eql rfl rfl) rfl ?_
          refine WS.ev (Ev.pickT rfl rfl rfl) rfl ?_
          refine WS.ev (Ev.assign rfl) rfl ?_
          refine WS.ev (Ev.assign rfl) rfl ?_
          refine WS.nil (kr11 _ _ ?_)
          refine kh10 _ _ _ ?_
          refine CW.seq fun kK12 kh12 => ?_
          refine CW.block ?_
          refine CW.seq fun kK13 kh13 => ?_
          refine CW.seq fun kK14 kh14 => ?_
          refine CW.region fun kR15 kr15 => ?_  -- region 4
          refine WL.ev (Ev.fieldAddr rfl) rfl ?_
          refine WL.ev (Ev.load rfl rfl (hb2.at_ rfl)) rfl ?_
          refine WL.ev (Ev.gtr rfl rfl) rfl ?_
          refine WL.ev (Ev.move rfl) rfl ?_
          refine WL.boolCase (fun hg5 => ?_) (fun hg5 => ?_)
          ·
            try simp only [decide_eq_true_eq, decide_eq_false_iff_not, Decidable.not_not, Bool.and_eq_true, Bool.or_eq_true, Bool.not_eq_true', Bool.not_eq_false', ne_eq, Int.not_lt, Int.not_le] at hg5
            refine WL.want rfl rfl rfl rfl ?_
            refine WL.ev (Ev.fieldAddr rfl) rfl ?_
            refine WL.want rfl rfl rfl rfl ?_
            refine WL.ev (Ev.load rfl rfl (hb3.at_ rfl)) rfl ?_
            refine WL.want rfl rfl rfl rfl ?_
            refine WL.ev (Ev.eql rfl rfl) rfl ?_
            refine WL.ev (Ev.pickT rfl rfl rfl) rfl ?_
            refine WL.ev (Ev.assign rfl) rfl ?_
            refine WL.nil (kr15 _ _ _ ?_)
            refine kh14 _ _ _ ?_
            refine CW.cond rfl (fun hc6 => ?_) (fun hc6 => ?_)  -- if 32
            ·
              try simp only [decide_eq_true_eq, decide_eq_false_iff_not, Decidable.not_not, Bool.and_eq_true, Bool.or_eq_true, Bool.not_eq_true', Bool.not_eq_false', ne_eq, Int.not_lt, Int.not_le] at hc6
              refine CW.skip ?_
              refine kh13 _ _ _ ?_
              refine CW.cond rfl (fun hc7 => ?_) (fun hc7 => ?_)  -- if 32
              ·
                try simp only [decide_eq_true_eq, decide_eq_false_iff_not, Decidable.not_not, Bool.and_eq_true, Bool.or_eq_true, Bool.not_eq_true', Bool.not_eq_false', ne_eq, Int.not_lt, Int.not_le] at hc7
                refine CW.seq fun kK16 kh16 => ?_
                refine CW.region fun kR17 kr17 => ?_  -- region 6
                refine WL.call hasF32 rfl rfl (NaN_spec _) fun v w3 h' => ?_
                obtain ⟨rfl, rfl⟩ := h'
                refine WL.ev (Ev.assign rfl) rfl ?_
                refine WL.ev (Ev.assign rfl) rfl ?_
                refine WL.nil (kr17 _ _ _ ?_)
                refine kh16 _ _ _ ?_
                refine CW.ret ?_
                refine bodyA.ret2 rfl rfl rfl ?_
                first | (exfalso; omega) | (refine ⟨?_, hch⟩; unfold verdP; rw [if_pos hMM]; rfl) | (refine ⟨?_, hch⟩; unfold verdP; rw [if_neg hMM]; (repeat (first | rw [if_pos (by omega)] | rw [if_neg (by omega)])); rfl)
              ·
                try simp only [decide_eq_true_eq, decide_eq_false_iff_not, Decidable.not_not, Bool.and_eq_true, Bool.or_eq_true, Bool.not_eq_true', Bool.not_eq_false', ne_eq, Int.not_lt, Int.not_le] at hc7
                refine CW.seq fun kK18 kh18 => ?_
                refine CW.region fun kR19 kr19 => ?_  -- region 7
                refine WL.ev (Ev.move rfl) rfl ?_
                refine WL.ev (Ev.assign rfl) rfl ?_
                refine WL.nil (kr19 _ _ _ ?_)
                refine kh18 _ _ _ ?_
                refine CW.cond rfl (fun hc8 => ?_) (fun hc8 => ?_)  -- if 46
                ·
                  try simp only [decide_eq_true_eq, decide_eq_false_iff_not, Decidable.not_not, Bool.and_eq_true, Bool.or_eq_true, Bool.not_eq_true', Bool.not_eq_false', ne_eq, Int.not_lt, Int.not_le] at hc8
                  refine CW.seq fun kK20 kh20 => ?_
                  refine CW.region fun kR21 kr21 => ?_  -- region 8
                  refine WL.call hasF33 rfl rfl (Inf_spec 1 _) fun v w4 h' => ?_
                  obtain ⟨rfl, rfl⟩ := h'
                  refine WL.ev (Ev.assign rfl) rfl ?_
                  refine WL.ev (Ev.assign rfl) rfl ?_
                  refine WL.nil (kr21 _ _ _ ?_)
                  refine kh20 _ _ _ ?_
                  refine CW.ret ?_
                  refine bodyA.ret2 rfl rfl rfl ?_
                  first | (exfalso; omega) | (refine ⟨?_, hch⟩; unfold verdP; rw [if_pos hMM]; rfl) | (refine ⟨?_, hch⟩; unfold verdP; rw [if_neg hMM]; (repeat (first | rw [if_pos (by omega)] | rw [if_neg (by omega)])); rfl)
                ·
                  try simp only [decide_eq_true_eq, decide_eq_false_iff_not, Decidable.not_not, Bool.and_eq_true, Bool.or_eq_true, Bool.not_eq_true', Bool.not_eq_false', ne_eq, Int.not_lt, Int.not_le] at hc8
                  refine CW.seq fun kK22 kh22 => ?_
                  refine CW.region fun kR23 kr23 => ?_  -- region 9
                  refine WL.ev (Ev.move rfl) rfl ?_
                  refine WL.ev (Ev.assign rfl) rfl ?_
                  refine WL.nil (kr23 _ _ _ ?_)
                  refine kh22 _ _ _ ?_
                  refine CW.cond rfl (fun hc9 => ?_) (fun hc9 => ?_)  -- if 49
                  ·
                    try simp only [decide_eq_true_eq, decide_eq_false_iff_not, Decidable.not_not, Bool.and_eq_true, Bool.or_eq_true, Bool.not_eq_true', Bool.not_eq_false', ne_eq, Int.not_lt, Int.not_le] at hc9
                    refine CW.seq fun kK24 kh24 => ?_
                    refine CW.region fun kR25 kr25 => ?_  -- region 10
                    refine WL.call hasF33 rfl rfl (Inf_spec (-1) _) fun v w5 h' => ?_
                    obtain ⟨rfl, rfl⟩ := h'
                    refine WL.ev (Ev.assign rfl) rfl ?_
                    refine WL.ev (Ev.assign rfl) rfl ?_
                    refine WL.nil (kr25 _ _ _ ?_)
                    refine kh24 _ _ _ ?_
                    refine CW.ret ?_
                    refine bodyA.ret2 rfl rfl rfl ?_
                    first | (exfalso; omega) | (refine ⟨?_, hch⟩; unfold verdP; rw [if_pos hMM]; rfl) | (refine ⟨?_, hch⟩; unfold verdP; rw [if_neg hMM]; (repeat (first | rw [if_pos (by omega)] | rw [if_neg (by omega)])); rfl)
                  ·
                    try simp only [decide_eq_true_eq, decide_eq_false_iff_not, Decidable.not_not, Bool.and_eq_true, Bool.or_eq_true, Bool.not_eq_true', Bool.not_eq_false', ne_eq, Int.not_lt, Int.not_le] at hc9
                    refine CW.skip ?_
                    refine kh12 _ _ _ ?_
                    refine CW.seq fun kK26 kh26 => ?_
                    refine CW.region fun kR27 kr27 => ?_  -- region 11
                    refine WL.ev (Ev.assign rfl) rfl ?_
                    refine WL.ev (Ev.assign rfl) rfl ?_
                    refine WL.nil (kr27 _ _ _ ?_)
                    refine kh26 _ _ _ ?_
                    refine CW.ret ?_
                    refine bodyA.ret2 rfl rfl rfl ?_
                    first | (exfalso; omega) | (refine ⟨?_, hch⟩; unfold verdP; rw [if_pos hMM]; rfl) | (refine ⟨?_, hch⟩; unfold verdP; rw [if_neg hMM]; (repeat (first | rw [if_pos (by omega)] | rw [if_neg (by omega)])); rfl)
            ·
              try simp only [decide_eq_true_eq, decide_eq_false_iff_not, Decidable.not_not, Bool.and_eq_true, Bool.or_eq_true, Bool.not_eq_true', Bool.not_eq_false', ne_eq, Int.not_lt, Int.not_le] at hc6
              refine CW.region fun kR28 kr28 => ?_  -- region 5
              refine WL.ev (Ev.move rfl) rfl ?_
              refine WL.ev (Ev.move rfl) rfl ?_
              refine WL.boolCase (fun hg10 => ?_) (fun hg10 => ?_)
              ·
                try simp only [decide_eq_true_eq, decide_eq_false_iff_not, Decidable.not_not, Bool.and_eq_true, Bool.or_eq_true, Bool.not_eq_true', Bool.not_eq_false', ne_eq, Int.not_lt, Int.not_le] at hg10
                refine WL.want rfl rfl rfl rfl ?_
                refine WL.ev (Ev.move rfl) rfl ?_
                refine WL.ev (Ev.pickT rfl rfl rfl) rfl ?_
                refine WL.ev (Ev.assign rfl) rfl ?_
                refine WL.nil (kr28 _ _ _ ?_)
                refine kh13 _ _ _ ?_
                refine CW.cond rfl (fun hc11 => ?_) (fun hc11 => ?_)  -- if 32
                ·
                  try simp only [decide_eq_true_eq, decide_eq_false_iff_not, Decidable.not_not, Bool.and_eq_true, Bool.or_eq_true, Bool.not_eq_true', Bool.not_eq_false', ne_eq, Int.not_lt, Int.not_le] at hc11
                  refine CW.seq fun kK29 kh29 => ?_
                  refine CW.region fun kR30 kr30 => ?_  -- region 6
                  refine WL.call hasF32 rfl rfl (NaN_spec _) fun v w6 h' => ?_
                  obtain ⟨rfl, rfl⟩ := h'
                  refine WL.ev (Ev.assign rfl) rfl ?_
                  refine WL.ev (Ev.assign rfl) rfl ?_
                  refine WL.nil (kr30 _ _ _ ?_)
                  refine kh29 _ _ _ ?_
                  refine CW.ret ?_
                  refine bodyA.ret2 rfl rfl rfl ?_
                  first | (exfalso; omega) | (refine ⟨?_, hch⟩; unfold verdP; rw [if_pos hMM]; rfl) | (refine ⟨?_, hch⟩; unfold verdP; rw [if_neg hMM]; (repeat (first | rw [if_pos (by omega)] | rw [if_neg (by omega)])); rfl)
                ·
                  try simp only [decide_eq_true_eq, decide_eq_false_iff_not, Decidable.not_not, Bool.and_eq_true, Bool.or_eq_true, Bool.not_eq_true', Bool.not_eq_false', ne_eq, Int.not_lt, Int.not_le] at hc11
                  refine CW.seq fun kK31 kh31 => ?_
                  refine CW.region fun kR32 kr32 => ?_  -- region 7
                  refine WL.ev (Ev.move rfl) rfl ?_
                  refine WL.ev (Ev.assign rfl) rfl ?_
                  refine WL.nil (kr32 _ _ _ ?_)
                  refine kh31 _ _ _ ?_
                  refine CW.cond rfl (fun hc12 => ?_) (fun hc12 => ?_)  -- if 46
                  ·
                    try simp only [decide_eq_true_eq, decide_eq_false_iff_not, Decidable.not_not, Bool.and_eq_true, Bool.or_eq_true, Bool.not_eq_true', Bool.not_eq_false', ne_eq, Int.not_lt, Int.not_le] at hc12
                    refine CW.seq fun kK33 kh33 => ?_
                    refine CW.region fun kR34 kr34 => ?_  -- region 8
                    refine WL.call hasF33 rfl rfl (Inf_spec 1 _) fun v w7 h' => ?_
                    obtain ⟨rfl, rfl⟩ := h'
                    refine WL.ev (Ev.assign rfl) rfl ?_
                    refine WL.ev (Ev.assign rfl) rfl ?_
                    refine WL.nil (kr34 _ _ _ ?_)
                    refine kh33 _ _ _ ?_
                    refine CW.ret ?_
                    refine bodyA.ret2 rfl rfl rfl ?_
                    first | (exfalso; omega) | (refine ⟨?_, hch⟩; unfold verdP; rw [if_pos hMM]; rfl) | (refine ⟨?_, hch⟩; unfold verdP; rw [if_neg hMM]; (repeat (first | rw [if_pos (by omega)] | rw [if_neg (by omega)])); rfl)
                  ·
                    try simp only [decide_eq_true_eq, decide_eq_false_iff_not, Decidable.not_not, Bool.and_eq_true, Bool.or_eq_true, Bool.not_eq_true', Bool.not_eq_false', ne_eq, Int.not_lt, Int.not_le] at hc12
                    refine CW.seq fun kK35 kh35 => ?_
                    refine CW.region fun kR36 kr36 => ?_  -- region 9
                    refine WL.ev (Ev.move rfl) rfl ?_
                    refine WL.ev (Ev.assign rfl) rfl ?_
                    refine WL.nil (kr36 _ _ _ ?_)
                    refine kh35 _ _ _ ?_
                    refine CW.cond rfl (fun hc13 => ?_) (fun hc13 => ?_)  -- if 49
                    ·
                      try simp only [decide_eq_true_eq, decide_eq_false_iff_not, Decidable.not_not, Bool.and_eq_true, Bool.or_eq_true, Bool.not_eq_true', Bool.not_eq_false', ne_eq, Int.not_lt, Int.not_le] at hc13
                      refine CW.seq fun kK37 kh37 => ?_
                      refine CW.region fun kR38 kr38 => ?_  -- region 10
                      refine WL.call hasF33 rfl rfl (Inf_spec (-1) _) fun v w8 h' => ?_
                      obtain ⟨rfl, rfl⟩ := h'
                      refine WL.ev (Ev.assign rfl) rfl ?_
                      refine WL.ev (Ev.assign rfl) rfl ?_
                      refine WL.nil (kr38 _ _ _ ?_)
                      refine kh37 _ _ _ ?_
                      refine CW.ret ?_
                      refine bodyA.ret2 rfl rfl rfl ?_
                      first | (exfalso; omega) | (refine ⟨?_, hch⟩; unfold verdP; rw [if_pos hMM]; rfl) | (refine ⟨?_, hch⟩; unfold verdP; rw [if_neg hMM]; (repeat (first | rw [if_pos (by omega)] | rw [if_neg (by omega)])); rfl)
                    ·
                      try simp only [decide_eq_true_eq, decide_eq_false_iff_not, Decidable.not_not, Bool.and_eq_true, Bool.or_eq_true, Bool.not_eq_true', Bool.not_eq_false', ne_eq, Int.not_lt, Int.not_le] at hc13
                      refine CW.skip ?_
                      refine kh12 _ _ _ ?_
                      refine CW.seq fun kK39 kh39 => ?_
                      refine CW.region fun kR40 kr40 => ?_  -- region 11
                      refine WL.ev (Ev.assign rfl) rfl ?_
                      refine WL.ev (Ev.assign rfl) rfl ?_
                      refine WL.nil (kr40 _ _ _ ?_)
                      refine kh39 _ _ _ ?_
                      refine CW.ret ?_
                      refine bodyA.ret2 rfl rfl rfl ?_
                      first | (exfalso; omega) | (refine ⟨?_, hch⟩; unfold verdP; rw [if_pos hMM]; rfl) | (refine ⟨?_, hch⟩; unfold verdP; rw [if_neg hMM]; (repeat (first | rw [if_pos (by omega)] | rw [if_neg (by omega)])); rfl)
              ·
                try simp only [decide_eq_true_eq, decide_eq_false_iff_not, Decidable.not_not, Bool.and_eq_true, Bool.or_eq_true, Bool.not_eq_true', Bool.not_eq_false', ne_eq, Int.not_lt, Int.not_le] at hg10
                refine WL.pass rfl rfl rfl rfl rfl ?_
                refine WL.ev (Ev.pickF rfl rfl rfl) rfl ?_
                refine WL.ev (Ev.assign rfl) rfl ?_
                refine WL.nil (kr28 _ _ _ ?_)
                refine kh13 _ _ _ ?_
                refine CW.condF rfl ?_
                refine CW.seq fun kK41 kh41 => ?_
                refine CW.region fun kR42 kr42 => ?_  -- region 7
                refine WL.ev (Ev.move rfl) rfl ?_
                refine WL.ev (Ev.assign rfl) rfl ?_
                refine WL.nil (kr42 _ _ _ ?_)
                refine kh41 _ _ _ ?_
                refine CW.cond rfl (fun hc14 => ?_) (fun hc14 => ?_)  -- if 46
                ·
                  try simp only [decide_eq_true_eq, decide_eq_false_iff_not, Decidable.not_not, Bool.and_eq_true, Bool.or_eq_true, Bool.not_eq_true', Bool.not_eq_false', ne_eq, Int.not_lt, Int.not_le] at hc14
                  refine CW.seq fun kK43 kh43 => ?_
                  refine CW.region fun kR44 kr44 => ?_  -- region 8
                  refine WL.call hasF33 rfl rfl (Inf_spec 1 _) fun v w9 h' => ?_
                  obtain ⟨rfl, rfl⟩ := h'
                  refine WL.ev (Ev.assign rfl) rfl ?_
                  refine WL.ev (Ev.assign rfl) rfl ?_
                  refine WL.nil (kr44 _ _ _ ?_)
                  refine kh43 _ _ _ ?_
                  refine CW.ret ?_
                  refine bodyA.ret2 rfl rfl rfl ?_
                  first | (exfalso; omega) | (refine ⟨?_, hch⟩; unfold verdP; rw [if_pos hMM]; rfl) | (refine ⟨?_, hch⟩; unfold verdP; rw [if_neg hMM]; (repeat (first | rw [if_pos (by omega)] | rw [if_neg (by omega)])); rfl)
                ·
                  try simp only [decide_eq_true_eq, decide_eq_false_iff_not, Decidable.not_not, Bool.and_eq_true, Bool.or_eq_true, Bool.not_eq_true', Bool.not_eq_false', ne_eq, Int.not_lt, Int.not_le] at hc14
                  refine CW.seq fun kK45 kh45 => ?_
                  refine CW.region fun kR46 kr46 => ?_  -- region 9
                  refine WL.ev (Ev.move rfl) rfl ?_
                  refine WL.ev (Ev.assign rfl) rfl ?_
                  refine WL.nil (kr46 _ _ _ ?_)
                  refine kh45 _ _ _ ?_
                  refine CW.cond rfl (fun hc15 => ?_) (fun hc15 => ?_)  -- if 49
                  ·
                    try simp only [decide_eq_true_eq, decide_eq_false_iff_not, Decidable.not_not, Bool.and_eq_true, Bool.or_eq_true, Bool.not_eq_true', Bool.not_eq_false', ne_eq, Int.not_lt, Int.not_le] at hc15
                    refine CW.seq fun kK47 kh47 => ?_
                    refine CW.region fun kR48 kr48 => ?_  -- region 10
                    refine WL.call hasF33 rfl rfl (Inf_spec (-1) _) fun v w10 h' => ?_
                    obtain ⟨rfl, rfl⟩ := h'
                    refine WL.ev (Ev.assign rfl) rfl ?_
                    refine WL.ev (Ev.assign rfl) rfl ?_
                    refine WL.nil (kr48 _ _ _ ?_)
                    refine kh47 _ _ _ ?_
                    refine CW.ret ?_
                    refine bodyA.ret2 rfl rfl rfl ?_
                    first | (exfalso; omega) | (refine ⟨?_, hch⟩; unfold verdP; rw [if_pos hMM]; rfl) | (refine ⟨?_, hch⟩; unfold verdP; rw [if_neg hMM]; (repeat (first | rw [if_pos (by omega)] | rw [if_neg (by omega)])); rfl)
                  ·
                    try simp only [decide_eq_true_eq, decide_eq_false_iff_not, Decidable.not_not, Bool.and_eq_true, Bool.or_eq_true, Bool.not_eq_true', Bool.not_eq_false', ne_eq, Int.not_lt, Int.not_le] at hc15
                    refine CW.skip ?_
                    refine kh12 _ _ _ ?_
                    refine CW.seq fun kK49 kh49 => ?_
                    refine CW.region fun kR50 kr50 => ?_  -- region 11
                    refine WL.ev (Ev.assign rfl) rfl ?_
                    refine WL.ev (Ev.assign rfl) rfl ?_
                    refine WL.nil (kr50 _ _ _ ?_)
                    refine kh49 _ _ _ ?_
                    refine CW.ret ?_
                    refine bodyA.ret2 rfl rfl rfl ?_
                    first | (exfalso; omega) | (refine ⟨?_, hch⟩; unfold verdP; rw [if_pos hMM]; rfl) | (refine ⟨?_, hch⟩; unfold verdP; rw [if_neg hMM]; (repeat (first | rw [if_pos (by omega)] | rw [if_neg (by omega)])); rfl)
          ·
            try simp only [decide_eq_true_eq, decide_eq_false_iff_not, Decidable.not_not, Bool.and_eq_true, Bool.or_eq_true, Bool.not_eq_true', Bool.not_eq_false', ne_eq, Int.not_lt, Int.not_le] at hg5
            refine WL.pass rfl rfl rfl rfl rfl ?_
            refine WL.pass rfl rfl rfl rfl rfl ?_
            refine WL.pass rfl rfl rfl rfl rfl ?_
            refine WL.ev (Ev.pickF rfl rfl rfl) rfl ?_
            refine WL.ev (Ev.assign rfl) rfl ?_
            refine WL.nil (kr15 _ _ _ ?_)
            refine kh14 _ _ _ ?_
            refine CW.condF rfl ?_
            refine CW.region fun kR51 kr51 => ?_  -- region 5
            refine WL.ev (Ev.move rfl) rfl ?_
            refine WL.ev (Ev.move rfl) rfl ?_
            refine WL.boolCase (fun hg16 => ?_) (fun hg16 => ?_)
            ·
              try simp only [decide_eq_true_eq, decide_eq_false_iff_not, Decidable.not_not, Bool.and_eq_true, Bool.or_eq_true, Bool.not_eq_true', Bool.not_eq_false', ne_eq, Int.not_lt, Int.not_le] at hg16
              refine WL.want rfl rfl rfl rfl ?_
              refine WL.ev (Ev.move rfl) rfl ?_
              refine WL.ev (Ev.pickT rfl rfl rfl) rfl ?_
              refine WL.ev (Ev.assign rfl) rfl ?_
              refine WL.nil (kr51 _ _ _ ?_)
              refine kh13 _ _ _ ?_
              refine CW.cond rfl (fun hc17 => ?_) (fun hc17 => ?_)  -- if 32
              ·
                try simp only [decide_eq_true_eq, decide_eq_false_iff_not, Decidable.not_not, Bool.and_eq_true, Bool.or_eq_true, Bool.not_eq_true', Bool.not_eq_false', ne_eq, Int.not_lt, Int.not_le] at hc17
                refine CW.seq fun kK52 kh52 => ?_
                refine CW.region fun kR53 kr53 => ?_  -- region 6
                refine WL.call hasF32 rfl rfl (NaN_spec _) fun v w11 h' => ?_
                obtain ⟨rfl, rfl⟩ := h'
                refine WL.ev (Ev.assign rfl) rfl ?_
                refine WL.ev (Ev.assign rfl) rfl ?_
                refine WL.nil (kr53 _ _ _ ?_)
                refine kh52 _ _ _ ?_
                refine CW.ret ?_
                refine bodyA.ret2 rfl rfl rfl ?_
                first | (exfalso; omega) | (refine ⟨?_, hch⟩; unfold verdP; rw [if_pos hMM]; rfl) | (refine ⟨?_, hch⟩; unfold verdP; rw [if_neg hMM]; (repeat (first | rw [if_pos (by omega)] | rw [if_neg (by omega)])); rfl)
              ·
                try simp only [decide_eq_true_eq, decide_eq_false_iff_not, Decidable.not_not, Bool.and_eq_true, Bool.or_eq_true, Bool.not_eq_true', Bool.not_eq_false', ne_eq, Int.not_lt, Int.not_le] at hc17
                refine CW.seq fun kK54 kh54 => ?_
                refine CW.region fun kR55 kr55 => ?_  -- region 7
                refine WL.ev (Ev.move rfl) rfl ?_
                refine WL.ev (Ev.assign rfl) rfl ?_
                refine WL.nil (kr55 _ _ _ ?_)
                refine kh54 _ _ _ ?_
                refine CW.cond rfl (fun hc18 => ?_) (fun hc18 => ?_)  -- if 46
                ·
                  try simp only [decide_eq_true_eq, decide_eq_false_iff_not, Decidable.not_not, Bool.and_eq_true, Bool.or_eq_true, Bool.not_eq_true', Bool.not_eq_false', ne_eq, Int.not_lt, Int.not_le] at hc18
                  refine CW.seq fun kK56 kh56 => ?_
                  refine CW.region fun kR57 kr57 => ?_  -- region 8
                  refine WL.call hasF33 rfl rfl (Inf_spec 1 _) fun v w12 h' => ?_
                  obtain ⟨rfl, rfl⟩ := h'
                  refine WL.ev (Ev.assign rfl) rfl ?_
                  refine WL.ev (Ev.assign rfl) rfl ?_
                  refine WL.nil (kr57 _ _ _ ?_)
                  refine kh56 _ _ _ ?_
                  refine CW.ret ?_
                  refine bodyA.ret2 rfl rfl rfl ?_
                  first | (exfalso; omega) | (refine ⟨?_, hch⟩; unfold verdP; rw [if_pos hMM]; rfl) | (refine ⟨?_, hch⟩; unfold verdP; rw [if_neg hMM]; (repeat (first | rw [if_pos (by omega)] | rw [if_neg (by omega)])); rfl)
                ·
                  try simp only [decide_eq_true_eq, decide_eq_false_iff_not, Decidable.not_not, Bool.and_eq_true, Bool.or_eq_true, Bool.not_eq_true', Bool.not_eq_false', ne_eq, Int.not_lt, Int.not_le] at hc18
                  refine CW.seq fun kK58 kh58 => ?_
                  refine CW.region fun kR59 kr59 => ?_  -- region 9
                  refine WL.ev (Ev.move rfl) rfl ?_
                  refine WL.ev (Ev.assign rfl) rfl ?_
                  refine WL.nil (kr59 _ _ _ ?_)
                  refine kh58 _ _ _ ?_
                  refine CW.cond rfl (fun hc19 => ?_) (fun hc19 => ?_)  -- if 49
                  ·
                    try simp only [decide_eq_true_eq, decide_eq_false_iff_not, Decidable.not_not, Bool.and_eq_true, Bool.or_eq_true, Bool.not_eq_true', Bool.not_eq_false', ne_eq, Int.not_lt, Int.not_le] at hc19
                    refine CW.seq fun kK60 kh60 => ?_
                    refine CW.region fun kR61 kr61 => ?_  -- region 10
                    refine WL.call hasF33 rfl rfl (Inf_spec (-1) _) fun v w13 h' => ?_
                    obtain ⟨rfl, rfl⟩ := h'
                    refine WL.ev (Ev.assign rfl) rfl ?_
                    refine WL.ev (Ev.assign rfl) rfl ?_
                    refine WL.nil (kr61 _ _ _ ?_)
                    refine kh60 _ _ _ ?_
                    refine CW.ret ?_
                    refine bodyA.ret2 rfl rfl rfl ?_
                    first | (exfalso; omega) | (refine ⟨?_, hch⟩; unfold verdP; rw [if_pos hMM]; rfl) | (refine ⟨?_, hch⟩; unfold verdP; rw [if_neg hMM]; (repeat (first | rw [if_pos (by omega)] | rw [if_neg (by omega)])); rfl)
                  ·
                    try simp only [decide_eq_true_eq, decide_eq_false_iff_not, Decidable.not_not, Bool.and_eq_true, Bool.or_eq_true, Bool.not_eq_true', Bool.not_eq_false', ne_eq, Int.not_lt, Int.not_le] at hc19
                    refine CW.skip ?_
                    refine kh12 _ _ _ ?_
                    refine CW.seq fun kK62 kh62 => ?_
                    refine CW.region fun kR63 kr63 => ?_  -- region 11
                    refine WL.ev (Ev.assign rfl) rfl ?_
                    refine WL.ev (Ev.assign rfl) rfl ?_
                    refine WL.nil (kr63 _ _ _ ?_)
                    refine kh62 _ _ _ ?_
                    refine CW.ret ?_
                    refine bodyA.ret2 rfl rfl rfl ?_
                    first | (exfalso; omega) | (refine ⟨?_, hch⟩; unfold verdP; rw [if_pos hMM]; rfl) | (refine ⟨?_, hch⟩; unfold verdP; rw [if_neg hMM]; (repeat (first | rw [if_pos (by omega)] | rw [if_neg (by omega)])); rfl)
            ·
              try simp only [decide_eq_true_eq, decide_eq_false_iff_not, Decidable.not_not, Bool.and_eq_true, Bool.or_eq_true, Bool.not_eq_true', Bool.not_eq_false', ne_eq, Int.not_lt, Int.not_le] at hg16
              refine WL.pass rfl rfl rfl rfl rfl ?_
              refine WL.ev (Ev.pickF rfl rfl rfl) rfl ?_
              refine WL.ev (Ev.assign rfl) rfl ?_
              refine WL.nil (kr51 _ _ _ ?_)
              refine kh13 _ _ _ ?_
              refine CW.condF rfl ?_
              refine CW.seq fun kK64 kh64 => ?_
              refine CW.region fun kR65 kr65 => ?_  -- region 7
              refine WL.ev (Ev.move rfl) rfl ?_
              refine WL.ev (Ev.assign rfl) rfl ?_
              refine WL.nil (kr65 _ _ _ ?_)
              refine kh64 _ _ _ ?_
              refine CW.cond rfl (fun hc20 => ?_) (fun hc20 => ?_)  -- if 46
              ·
                try simp only [decide_eq_true_eq, decide_eq_false_iff_not, Decidable.not_not, Bool.and_eq_true, Bool.or_eq_true, Bool.not_eq_true', Bool.not_eq_false', ne_eq, Int.not_lt, Int.not_le] at hc20
                refine CW.seq fun kK66 kh66 => ?_
                refine CW.region fun kR67 kr67 => ?_  -- region 8
                refine WL.call hasF33 rfl rfl (Inf_spec 1 _) fun v w14 h' => ?_
                obtain ⟨rfl, rfl⟩ := h'
                refine WL.ev (Ev.assign rfl) rfl ?_
                refine WL.ev (Ev.assign rfl) rfl ?_
                refine WL.nil (kr67 _ _ _ ?_)
                refine kh66 _ _ _ ?_
                refine CW.ret ?_
                refine bodyA.ret2 rfl rfl rfl ?_
                first | (exfalso; omega) | (refine ⟨?_, hch⟩; unfold verdP; rw [if_pos hMM]; rfl) | (refine ⟨?_, hch⟩; unfold verdP; rw [if_neg hMM]; (repeat (first | rw [if_pos (by omega)] | rw [if_neg (by omega)])); rfl)
              ·
                try simp only [decide_eq_true_eq, decide_eq_false_iff_not, Decidable.not_not, Bool.and_eq_true, Bool.or_eq_true, Bool.not_eq_true', Bool.not_eq_false', ne_eq, Int.not_lt, Int.not_le] at hc20
                refine CW.seq fun kK68 kh68 => ?_
                refine CW.region fun kR69 kr69 => ?_  -- region 9
                refine WL.ev (Ev.move rfl) rfl ?_
                refine WL.ev (Ev.assign rfl) rfl ?_
                refine WL.nil (kr69 _ _ _ ?_)
                refine kh68 _ _ _ ?_
                refine CW.cond rfl (fun hc21 => ?_) (fun hc21 => ?_)  -- if 49
                ·
                  try simp only [decide_eq_true_eq, decide_eq_false_iff_not, Decidable.not_not, Bool.and_eq_true, Bool.or_eq_true, Bool.not_eq_true', Bool.not_eq_false', ne_eq, Int.not_lt, Int.not_le] at hc21
                  refine CW.seq fun kK70 kh70 => ?_
                  refine CW.region fun kR71 kr71 => ?_  -- region 10
                  refine WL.call hasF33 rfl rfl (Inf_spec (-1) _) fun v w15 h' => ?_
                  obtain ⟨rfl, rfl⟩ := h'
                  refine WL.ev (Ev.assign rfl) rfl ?_
                  refine WL.ev (Ev.assign rfl) rfl ?_
                  refine WL.nil (kr71 _ _ _ ?_)
                  refine kh70 _ _ _ ?_
                  refine CW.ret ?_
                  refine bodyA.ret2 rfl rfl rfl ?_
                  first | (exfalso; omega) | (refine ⟨?_, hch⟩; unfold verdP; rw [if_pos hMM]; rfl) | (refine ⟨?_, hch⟩; unfold verdP; rw [if_neg hMM]; (repeat (first | rw [if_pos (by omega)] | rw [if_neg (by omega)])); rfl)
                ·
                  try simp only [decide_eq_true_eq, decide_eq_false_iff_not, Decidable.not_not, Bool.and_eq_true, Bool.or_eq_true, Bool.not_eq_true', Bool.not_eq_false', ne_eq, Int.not_lt, Int.not_le] at hc21
                  refine CW.skip ?_
                  refine kh12 _ _ _ ?_
                  refine CW.seq fun kK72 kh72 => ?_
                  refine CW.region fun kR73 kr73 => ?_  -- region 11
                  refine WL.ev (Ev.assign rfl) rfl ?_
                  refine WL.ev (Ev.assign rfl) rfl ?_
                  refine WL.nil (kr73 _ _ _ ?_)
                  refine kh72 _ _ _ ?_
                  refine CW.ret ?_
                  refine bodyA.ret2 rfl rfl rfl ?_
                  first | (exfalso; omega) | (refine ⟨?_, hch⟩; unfold verdP; rw [if_pos hMM]; rfl) | (refine ⟨?_, hch⟩; unfold verdP; rw [if_neg hMM]; (repeat (first | rw [if_pos (by omega)] | rw [if_neg (by omega)])); rfl)
        ·
          try simp only [decide_eq_true_eq, decide_eq_false_iff_not, Decidable.not_not, Bool.and_eq_true, Bool.or_eq_true, Bool.not_eq_true', Bool.not_eq_false', ne_eq, Int.not_lt, Int.not_le] at hg4
          refine WS.pass rfl rfl rfl rfl rfl ?_
          refine WS.pass rfl rfl rfl rfl rfl ?_
          refine WS.pass rfl rfl rfl rfl rfl ?_
          refine WS.ev (Ev.pickF rfl rfl rfl) rfl ?_
          refine WS.ev (Ev.assign rfl) rfl ?_
          refine WS.ev (Ev.assign rfl) rfl ?_
          refine WS.nil (kr11 _ _ ?_)
          refine kh10 _ _ _ ?_
          refine CW.seq fun kK74 kh74 => ?_
          refine CW.block ?_
          refine CW.seq fun kK75 kh75 => ?_
          refine CW.seq fun kK76 kh76 => ?_
          refine CW.region fun kR77 kr77 => ?_  -- region 4
          refine WL.ev (Ev.fieldAddr rfl) rfl ?_
          refine WL.ev (Ev.load rfl rfl (hb2.at_ rfl)) rfl ?_
          refine WL.ev (Ev.gtr rfl rfl) rfl ?_
          refine WL.ev (Ev.move rfl) rfl ?_
          refine WL.boolCase (fun hg22 => ?_) (fun hg22 => ?_)
          ·
            try simp only [decide_eq_true_eq, decide_eq_false_iff_not, Decidable.not_not, Bool.and_eq_true, Bool.or_eq_true, Bool.not_eq_true', Bool.not_eq_false', ne_eq, Int.not_lt, Int.not_le] at hg22
            refine WL.want rfl rfl rfl rfl ?_
            refine WL.ev (Ev.fieldAddr rfl) rfl ?_
            refine WL.want rfl rfl rfl rfl ?_
            refine WL.ev (Ev.load rfl rfl (hb3.at_ rfl)) rfl ?_
            refine WL.want rfl rfl rfl rfl ?_
            refine WL.ev (Ev.eql rfl rfl) rfl ?_
            refine WL.ev (Ev.pickT rfl rfl rfl) rfl ?_
            refine WL.ev (Ev.assign rfl) rfl ?_
            refine WL.nil (kr77 _ _ _ ?_)
            refine kh76 _ _ _ ?_
            refine CW.cond rfl (fun hc23 => ?_) (fun hc23 => ?_)  -- if 32
            ·
              try simp only [decide_eq_true_eq, decide_eq_false_iff_not, Decidable.not_not, Bool.and_eq_true, Bool.or_eq_true, Bool.not_eq_true', Bool.not_eq_false', ne_eq, Int.not_lt, Int.not_le] at hc23
              refine CW.skip ?_
              refine kh75 _ _ _ ?_
              refine CW.cond rfl (fun hc24 => ?_) (fun hc24 => ?_)  -- if 32
              ·
                try simp only [decide_eq_true_eq, decide_eq_false_iff_not, Decidable.not_not, Bool.and_eq_true, Bool.or_eq_true, Bool.not_eq_true', Bool.not_eq_false', ne_eq, Int.not_lt, Int.not_le] at hc24
                refine CW.seq fun kK78 kh78 => ?_
                refine CW.region fun kR79 kr79 => ?_  -- region 6
                refine WL.call hasF32 rfl rfl (NaN_spec _) fun v w16 h' => ?_
                obtain ⟨rfl, rfl⟩ := h'
                refine WL.ev (Ev.assign rfl) rfl ?_
                refine WL.ev (Ev.assign rfl) rfl ?_
                refine WL.nil (kr79 _ _ _ ?_)
                refine kh78 _ _ _ ?_
                refine CW.ret ?_
                refine bodyA.ret2 rfl rfl rfl ?_
                first | (exfalso; omega) | (refine ⟨?_, hch⟩; unfold verdP; rw [if_pos hMM]; rfl) | (refine ⟨?_, hch⟩; unfold verdP; rw [if_neg hMM]; (repeat (first | rw [if_pos (by omega)] | rw [if_neg (by omega)])); rfl)
              ·
                try simp only [decide_eq_true_eq, decide_eq_false_iff_not, Decidable.not_not, Bool.and_eq_true, Bool.or_eq_true, Bool.not_eq_true', Bool.not_eq_false', ne_eq, Int.not_lt, Int.not_le] at hc24
                refine CW.seq fun kK80 kh80 => ?_
                refine CW.region fun kR81 kr81 => ?_  -- region 7
                refine WL.ev (Ev.move rfl) rfl ?_
                refine WL.ev (Ev.assign rfl) rfl ?_
                refine WL.nil (kr81 _ _ _ ?_)
                refine kh80 _ _ _ ?_
                refine CW.cond rfl (fun hc25 => ?_) (fun hc25 => ?_)  -- if 46
                ·
                  try simp only [decide_eq_true_eq, decide_eq_false_iff_not, Decidable.not_not, Bool.and_eq_true, Bool.or_eq_true, Bool.not_eq_true', Bool.not_eq_false', ne_eq, Int.not_lt, Int.not_le] at hc25
                  refine CW.seq fun kK82 kh82 => ?_
                  refine CW.region fun kR83 kr83 => ?_  -- region 8
                  refine WL.call hasF33 rfl rfl (Inf_spec 1 _) fun v w17 h' => ?_
                  obtain ⟨rfl, rfl⟩ := h'
                  refine WL.ev (Ev.assign rfl) rfl ?_
                  refine WL.ev (Ev.assign rfl) rfl ?_
                  refine WL.nil (kr83 _ _ _ ?_)
                  refine kh82 _ _ _ ?_
                  refine CW.ret ?_
                  refine bodyA.ret2 rfl rfl rfl ?_
                  first | (exfalso; omega) | (refine ⟨?_, hch⟩; unfold verdP; rw [if_pos hMM]; rfl) | (refine ⟨?_, hch⟩; unfold verdP; rw [if_neg hMM]; (repeat (first | rw [if_pos (by omega)] | rw [if_neg (by omega)])); rfl)
                ·
                  try simp only [decide_eq_true_eq, decide_eq_false_iff_not, Decidable.not_not, Bool.and_eq_true, Bool.or_eq_true, Bool.not_eq_true', Bool.not_eq_false', ne_eq, Int.not_lt, Int.not_le] at hc25
                  refine CW.seq fun kK84 kh84 => ?_
                  refine CW.region fun kR85 kr85 => ?_  -- region 9
                  refine WL.ev (Ev.move rfl) rfl ?_
                  refine WL.ev (Ev.assign rfl) rfl ?_
                  refine WL.nil (kr85 _ _ _ ?_)
                  refine kh84 _ _ _ ?_
                  refine CW.condF rfl ?_
                  refine CW.skip ?_
                  refine kh74 _ _ _ ?_
                  refine CW.seq fun kK86 kh86 => ?_
                  refine CW.region fun kR87 kr87 => ?_  -- region 11
                  refine WL.ev (Ev.assign rfl) rfl ?_
                  refine WL.ev (Ev.assign rfl) rfl ?_
                  refine WL.nil (kr87 _ _ _ ?_)
                  refine kh86 _ _ _ ?_
                  refine CW.ret ?_
                  refine bodyA.ret2 rfl rfl rfl ?_
                  first | (exfalso; omega) | (refine ⟨?_, hch⟩; unfold verdP; rw [if_pos hMM]; rfl) | (refine ⟨?_, hch⟩; unfold verdP; rw [if_neg hMM]; (repeat (first | rw [if_pos (by omega)] | rw [if_neg (by omega)])); rfl)
            ·
              try simp only [decide_eq_true_eq, decide_eq_false_iff_not, Decidable.not_not, Bool.and_eq_true, Bool.or_eq_true, Bool.not_eq_true', Bool.not_eq_false', ne_eq, Int.not_lt, Int.not_le] at hc23
              refine CW.region fun kR88 kr88 => ?_  -- region 5
              refine WL.ev (Ev.move rfl) rfl ?_
              refine WL.ev (Ev.move rfl) rfl ?_
              refine WL.boolCase (fun hg26 => ?_) (fun hg26 => ?_)
              ·
                try simp only [decide_eq_true_eq, decide_eq_false_iff_not, Decidable.not_not, Bool.and_eq_true, Bool.or_eq_true, Bool.not_eq_true', Bool.not_eq_false', ne_eq, Int.not_lt, Int.not_le] at hg26
                refine WL.want rfl rfl rfl rfl ?_
                refine WL.ev (Ev.move rfl) rfl ?_
                refine WL.ev (Ev.pickT rfl rfl rfl) rfl ?_
                refine WL.ev (Ev.assign rfl) rfl ?_
                refine WL.nil (kr88 _ _ _ ?_)
                refine kh75 _ _ _ ?_
                refine CW.condF rfl ?_
                refine CW.seq fun kK89 kh89 => ?_
                refine CW.region fun kR90 kr90 => ?_  -- region 7
                refine WL.ev (Ev.move rfl) rfl ?_
                refine WL.ev (Ev.assign rfl) rfl ?_
                refine WL.nil (kr90 _ _ _ ?_)
                refine kh89 _ _ _ ?_
                refine CW.cond rfl (fun hc27 => ?_) (fun hc27 => ?_)  -- if 46
                ·
                  try simp only [decide_eq_true_eq, decide_eq_false_iff_not, Decidable.not_not, Bool.and_eq_true, Bool.or_eq_true, Bool.not_eq_true', Bool.not_eq_false', ne_eq, Int.not_lt, Int.not_le] at hc27
                  refine CW.seq fun kK91 kh91 => ?_
                  refine CW.region fun kR92 kr92 => ?_  -- region 8
                  refine WL.call hasF33 rfl rfl (Inf_spec 1 _) fun v w18 h' => ?_
                  obtain ⟨rfl, rfl⟩ := h'
                  refine WL.ev (Ev.assign rfl) rfl ?_
                  refine WL.ev (Ev.assign rfl) rfl ?_
                  refine WL.nil (kr92 _ _ _ ?_)
                  refine kh91 _ _ _ ?_
                  refine CW.ret ?_
                  refine bodyA.ret2 rfl rfl rfl ?_
                  first | (exfalso; omega) | (refine ⟨?_, hch⟩; unfold verdP; rw [if_pos hMM]; rfl) | (refine ⟨?_, hch⟩; unfold verdP; rw [if_neg hMM]; (repeat (first | rw [if_pos (by omega)] | rw [if_neg (by omega)])); rfl)
                ·
                  try simp only [decide_eq_true_eq, decide_eq_false_iff_not, Decidable.not_not, Bool.and_eq_true, Bool.or_eq_true, Bool.not_eq_true', Bool.not_eq_false', ne_eq, Int.not_lt, Int.not_le] at hc27
                  refine CW.seq fun kK93 kh93 => ?_
                  refine CW.region fun kR94 kr94 => ?_  -- region 9
                  refine WL.ev (Ev.move rfl) rfl ?_
                  refine WL.ev (Ev.assign rfl) rfl ?_
                  refine WL.nil (kr94 _ _ _ ?_)
                  refine kh93 _ _ _ ?_
                  refine CW.condF rfl ?_
                  refine CW.skip ?_
                  refine kh74 _ _ _ ?_
                  refine CW.seq fun kK95 kh95 => ?_
                  refine CW.region fun kR96 kr96 => ?_  -- region 11
                  refine WL.ev (Ev.assign rfl) rfl ?_
                  refine WL.ev (Ev.assign rfl) rfl ?_
                  refine WL.nil (kr96 _ _ _ ?_)
                  refine kh95 _ _ _ ?_
                  refine CW.ret ?_
                  refine bodyA.ret2 rfl rfl rfl ?_
                  first | (exfalso; omega) | (refine ⟨?_, hch⟩; unfold verdP; rw [if_pos hMM]; rfl) | (refine ⟨?_, hch⟩; unfold verdP; rw [if_neg hMM]; (repeat (first | rw [if_pos (by omega)] | rw [if_neg (by omega)])); rfl)
              ·
                try simp only [decide_eq_true_eq, decide_eq_false_iff_not, Decidable.not_not, Bool.and_eq_true, Bool.or_eq_true, Bool.not_eq_true', Bool.not_eq_false', ne_eq, Int.not_lt, Int.not_le] at hg26
                refine WL.pass rfl rfl rfl rfl rfl ?_
                refine WL.ev (Ev.pickF rfl rfl rfl) rfl ?_
                refine WL.ev (Ev.assign rfl) rfl ?_
                refine WL.nil (kr88 _ _ _ ?_)
                refine kh75 _ _ _ ?_
                refine CW.condF rfl ?_
                refine CW.seq fun kK97 kh97 => ?_
                refine CW.region fun kR98 kr98 => ?_  -- region 7
                refine WL.ev (Ev.move rfl) rfl ?_
                refine WL.ev (Ev.assign rfl) rfl ?_
                refine WL.nil (kr98 _ _ _ ?_)
                refine kh97 _ _ _ ?_
                refine CW.cond rfl (fun hc28 => ?_) (fun hc28 => ?_)  -- if 46
                ·
                  try simp only [decide_eq_true_eq, decide_eq_false_iff_not, Decidable.not_not, Bool.and_eq_true, Bool.or_eq_true, Bool.not_eq_true', Bool.not_eq_false', ne_eq, Int.not_lt, Int.not_le] at hc28
                  refine CW.seq fun kK99 kh99 => ?_
                  refine CW.region fun kR100 kr100 => ?_  -- region 8
                  refine WL.call hasF33 rfl rfl (Inf_spec 1 _) fun v w19 h' => ?_
                  obtain ⟨rfl, rfl⟩ := h'
                  refine WL.ev (Ev.assign rfl) rfl ?_
                  refine WL.ev (Ev.assign rfl) rfl ?_
                  refine WL.nil (kr100 _ _ _ ?_)
                  refine kh99 _ _ _ ?_
                  refine CW.ret ?_
                  refine bodyA.ret2 rfl rfl rfl ?_
                  first | (exfalso; omega) | (refine ⟨?_, hch⟩; unfold verdP; rw [if_pos hMM]; rfl) | (refine ⟨?_, hch⟩; unfold verdP; rw [if_neg hMM]; (repeat (first | rw [if_pos (by omega)] | rw [if_neg (by omega)])); rfl)
                ·
                  try simp only [decide_eq_true_eq, decide_eq_false_iff_not, Decidable.not_not, Bool.and_eq_true, Bool.or_eq_true, Bool.not_eq_true', Bool.not_eq_false', ne_eq, Int.not_lt, Int.not_le] at hc28
                  refine CW.seq fun kK101 kh101 => ?_
                  refine CW.region fun kR102 kr102 => ?_  -- region 9
                  refine WL.ev (Ev.move rfl) rfl ?_
                  refine WL.ev (Ev.assign rfl) rfl ?_
                  refine WL.nil (kr102 _ _ _ ?_)
                  refine kh101 _ _ _ ?_
                  refine CW.condF rfl ?_
                  refine CW.skip ?_
                  refine kh74 _ _ _ ?_
                  refine CW.seq fun kK103 kh103 => ?_
                  refine CW.region fun kR104 kr104 => ?_  -- region 11
                  refine WL.ev (Ev.assign rfl) rfl ?_
                  refine WL.ev (Ev.assign rfl) rfl ?_
                  refine WL.nil (kr104 _ _ _ ?_)
                  refine kh103 _ _ _ ?_
                  refine CW.ret ?_
                  refine bodyA.ret2 rfl rfl rfl ?_
                  first | (exfalso; omega) | (refine ⟨?_, hch⟩; unfold verdP; rw [if_pos hMM]; rfl) | (refine ⟨?_, hch⟩; unfold verdP; rw [if_neg hMM]; (repeat (first | rw [if_pos (by omega)] | rw [if_neg (by omega)])); rfl)
          ·
            try simp only [decide_eq_true_eq, decide_eq_false_iff_not, Decidable.not_not, Bool.and_eq_true, Bool.or_eq_true, Bool.not_eq_true', Bool.not_eq_false', ne_eq, Int.not_lt, Int.not_le] at hg22
            refine WL.pass rfl rfl rfl rfl rfl ?_
            refine WL.pass rfl rfl rfl rfl rfl ?_
            refine WL.pass rfl rfl rfl rfl rfl ?_
            refine WL.ev (Ev.pickF rfl rfl rfl) rfl ?_
            refine WL.ev (Ev.assign rfl) rfl ?_
            refine WL.nil (kr77 _ _ _ ?_)
            refine kh76 _ _ _ ?_
            refine CW.condF rfl ?_
            refine CW.region fun kR105 kr105 => ?_  -- region 5
            refine WL.ev (Ev.move rfl) rfl ?_
            refine WL.ev (Ev.move rfl) rfl ?_
            refine WL.boolCase (fun hg29 => ?_) (fun hg29 => ?_)
            ·
              try simp only [decide_eq_true_eq, decide_eq_false_iff_not, Decidable.not_not, Bool.and_eq_true, Bool.or_eq_true, Bool.not_eq_true', Bool.not_eq_false', ne_eq, Int.not_lt, Int.not_le] at hg29
              refine WL.want rfl rfl rfl rfl ?_
              refine WL.ev (Ev.move rfl) rfl ?_
              refine WL.ev (Ev.pickT rfl rfl rfl) rfl ?_
              refine WL.ev (Ev.assign rfl) rfl ?_
              refine WL.nil (kr105 _ _ _ ?_)
              refine kh75 _ _ _ ?_
              refine CW.condF rfl ?_
              refine CW.seq fun kK106 kh106 => ?_
              refine CW.region fun kR107 kr107 => ?_  -- region 7
              refine WL.ev (Ev.move rfl) rfl ?_
              refine WL.ev (Ev.assign rfl) rfl ?_
              refine WL.nil (kr107 _ _ _ ?_)
              refine kh106 _ _ _ ?_
              refine CW.cond rfl (fun hc30 => ?_) (fun hc30 => ?_)  -- if 46
              ·
                try simp only [decide_eq_true_eq, decide_eq_false_iff_not, Decidable.not_not, Bool.and_eq_true, Bool.or_eq_true, Bool.not_eq_true', Bool.not_eq_false', ne_eq, Int.not_lt, Int.not_le] at hc30
                refine CW.seq fun kK108 kh108 => ?_
                refine CW.region fun kR109 kr109 => ?_  -- region 8
                refine WL.call hasF33 rfl rfl (Inf_spec 1 _) fun v w20 h' => ?_
                obtain ⟨rfl, rfl⟩ := h'
                refine WL.ev (Ev.assign rfl) rfl ?_
                refine WL.ev (Ev.assign rfl) rfl ?_
                refine WL.nil (kr109 _ _ _ ?_)
                refine kh108 _ _ _ ?_
                refine CW.ret ?_
                refine bodyA.ret2 rfl rfl rfl ?_
                first | (exfalso; omega) | (refine ⟨?_, hch⟩; unfold verdP; rw [if_pos hMM]; rfl) | (refine ⟨?_, hch⟩; unfold verdP; rw [if_neg hMM]; (repeat (first | rw [if_pos (by omega)] | rw [if_neg (by omega)])); rfl)
              ·
                try simp only [decide_eq_true_eq, decide_eq_false_iff_not, Decidable.not_not, Bool.and_eq_true, Bool.or_eq_true, Bool.not_eq_true', Bool.not_eq_false', ne_eq, Int.not_lt, Int.not_le] at hc30
                refine CW.seq fun kK110 kh110 => ?_
                refine CW.region fun kR111 kr111 => ?_  -- region 9
                refine WL.ev (Ev.move rfl) rfl ?_
                refine WL.ev (Ev.assign rfl) rfl ?_
                refine WL.nil (kr111 _ _ _ ?_)
                refine kh110 _ _ _ ?_
                refine CW.condF rfl ?_
                refine CW.skip ?_
                refine kh74 _ _ _ ?_
                refine CW.seq fun kK112 kh112 => ?_
                refine CW.region fun kR113 kr113 => ?_  -- region 11
                refine WL.ev (Ev.assign rfl) rfl ?_
                refine WL.ev (Ev.assign rfl) rfl ?_
                refine WL.nil (kr113 _ _ _ ?_)
                refine kh112 _ _ _ ?_
                refine CW.ret ?_
                refine bodyA.ret2 rfl rfl rfl ?_
                first | (exfalso; omega) | (refine ⟨?_, hch⟩; unfold verdP; rw [if_pos hMM]; rfl) | (refine ⟨?_, hch⟩; unfold verdP; rw [if_neg hMM]; (repeat (first | rw [if_pos (by omega)] | rw [if_neg (by omega)])); rfl)
            ·
              try simp only [decide_eq_true_eq, decide_eq_false_iff_not, Decidable.not_not, Bool.and_eq_true, Bool.or_eq_true, Bool.not_eq_true', Bool.not_eq_false', ne_eq, Int.not_lt, Int.not_le] at hg29
              refine WL.pass rfl rfl rfl rfl rfl ?_
              refine WL.ev (Ev.pickF rfl rfl rfl) rfl ?_
              refine WL.ev (Ev.assign rfl) rfl ?_
              refine WL.nil (kr105 _ _ _ ?_)
              refine kh75 _ _ _ ?_
              refine CW.condF rfl ?_
              refine CW.seq fun kK114 kh114 => ?_
              refine CW.region fun kR115 kr115 => ?_  -- region 7
              refine WL.ev (Ev.move rfl) rfl ?_
              refine WL.ev (Ev.assign rfl) rfl ?_
              refine WL.nil (kr115 _ _ _ ?_)
              refine kh114 _ _ _ ?_
              refine CW.cond rfl (fun hc31 => ?_) (fun hc31 => ?_)  -- if 46
              ·
                try simp only [decide_eq_true_eq, decide_eq_false_iff_not, Decidable.not_not, Bool.and_eq_true, Bool.or_eq_true, Bool.not_eq_true', Bool.not_eq_false', ne_eq, Int.not_lt, Int.not_le] at hc31
                refine CW.seq fun kK116 kh116 => ?_
                refine CW.region fun kR117 kr117 => ?_  -- region 8
                refine WL.call hasF33 rfl rfl (Inf_spec 1 _) fun v w21 h' => ?_
                obtain ⟨rfl, rfl⟩ := h'
                refine WL.ev (Ev.assign rfl) rfl ?_
                refine WL.ev (Ev.assign rfl) rfl ?_
                refine WL.nil (kr117 _ _ _ ?_)
                refine kh116 _ _ _ ?_
                refine CW.ret ?_
                refine bodyA.ret2 rfl rfl rfl ?_
                first | (exfalso; omega) | (refine ⟨?_, hch⟩; unfold verdP; rw [if_pos hMM]; rfl) | (refine ⟨?_, hch⟩; unfold verdP; rw [if_neg hMM]; (repeat (first | rw [if_pos (by omega)] | rw [if_neg (by omega)])); rfl)
              ·
                try simp only [decide_eq_true_eq, decide_eq_false_iff_not, Decidable.not_not, Bool.and_eq_true, Bool.or_eq_true, Bool.not_eq_true', Bool.not_eq_false', ne_eq, Int.not_lt, Int.not_le] at hc31
                refine CW.seq fun kK118 kh118 => ?_
                refine CW.region fun kR119 kr119 => ?_  -- region 9
                refine WL.ev (Ev.move rfl) rfl ?_
                refine WL.ev (Ev.assign rfl) rfl ?_
                refine WL.nil (kr119 _ _ _ ?_)
                refine kh118 _ _ _ ?_
                refine CW.condF rfl ?_
                refine CW.skip ?_
                refine kh74 _ _ _ ?_
                refine CW.seq fun kK120 kh120 => ?_
                refine CW.region fun kR121 kr121 => ?_  -- region 11
                refine WL.ev (Ev.assign rfl) rfl ?_
                refine WL.ev (Ev.assign rfl) rfl ?_
                refine WL.nil (kr121 _ _ _ ?_)
                refine kh120 _ _ _ ?_
                refine CW.ret ?_
                refine bodyA.ret2 rfl rfl rfl ?_
                first | (exfalso; omega) | (refine ⟨?_, hch⟩; unfold verdP; rw [if_pos hMM]; rfl) | (refine ⟨?_, hch⟩; unfold verdP; rw [if_neg hMM]; (repeat (first | rw [if_pos (by omega)] | rw [if_neg (by omega)])); rfl)
      ·
        try simp only [decide_eq_true_eq, decide_eq_false_iff_not, Decidable.not_not, Bool.and_eq_true, Bool.or_eq_true, Bool.not_eq_true', Bool.not_eq_false', ne_eq, Int.not_lt, Int.not_le] at hg3
        refine WS.pass rfl rfl rfl rfl rfl ?_
        refine WS.pass rfl rfl rfl rfl rfl ?_
        refine WS.pass rfl rfl rfl rfl rfl ?_
        refine WS.ev (Ev.pickF rfl rfl rfl) rfl ?_
        refine WS.ev (Ev.fieldAddr rfl) rfl ?_
        refine WS.ev (Ev.load rfl rfl (hb2.at_ rfl)) rfl ?_
        refine WS.ev (Ev.gtr rfl rfl) rfl ?_
        refine WS.ev (Ev.move rfl) rfl ?_
        refine WS.boolCase (fun hg32 => ?_) (fun hg32 => ?_)
        ·
          try simp only [decide_eq_true_eq, decide_eq_false_iff_not, Decidable.not_not, Bool.and_eq_true, Bool.or_eq_true, Bool.not_eq_true', Bool.not_eq_false', ne_eq, Int.not_lt, Int.not_le] at hg32
          refine WS.want rfl rfl rfl rfl ?_
          refine WS.ev (Ev.fieldAddr rfl) rfl ?_
          refine WS.want rfl rfl rfl rfl ?_
          refine WS.ev (Ev.load rfl rfl (hb3.at_ rfl)) rfl ?_
          refine WS.want rfl rfl rfl rfl ?_
          refine WS.ev (Ev.eql rfl rfl) rfl ?_
          refine WS.ev (Ev.pickT rfl rfl rfl) rfl ?_
          refine WS.ev (Ev.assign rfl) rfl ?_
          refine WS.ev (Ev.assign rfl) rfl ?_
          refine WS.nil (kr11 _ _ ?_)
          refine kh10 _ _ _ ?_
          refine CW.seq fun kK122 kh122 => ?_
          refine CW.block ?_
          refine CW.seq fun kK123 kh123 => ?_
          refine CW.seq fun kK124 kh124 => ?_
          refine CW.region fun kR125 kr125 => ?_  -- region 4
          refine WL.ev (Ev.fieldAddr rfl) rfl ?_
          refine WL.ev (Ev.load rfl rfl (hb2.at_ rfl)) rfl ?_
          refine WL.ev (Ev.gtr rfl rfl) rfl ?_
          refine WL.ev (Ev.move rfl) rfl ?_
          refine WL.boolCase (fun hg33 => ?_) (fun hg33 => ?_)
          ·
            try simp only [decide_eq_true_eq, decide_eq_false_iff_not, Decidable.not_not, Bool.and_eq_true, Bool.or_eq_true, Bool.not_eq_true', Bool.not_eq_false', ne_eq, Int.not_lt, Int.not_le] at hg33
            refine WL.want rfl rfl rfl rfl ?_
            refine WL.ev (Ev.fieldAddr rfl) rfl ?_
            refine WL.want rfl rfl rfl rfl ?_
            refine WL.ev (Ev.load rfl rfl (hb3.at_ rfl)) rfl ?_
            refine WL.want rfl rfl rfl rfl ?_
            refine WL.ev (Ev.eql rfl rfl) rfl ?_
            refine WL.ev (Ev.pickT rfl rfl rfl) rfl ?_
            refine WL.ev (Ev.assign rfl) rfl ?_
            refine WL.nil (kr125 _ _ _ ?_)
            refine kh124 _ _ _ ?_
            refine CW.cond rfl (fun hc34 => ?_) (fun hc34 => ?_)  -- if 32
            ·
              try simp only [decide_eq_true_eq, decide_eq_false_iff_not, Decidable.not_not, Bool.and_eq_true, Bool.or_eq_true, Bool.not_eq_true', Bool.not_eq_false', ne_eq, Int.not_lt, Int.not_le] at hc34
              refine CW.skip ?_
              refine kh123 _ _ _ ?_
              refine CW.cond rfl (fun hc35 => ?_) (fun hc35 => ?_)  -- if 32
              ·
                try simp only [decide_eq_true_eq, decide_eq_false_iff_not, Decidable.not_not, Bool.and_eq_true, Bool.or_eq_true, Bool.not_eq_true', Bool.not_eq_false', ne_eq, Int.not_lt, Int.not_le] at hc35
                refine CW.seq fun kK126 kh126 => ?_
                refine CW.region fun kR127 kr127 => ?_  -- region 6
                refine WL.call hasF32 rfl rfl (NaN_spec _) fun v w22 h' => ?_
                obtain ⟨rfl, rfl⟩ := h'
                refine WL.ev (Ev.assign rfl) rfl ?_
                refine WL.ev (Ev.assign rfl) rfl ?_
                refine WL.nil (kr127 _ _ _ ?_)
                refine kh126 _ _ _ ?_
                refine CW.ret ?_
                refine bodyA.ret2 rfl rfl rfl ?_
                first | (exfalso; omega) | (refine ⟨?_, hch⟩; unfold verdP; rw [if_pos hMM]; rfl) | (refine ⟨?_, hch⟩; unfold verdP; rw [if_neg hMM]; (repeat (first | rw [if_pos (by omega)] | rw [if_neg (by omega)])); rfl)
              ·
                try simp only [decide_eq_true_eq, decide_eq_false_iff_not, Decidable.not_not, Bool.and_eq_true, Bool.or_eq_true, Bool.not_eq_true', Bool.not_eq_false', ne_eq, Int.not_lt, Int.not_le] at hc35
                refine CW.seq fun kK128 kh128 => ?_
                refine CW.region fun kR129 kr129 => ?_  -- region 7
                refine WL.ev (Ev.move rfl) rfl ?_
                refine WL.ev (Ev.assign rfl) rfl ?_
                refine WL.nil (kr129 _ _ _ ?_)
                refine kh128 _ _ _ ?_
                refine CW.condF rfl ?_
                refine CW.seq fun kK130 kh130 => ?_
                refine CW.region fun kR131 kr131 => ?_  -- region 9
                refine WL.ev (Ev.move rfl) rfl ?_
                refine WL.ev (Ev.assign rfl) rfl ?_
                refine WL.nil (kr131 _ _ _ ?_)
                refine kh130 _ _ _ ?_
                refine CW.cond rfl (fun hc36 => ?_) (fun hc36 => ?_)  -- if 49
                ·
                  try simp only [decide_eq_true_eq, decide_eq_false_iff_not, Decidable.not_not, Bool.and_eq_true, Bool.or_eq_true, Bool.not_eq_true', Bool.not_eq_false', ne_eq, Int.not_lt, Int.not_le] at hc36
                  refine CW.seq fun kK132 kh132 => ?_
                  refine CW.region fun kR133 kr133 => ?_  -- region 10
                  refine WL.call hasF33 rfl rfl (Inf_spec (-1) _) fun v w23 h' => ?_
                  obtain ⟨rfl, rfl⟩ := h'
                  refine WL.ev (Ev.assign rfl) rfl ?_
                  refine WL.ev (Ev.assign rfl) rfl ?_
                  refine WL.nil (kr133 _ _ _ ?_)
                  refine kh132 _ _ _ ?_
                  refine CW.ret ?_
                  refine bodyA.ret2 rfl rfl rfl ?_
                  first | (exfalso; omega) | (refine ⟨?_, hch⟩; unfold verdP; rw [if_pos hMM]; rfl) | (refine ⟨?_, hch⟩; unfold verdP; rw [if_neg hMM]; (repeat (first | rw [if_pos (by omega)] | rw [if_neg (by omega)])); rfl)
                ·
                  try simp only [decide_eq_true_eq, decide_eq_false_iff_not, Decidable.not_not, Bool.and_eq_true, Bool.or_eq_true, Bool.not_eq_true', Bool.not_eq_false', ne_eq, Int.not_lt, Int.not_le] at hc36
                  refine CW.skip ?_
                  refine kh122 _ _ _ ?_
                  refine CW.seq fun kK134 kh134 => ?_
                  refine CW.region fun kR135 kr135 => ?_  -- region 11
                  refine WL.ev (Ev.assign rfl) rfl ?_
                  refine WL.ev (Ev.assign rfl) rfl ?_
                  refine WL.nil (kr135 _ _ _ ?_)
                  refine kh134 _ _ _ ?_
                  refine CW.ret ?_
                  refine bodyA.ret2 rfl rfl rfl ?_
                  first | (exfalso; omega) | (refine ⟨?_, hch⟩; unfold verdP; rw [if_pos hMM]; rfl) | (refine ⟨?_, hch⟩; unfold verdP; rw [if_neg hMM]; (repeat (first | rw [if_pos (by omega)] | rw [if_neg (by omega)])); rfl)
            ·
              try simp only [decide_eq_true_eq, decide_eq_false_iff_not, Decidable.not_not, Bool.and_eq_true, Bool.or_eq_true, Bool.not_eq_true', Bool.not_eq_false', ne_eq, Int.not_lt, Int.not_le] at hc34
              refine CW.region fun kR136 kr136 => ?_  -- region 5
              refine WL.ev (Ev.move rfl) rfl ?_
              refine WL.ev (Ev.move rfl) rfl ?_
              refine WL.pass rfl rfl rfl rfl rfl ?_
              refine WL.ev (Ev.pickF rfl rfl rfl) rfl ?_
              refine WL.ev (Ev.assign rfl) rfl ?_
              refine WL.nil (kr136 _ _ _ ?_)
              refine kh123 _ _ _ ?_
              refine CW.condF rfl ?_
              refine CW.seq fun kK137 kh137 => ?_
              refine CW.region fun kR138 kr138 => ?_  -- region 7
              refine WL.ev (Ev.move rfl) rfl ?_
              refine WL.ev (Ev.assign rfl) rfl ?_
              refine WL.nil (kr138 _ _ _ ?_)
              refine kh137 _ _ _ ?_
              refine CW.condF rfl ?_
              refine CW.seq fun kK139 kh139 => ?_
              refine CW.region fun kR140 kr140 => ?_  -- region 9
              refine WL.ev (Ev.move rfl) rfl ?_
              refine WL.ev (Ev.assign rfl) rfl ?_
              refine WL.nil (kr140 _ _ _ ?_)
              refine kh139 _ _ _ ?_
              refine CW.cond rfl (fun hc37 => ?_) (fun hc37 => ?_)  -- if 49
              ·
                try simp only [decide_eq_true_eq, decide_eq_false_iff_not, Decidable.not_not, Bool.and_eq_true, Bool.or_eq_true, Bool.not_eq_true', Bool.not_eq_false', ne_eq, Int.not_lt, Int.not_le] at hc37
                refine CW.seq fun kK141 kh141 => ?_
                refine CW.region fun kR142 kr142 => ?_  -- region 10
                refine WL.call hasF33 rfl rfl (Inf_spec (-1) _) fun v w24 h' => ?_
                obtain ⟨rfl, rfl⟩ := h'
                refine WL.ev (Ev.assign rfl) rfl ?_
                refine WL.ev (Ev.assign rfl) rfl ?_
                refine WL.nil (kr142 _ _ _ ?_)
                refine kh141 _ _ _ ?_
                refine CW.ret ?_
                refine bodyA.ret2 rfl rfl rfl ?_
                first | (exfalso; omega) | (refine ⟨?_, hch⟩; unfold verdP; rw [if_pos hMM]; rfl) | (refine ⟨?_, hch⟩; unfold verdP; rw [if_neg hMM]; (repeat (first | rw [if_pos (by omega)] | rw [if_neg (by omega)])); rfl)
              ·
                try simp only [decide_eq_true_eq, decide_eq_false_iff_not, Decidable.not_not, Bool.and_eq_true, Bool.or_eq_true, Bool.not_eq_true', Bool.not_eq_false', ne_eq, Int.not_lt, Int.not_le] at hc37
                refine CW.skip ?_
                refine kh122 _ _ _ ?_
                refine CW.seq fun kK143 kh143 => ?_
                refine CW.region fun kR144 kr144 => ?_  -- region 11
                refine WL.ev (Ev.assign rfl) rfl ?_
                refine WL.ev (Ev.assign rfl) rfl ?_
                refine WL.nil (kr144 _ _ _ ?_)
                refine kh143 _ _ _ ?_
                refine CW.ret ?_
                refine bodyA.ret2 rfl rfl rfl ?_
                first | (exfalso; omega) | (refine ⟨?_, hch⟩; unfold verdP; rw [if_pos hMM]; rfl) | (refine ⟨?_, hch⟩; unfold verdP; rw [if_neg hMM]; (repeat (first | rw [if_pos (by omega)] | rw [if_neg (by omega)])); rfl)
          ·
            try simp only [decide_eq_true_eq, decide_eq_false_iff_not, Decidable.not_not, Bool.and_eq_true, Bool.or_eq_true, Bool.not_eq_true', Bool.not_eq_false', ne_eq, Int.not_lt, Int.not_le] at hg33
            refine WL.pass rfl rfl rfl rfl rfl ?_
            refine WL.pass rfl rfl rfl rfl rfl ?_
            refine WL.pass rfl rfl rfl rfl rfl ?_
            refine WL.ev (Ev.pickF rfl rfl rfl) rfl ?_
            refine WL.ev (Ev.assign rfl) rfl ?_
            refine WL.nil (kr125 _ _ _ ?_)
            refine kh124 _ _ _ ?_
            refine CW.condF rfl ?_
            refine CW.region fun kR145 kr145 => ?_  -- region 5
            refine WL.ev (Ev.move rfl) rfl ?_
            refine WL.ev (Ev.move rfl) rfl ?_
            refine WL.pass rfl rfl rfl rfl rfl ?_
            refine WL.ev (Ev.pickF rfl rfl rfl) rfl ?_
            refine WL.ev (Ev.assign rfl) rfl ?_
            refine WL.nil (kr145 _ _ _ ?_)
            refine kh123 _ _ _ ?_
            refine CW.condF rfl ?_
            refine CW.seq fun kK146 kh146 => ?_
            refine CW.region fun kR147 kr147 => ?_  -- region 7
            refine WL.ev (Ev.move rfl) rfl ?_
            refine WL.ev (Ev.assign rfl) rfl ?_
            refine WL.nil (kr147 _ _ _ ?_)
            refine kh146 _ _ _ ?_
            refine CW.condF rfl ?_
            refine CW.seq fun kK148 kh148 => ?_
            refine CW.region fun kR149 kr149 => ?_  -- region 9
            refine WL.ev (Ev.move rfl) rfl ?_
            refine WL.ev (Ev.assign rfl) rfl ?_
            refine WL.nil (kr149 _ _ _ ?_)
            refine kh148 _ _ _ ?_
            refine CW.cond rfl (fun hc38 => ?_) (fun hc38 => ?_)  -- if 49
            ·
              try simp only [decide_eq_true_eq, decide_eq_false_iff_not, Decidable.not_not, Bool.and_eq_true, Bool.or_eq_true, Bool.not_eq_true', Bool.not_eq_false', ne_eq, Int.not_lt, Int.not_le] at hc38
              refine CW.seq fun kK150 kh150 => ?_
              refine CW.region fun kR151 kr151 => ?_  -- region 10
              refine WL.call hasF33 rfl rfl (Inf_spec (-1) _) fun v w25 h' => ?_
              obtain ⟨rfl, rfl⟩ := h'
              refine WL.ev (Ev.assign rfl) rfl ?_
              refine WL.ev (Ev.assign rfl) rfl ?_
              refine WL.nil (kr151 _ _ _ ?_)
              refine kh150 _ _ _ ?_
              refine CW.ret ?_
              refine bodyA.ret2 rfl rfl rfl ?_
              first | (exfalso; omega) | (refine ⟨?_, hch⟩; unfold verdP; rw [if_pos hMM]; rfl) | (refine ⟨?_, hch⟩; unfold verdP; rw [if_neg hMM]; (repeat (first | rw [if_pos (by omega)] | rw [if_neg (by omega)])); rfl)
            ·
              try simp only [decide_eq_true_eq, decide_eq_false_iff_not, Decidable.not_not, Bool.and_eq_true, Bool.or_eq_true, Bool.not_eq_true', Bool.not_eq_false', ne_eq, Int.not_lt, Int.not_le] at hc38
              refine CW.skip ?_
              refine kh122 _ _ _ ?_
              refine CW.seq fun kK152 kh152 => ?_
              refine CW.region fun kR153 kr153 => ?_  -- region 11
              refine WL.ev (Ev.assign rfl) rfl ?_
              refine WL.ev (Ev.assign rfl) rfl ?_
              refine WL.nil (kr153 _ _ _ ?_)
              refine kh152 _ _ _ ?_
              refine CW.ret ?_
              refine bodyA.ret2 rfl rfl rfl ?_
              first | (exfalso; omega) | (refine ⟨?_, hch⟩; unfold verdP; rw [if_pos hMM]; rfl) | (refine ⟨?_, hch⟩; unfold verdP; rw [if_neg hMM]; (repeat (first | rw [if_pos (by omega)] | rw [if_neg (by omega)])); rfl)
        ·
          try simp only [decide_eq_true_eq, decide_eq_false_iff_not, Decidable.not_not, Bool.and_eq_true, Bool.or_eq_true, Bool.not_eq_true', Bool.not_eq_false', ne_eq, Int.not_lt, Int.not_le] at hg32
          refine WS.pass rfl rfl rfl rfl rfl ?_
          refine WS.pass rfl rfl rfl rfl rfl ?_
          refine WS.pass rfl rfl rfl rfl rfl ?_
          refine WS.ev (Ev.pickF rfl rfl rfl) rfl ?_
          refine WS.ev (Ev.assign rfl) rfl ?_
          refine WS.ev (Ev.assign rfl) rfl ?_
          refine WS.nil (kr11 _ _ ?_)
          refine kh10 _ _ _ ?_
          refine CW.seq fun kK154 kh154 => ?_
          refine CW.block ?_
          refine CW.seq fun kK155 kh155 => ?_
          refine CW.seq fun kK156 kh156 => ?_
          refine CW.region fun kR157 kr157 => ?_  -- region 4
          refine WL.ev (Ev.fieldAddr rfl) rfl ?_
          refine WL.ev (Ev.load rfl rfl (hb2.at_ rfl)) rfl ?_
          refine WL.ev (Ev.gtr rfl rfl) rfl ?_
          refine WL.ev (Ev.move rfl) rfl ?_
          refine WL.boolCase (fun hg39 => ?_) (fun hg39 => ?_)
          ·
            try simp only [decide_eq_true_eq, decide_eq_false_iff_not, Decidable.not_not, Bool.and_eq_true, Bool.or_eq_true, Bool.not_eq_true', Bool.not_eq_false', ne_eq, Int.not_lt, Int.not_le] at hg39
            refine WL.want rfl rfl rfl rfl ?_
            refine WL.ev (Ev.fieldAddr rfl) rfl ?_
            refine WL.want rfl rfl rfl rfl ?_
            refine WL.ev (Ev.load rfl rfl (hb3.at_ rfl)) rfl ?_
            refine WL.want rfl rfl rfl rfl ?_
            refine WL.ev (Ev.eql rfl rfl) rfl ?_
            refine WL.ev (Ev.pickT rfl rfl rfl) rfl ?_
            refine WL.ev (Ev.assign rfl) rfl ?_
            refine WL.nil (kr157 _ _ _ ?_)
            refine kh156 _ _ _ ?_
            refine CW.cond rfl (fun hc40 => ?_) (fun hc40 => ?_)  -- if 32
            ·
              try simp only [decide_eq_true_eq, decide_eq_false_iff_not, Decidable.not_not, Bool.and_eq_true, Bool.or_eq_true, Bool.not_eq_true', Bool.not_eq_false', ne_eq, Int.not_lt, Int.not_le] at hc40
              refine CW.skip ?_
              refine kh155 _ _ _ ?_
              refine CW.cond rfl (fun hc41 => ?_) (fun hc41 => ?_)  -- if 32
              ·
                try simp only [decide_eq_true_eq, decide_eq_false_iff_not, Decidable.not_not, Bool.and_eq_true, Bool.or_eq_true, Bool.not_eq_true', Bool.not_eq_false', ne_eq, Int.not_lt, Int.not_le] at hc41
                refine CW.seq fun kK158 kh158 => ?_
                refine CW.region fun kR159 kr159 => ?_  -- region 6
                refine WL.call hasF32 rfl rfl (NaN_spec _) fun v w26 h' => ?_
                obtain ⟨rfl, rfl⟩ := h'
                refine WL.ev (Ev.assign rfl) rfl ?_
                refine WL.ev (Ev.assign rfl) rfl ?_
                refine WL.nil (kr159 _ _ _ ?_)
                refine kh158 _ _ _ ?_
                refine CW.ret ?_
                refine bodyA.ret2 rfl rfl rfl ?_
                first | (exfalso; omega) | (refine ⟨?_, hch⟩; unfold verdP; rw [if_pos hMM]; rfl) | (refine ⟨?_, hch⟩; unfold verdP; rw [if_neg hMM]; (repeat (first | rw [if_pos (by omega)] | rw [if_neg (by omega)])); rfl)
              ·
                try simp only [decide_eq_true_eq, decide_eq_false_iff_not, Decidable.not_not, Bool.and_eq_true, Bool.or_eq_true, Bool.not_eq_true', Bool.not_eq_false', ne_eq, Int.not_lt, Int.not_le] at hc41
                refine CW.seq fun kK160 kh160 => ?_
                refine CW.region fun kR161 kr161 => ?_  -- region 7
                refine WL.ev (Ev.move rfl) rfl ?_
                refine WL.ev (Ev.assign rfl) rfl ?_
                refine WL.nil (kr161 _ _ _ ?_)
                refine kh160 _ _ _ ?_
                refine CW.condF rfl ?_
                refine CW.seq fun kK162 kh162 => ?_
                refine CW.region fun kR163 kr163 => ?_  -- region 9
                refine WL.ev (Ev.move rfl) rfl ?_
                refine WL.ev (Ev.assign rfl) rfl ?_
                refine WL.nil (kr163 _ _ _ ?_)
                refine kh162 _ _ _ ?_
                refine CW.condF rfl ?_
                refine CW.skip ?_
                refine kh154 _ _ _ ?_
                refine CW.seq fun kK164 kh164 => ?_
                refine CW.region fun kR165 kr165 => ?_  -- region 11
                refine WL.ev (Ev.assign rfl) rfl ?_
                refine WL.ev (Ev.assign rfl) rfl ?_
                refine WL.nil (kr165 _ _ _ ?_)
                refine kh164 _ _ _ ?_
                refine CW.ret ?_
                refine bodyA.ret2 rfl rfl rfl ?_
                first | (exfalso; omega) | (refine ⟨?_, hch⟩; unfold verdP; rw [if_pos hMM]; rfl) | (refine ⟨?_, hch⟩; unfold verdP; rw [if_neg hMM]; (repeat (first | rw [if_pos (by omega)] | rw [if_neg (by omega)])); rfl)
            ·
              try simp only [decide_eq_true_eq, decide_eq_false_iff_not, Decidable.not_not, Bool.and_eq_true, Bool.or_eq_true, Bool.not_eq_true', Bool.not_eq_false', ne_eq, Int.not_lt, Int.not_le] at hc40
              refine CW.region fun kR166 kr166 => ?_  -- region 5
              refine WL.ev (Ev.move rfl) rfl ?_
              refine WL.ev (Ev.move rfl) rfl ?_
              refine WL.pass rfl rfl rfl rfl rfl ?_
              refine WL.ev (Ev.pickF rfl rfl rfl) rfl ?_
              refine WL.ev (Ev.assign rfl) rfl ?_
              refine WL.nil (kr166 _ _ _ ?_)
              refine kh155 _ _ _ ?_
              refine CW.condF rfl ?_
              refine CW.seq fun kK167 kh167 => ?_
              refine CW.region fun kR168 kr168 => ?_  -- region 7
              refine WL.ev (Ev.move rfl) rfl ?_
              refine WL.ev (Ev.assign rfl) rfl ?_
              refine WL.nil (kr168 _ _ _ ?_)
              refine kh167 _ _ _ ?_
              refine CW.condF rfl ?_
              refine CW.seq fun kK169 kh169 => ?_
              refine CW.region fun kR170 kr170 => ?_  -- region 9
              refine WL.ev (Ev.move rfl) rfl ?_
              refine WL.ev (Ev.assign rfl) rfl ?_
              refine WL.nil (kr170 _ _ _ ?_)
              refine kh169 _ _ _ ?_
              refine CW.condF rfl ?_
              refine CW.skip ?_
              refine kh154 _ _ _ ?_
              refine CW.seq fun kK171 kh171 => ?_
              refine CW.region fun kR172 kr172 => ?_  -- region 11
              refine WL.ev (Ev.assign rfl) rfl ?_
              refine WL.ev (Ev.assign rfl) rfl ?_
              refine WL.nil (kr172 _ _ _ ?_)
              refine kh171 _ _ _ ?_
              refine CW.ret ?_
              refine bodyA.ret2 rfl rfl rfl ?_
              first | (exfalso; omega) | (refine ⟨?_, hch⟩; unfold verdP; rw [if_pos hMM]; rfl) | (refine ⟨?_, hch⟩; unfold verdP; rw [if_neg hMM]; (repeat (first | rw [if_pos (by omega)] | rw [if_neg (by omega)])); rfl)
          ·
            try simp only [decide_eq_true_eq, decide_eq_false_iff_not, Decidable.not_not, Bool.and_eq_true, Bool.or_eq_true, Bool.not_eq_true', Bool.not_eq_false', ne_eq, Int.not_lt, Int.not_le] at hg39
            refine WL.pass rfl rfl rfl rfl rfl ?_
            refine WL.pass rfl rfl rfl rfl rfl ?_
            refine WL.pass rfl rfl rfl rfl rfl ?_
            refine WL.ev (Ev.pickF rfl rfl rfl) rfl ?_
            refine WL.ev (Ev.assign rfl) rfl ?_
            refine WL.nil (kr157 _ _ _ ?_)
            refine kh156 _ _ _ ?_
            refine CW.condF rfl ?_
            refine CW.region fun kR173 kr173 => ?_  -- region 5
            refine WL.ev (Ev.move rfl) rfl ?_
            refine WL.ev (Ev.move rfl) rfl ?_
            refine WL.pass rfl rfl rfl rfl rfl ?_
            refine WL.ev (Ev.pickF rfl rfl rfl) rfl ?_
            refine WL.ev (Ev.assign rfl) rfl ?_
            refine WL.nil (kr173 _ _ _ ?_)
            refine kh155 _ _ _ ?_
            refine CW.condF rfl ?_
            refine CW.seq fun kK174 kh174 => ?_
            refine CW.region fun kR175 kr175 => ?_  -- region 7
            refine WL.ev (Ev.move rfl) rfl ?_
            refine WL.ev (Ev.assign rfl) rfl ?_
            refine WL.nil (kr175 _ _ _ ?_)
            refine kh174 _ _ _ ?_
            refine CW.condF rfl ?_
            refine CW.seq fun kK176 kh176 => ?_
            refine CW.region fun kR177 kr177 => ?_  -- region 9
            refine WL.ev (Ev.move rfl) rfl ?_
            refine WL.ev (Ev.assign rfl) rfl ?_
            refine WL.nil (kr177 _ _ _ ?_)
            refine kh176 _ _ _ ?_
            refine CW.condF rfl ?_
            refine CW.skip ?_
            refine kh154 _ _ _ ?_
            refine CW.seq fun kK178 kh178 => ?_
            refine CW.region fun kR179 kr179 => ?_  -- region 11
            refine WL.ev (Ev.assign rfl) rfl ?_
            refine WL.ev (Ev.assign rfl) rfl ?_
            refine WL.nil (kr179 _ _ _ ?_)
            refine kh178 _ _ _ ?_
            refine CW.ret ?_
            refine bodyA.ret2 rfl rfl rfl ?_
            first | (exfalso; omega) | (refine ⟨?_, hch⟩; unfold verdP; rw [if_pos hMM]; rfl) | (refine ⟨?_, hch⟩; unfold verdP; rw [if_neg hMM]; (repeat (first | rw [if_pos (by omega)] | rw [if_neg (by omega)])); rfl)

set_option maxRecDepth 4000 in
theorem Nought_spec (s : SP) (mode : Int) (w : World) (hs : s.le 1000000000000000) : Ret Tryd.prog 34 [.agg [.int .i64 (s.na : Int), .int .i64 (s.up : Int), .int .i64 (s.dn : Int), .int .i64 (s.mi : Int), .int .i64 (s.pl : Int), .int .i64 (s.al : Int)].toArray, .int .i64 mode] w fun u w' => u = .float .f64 (noughtP s mode) ∧ Chg [] w w' := by
  have hs0 := hs
  obtain ⟨hs1, hs2, hs3, hs4, hs5, hs6⟩ := hs
  have hch : Chg [] w w := Chg.refl _ _
  refine Ret.enter Tryd.func34 rfl rfl ?_
  simp only [args0, Nat.zero_add, Nat.reduceAdd]
  refine CW.seq fun kK1 kh1 => ?_
  refine CW.region fun kR2 kr2 => ?_  -- region 0
  refine WL.boxB rfl rfl rfl fun b2 wm2 hb2 hcm2 hge2 => ?_
  have hgehch2 := Nat.le_trans hch.size hge2
  have hch := hch.trans (Chg.any hcm2)
  refine WL.ev (Ev.assign rfl) rfl ?_
  refine WL.nil (kr2 _ _ _ ?_)
  refine kh1 _ _ _ ?_
  refine CW.seq fun kK3 kh3 => ?_
  refine CW.region fun kR4 kr4 => ?_  -- region 1
  refine WL.ev (Ev.fieldAddr rfl) rfl ?_
  refine WL.ev (Ev.load rfl rfl (hb2.at_ rfl)) rfl ?_
  refine WL.ev (Ev.fieldAddr rfl) rfl ?_
  refine WL.ev (Ev.load rfl rfl (hb2.at_ rfl)) rfl ?_
  first | refine WL.ev (Ev.subIn rfl rfl (by omega)) rfl ?_ | refine WL.ev (Ev.sub rfl rfl) rfl ?_
  refine WL.ev (Ev.fieldAddr rfl) rfl ?_
  refine WL.ev (Ev.load rfl rfl (hb2.at_ rfl)) rfl ?_
  first | refine WL.ev (Ev.subIn rfl rfl (by omega)) rfl ?_ | refine WL.ev (Ev.sub rfl rfl) rfl ?_
  refine WL.ev (Ev.fieldAddr rfl) rfl ?_
  refine WL.ev (Ev.load rfl rfl (hb2.at_ rfl)) rfl ?_
  first | refine WL.ev (Ev.subIn rfl rfl (by omega)) rfl ?_ | refine WL.ev (Ev.sub rfl rfl) rfl ?_
  refine WL.ev (Ev.assign rfl) rfl ?_
  refine WL.nil (kr4 _ _ _ ?_)
  refine kh3 _ _ _ ?_
  refine CW.seq fun kK5 kh5 => ?_
  refine CW.seq fun kK6 kh6 => ?_
  refine CW.region fun kR7 kr7 => ?_  -- region 2
  refine WL.ev (Ev.loadA rfl rfl hb2 rfl) rfl ?_
  refine WL.call hasF31 rfl rfl (mayBe_spec s _ hs0) fun v w1 h' => ?_
  obtain ⟨rfl, hC18⟩ := h'
  have hch := hch.trans (Chg.any hC18)
  have hb2 := hb2.keep0 hC18
  refine WL.ev (Ev.move rfl) rfl ?_
  refine WL.boolCase (fun hg1 => ?_) (fun hg1 => ?_)
  ·
    try simp only [decide_eq_true_eq, decide_eq_false_iff_not, Decidable.not_not, Bool.and_eq_true, Bool.or_eq_true, Bool.not_eq_true', Bool.not_eq_false', ne_eq, Int.not_lt, Int.not_le] at hg1
    have hMM : mayBeP s := hg1
    refine WL.want rfl rfl rfl rfl ?_
    refine WL.ev (Ev.move rfl) rfl ?_
    refine WL.want rfl rfl rfl rfl ?_
    refine WL.ev (Ev.gtr rfl rfl) rfl ?_
    refine WL.ev (Ev.pickT rfl rfl rfl) rfl ?_
    refine WL.ev (Ev.move rfl) rfl ?_
    refine WL.boolCase (fun hg2 => ?_) (fun hg2 => ?_)
    ·
      try simp only [decide_eq_true_eq, decide_eq_false_iff_not, Decidable.not_not, Bool.and_eq_true, Bool.or_eq_true, Bool.not_eq_true', Bool.not_eq_false', ne_eq, Int.not_lt, Int.not_le] at hg2
      refine WL.want rfl rfl rfl rfl ?_
      refine WL.ev (Ev.fieldAddr rfl) rfl ?_
      refine WL.want rfl rfl rfl rfl ?_
      refine WL.ev (Ev.load rfl rfl (hb2.at_ rfl)) rfl ?_
      refine WL.want rfl rfl rfl rfl ?_
      refine WL.ev (Ev.move rfl) rfl ?_
      refine WL.want rfl rfl rfl rfl ?_
      refine WL.ev (Ev.eql rfl rfl) rfl ?_
      refine WL.want rfl rfl rfl rfl ?_
      refine WL.ev (Ev.move rfl) rfl ?_
      refine WL.boolCase (fun hg3 => ?_) (fun hg3 => ?_)
      ·
        try simp only [decide_eq_true_eq, decide_eq_false_iff_not, Decidable.not_not, Bool.and_eq_true, Bool.or_eq_true, Bool.not_eq_true', Bool.not_eq_false', ne_eq, Int.not_lt, Int.not_le] at hg3
        refine WL.pass rfl rfl rfl rfl rfl ?_
        refine WL.pass rfl rfl rfl rfl rfl ?_
        refine WL.pass rfl rfl rfl rfl rfl ?_
        refine WL.pass rfl rfl rfl rfl rfl ?_
        refine WL.pass rfl rfl rfl rfl rfl ?_
        refine WL.passU rfl rfl rfl rfl ?_
        refine WL.passU rfl rfl rfl rfl ?_
        refine WL.pass rfl rfl rfl rfl rfl ?_
        refine WL.want rfl rfl rfl rfl ?_
        refine WL.ev (Ev.pickT rfl rfl rfl) rfl ?_
        refine WL.ev (Ev.pickT rfl rfl rfl) rfl ?_
        refine WL.nil (kr7 _ _ _ ?_)
        refine kh6 _ _ _ ?_
        refine CW.condT rfl ?_
        refine CW.seq fun kK8 kh8 => ?_
        refine CW.region fun kR9 kr9 => ?_  -- region 3
        refine WL.call hasF51 rfl rfl (Copysign_spec _) fun v w2 h' => ?_
        obtain ⟨rfl, rfl⟩ := h'
        refine WL.ev (Ev.assign rfl) rfl ?_
        refine WL.nil (kr9 _ _ _ ?_)
        refine kh8 _ _ _ ?_
        refine CW.ret ?_
        refine bodyA.ret1 rfl rfl ?_
        refine ⟨?_, hch⟩
        unfold noughtP
        first | (have qM : ¬ mayBeP s := hMM; rw [if_neg (fun q => qM q.1)]; done) | ((have qM : mayBeP s := hMM); (have qY : s.na + s.up + s.dn < s.al := by omega); (have qX : s.mi + s.na + s.up + s.dn = s.al ∨ s.pl + s.na + s.up + s.dn < s.al ∧ mode = 3 := by (first | exact .inl (by omega) | exact .inr ⟨by omega, by omega⟩)); rw [if_pos ⟨qM, qY, qX⟩]; done) | (rw [if_neg (fun q => by have q2 := q.2; omega)]; done)
      ·
        try simp only [decide_eq_true_eq, decide_eq_false_iff_not, Decidable.not_not, Bool.and_eq_true, Bool.or_eq_true, Bool.not_eq_true', Bool.not_eq_false', ne_eq, Int.not_lt, Int.not_le] at hg3
        refine WL.want rfl rfl rfl rfl ?_
        refine WL.ev (Ev.fieldAddr rfl) rfl ?_
        refine WL.want rfl rfl rfl rfl ?_
        refine WL.ev (Ev.load rfl rfl (hb2.at_ rfl)) rfl ?_
        refine WL.want rfl rfl rfl rfl ?_
        refine WL.ev (Ev.move rfl) rfl ?_
        refine WL.want rfl rfl rfl rfl ?_
        refine WL.ev (Ev.lss rfl rfl) rfl ?_
        refine WL.want rfl rfl rfl rfl ?_
        refine WL.ev (Ev.move rfl) rfl ?_
        refine WL.boolCase (fun hg4 => ?_) (fun hg4 => ?_)
        ·
          try simp only [decide_eq_true_eq, decide_eq_false_iff_not, Decidable.not_not, Bool.and_eq_true, Bool.or_eq_true, Bool.not_eq_true', Bool.not_eq_false', ne_eq, Int.not_lt, Int.not_le] at hg4
          refine WL.want rfl rfl rfl rfl ?_
          refine WL.ev (Ev.move rfl) rfl ?_
          refine WL.want rfl rfl rfl rfl ?_
          refine WL.ev (Ev.eql rfl rfl) rfl ?_
          refine WL.want rfl rfl rfl rfl ?_
          refine WL.ev (Ev.pickT rfl rfl rfl) rfl ?_
          refine WL.want rfl rfl rfl rfl ?_
          refine WL.ev (Ev.pickF rfl rfl rfl) rfl ?_
          refine WL.ev (Ev.pickT rfl rfl rfl) rfl ?_
          refine WL.nil (kr7 _ _ _ ?_)
          refine kh6 _ _ _ ?_
          refine CW.cond rfl (fun hc5 => ?_) (fun hc5 => ?_)  -- if 38
          ·
            try simp only [decide_eq_true_eq, decide_eq_false_iff_not, Decidable.not_not, Bool.and_eq_true, Bool.or_eq_true, Bool.not_eq_true', Bool.not_eq_false', ne_eq, Int.not_lt, Int.not_le] at hc5
            refine CW.seq fun kK10 kh10 => ?_
            refine CW.region fun kR11 kr11 => ?_  -- region 3
            refine WL.call hasF51 rfl rfl (Copysign_spec _) fun v w3 h' => ?_
            obtain ⟨rfl, rfl⟩ := h'
            refine WL.ev (Ev.assign rfl) rfl ?_
            refine WL.nil (kr11 _ _ _ ?_)
            refine kh10 _ _ _ ?_
            refine CW.ret ?_
            refine bodyA.ret1 rfl rfl ?_
            refine ⟨?_, hch⟩
            unfold noughtP
            first | (have qM : ¬ mayBeP s := hMM; rw [if_neg (fun q => qM q.1)]; done) | ((have qM : mayBeP s := hMM); (have qY : s.na + s.up + s.dn < s.al := by omega); (have qX : s.mi + s.na + s.up + s.dn = s.al ∨ s.pl + s.na + s.up + s.dn < s.al ∧ mode = 3 := by (first | exact .inl (by omega) | exact .inr ⟨by omega, by omega⟩)); rw [if_pos ⟨qM, qY, qX⟩]; done) | (rw [if_neg (fun q => by have q2 := q.2; omega)]; done)
          ·
            try simp only [decide_eq_true_eq, decide_eq_false_iff_not, Decidable.not_not, Bool.and_eq_true, Bool.or_eq_true, Bool.not_eq_true', Bool.not_eq_false', ne_eq, Int.not_lt, Int.not_le] at hc5
            refine CW.skip ?_
            refine kh5 _ _ _ ?_
            refine CW.seq fun kK12 kh12 => ?_
            refine CW.region fun kR13 kr13 => ?_  -- region 4
            refine WL.ev (Ev.assign rfl) rfl ?_
            refine WL.nil (kr13 _ _ _ ?_)
            refine kh12 _ _ _ ?_
            refine CW.ret ?_
            refine bodyA.ret1 rfl rfl ?_
            refine ⟨?_, hch⟩
            unfold noughtP
            first | (have qM : ¬ mayBeP s := hMM; rw [if_neg (fun q => qM q.1)]; done) | ((have qM : mayBeP s := hMM); (have qY : s.na + s.up + s.dn < s.al := by omega); (have qX : s.mi + s.na + s.up + s.dn = s.al ∨ s.pl + s.na + s.up + s.dn < s.al ∧ mode = 3 := by (first | exact .inl (by omega) | exact .inr ⟨by omega, by omega⟩)); rw [if_pos ⟨qM, qY, qX⟩]; done) | (rw [if_neg (fun q => by have q2 := q.2; omega)]; done)
        ·
          try simp only [decide_eq_true_eq, decide_eq_false_iff_not, Decidable.not_not, Bool.and_eq_true, Bool.or_eq_true, Bool.not_eq_true', Bool.not_eq_false', ne_eq, Int.not_lt, Int.not_le] at hg4
          refine WL.pass rfl rfl rfl rfl rfl ?_
          refine WL.pass rfl rfl rfl rfl rfl ?_
          refine WL.want rfl rfl rfl rfl ?_
          refine WL.ev (Ev.pickF rfl rfl rfl) rfl ?_
          refine WL.want rfl rfl rfl rfl ?_
          refine WL.ev (Ev.pickF rfl rfl rfl) rfl ?_
          refine WL.ev (Ev.pickT rfl rfl rfl) rfl ?_
          refine WL.nil (kr7 _ _ _ ?_)
          refine kh6 _ _ _ ?_
          refine CW.condF rfl ?_
          refine CW.skip ?_
          refine kh5 _ _ _ ?_
          refine CW.seq fun kK14 kh14 => ?_
          refine CW.region fun kR15 kr15 => ?_  -- region 4
          refine WL.ev (Ev.assign rfl) rfl ?_
          refine WL.nil (kr15 _ _ _ ?_)
          refine kh14 _ _ _ ?_
          refine CW.ret ?_
          refine bodyA.ret1 rfl rfl ?_
          refine ⟨?_, hch⟩
          unfold noughtP
          first | (have qM : ¬ mayBeP s := hMM; rw [if_neg (fun q => qM q.1)]; done) | ((have qM : mayBeP s := hMM); (have qY : s.na + s.up + s.dn < s.al := by omega); (have qX : s.mi + s.na + s.up + s.dn = s.al ∨ s.pl + s.na + s.up + s.dn < s.al ∧ mode = 3 := by (first | exact .inl (by omega) | exact .inr ⟨by omega, by omega⟩)); rw [if_pos ⟨qM, qY, qX⟩]; done) | (rw [if_neg (fun q => by have q2 := q.2; omega)]; done)
    ·
      try simp only [decide_eq_true_eq, decide_eq_false_iff_not, Decidable.not_not, Bool.and_eq_true, Bool.or_eq_true, Bool.not_eq_true', Bool.not_eq_false', ne_eq, Int.not_lt, Int.not_le] at hg2
      refine WL.pass rfl rfl rfl rfl rfl ?_
      refine WL.pass rfl rfl rfl rfl rfl ?_
      refine WL.pass rfl rfl rfl rfl rfl ?_
      refine WL.pass rfl rfl rfl rfl rfl ?_
      refine WL.pass rfl rfl rfl rfl rfl ?_
      refine WL.passU rfl rfl rfl rfl ?_
      refine WL.passU rfl rfl rfl rfl ?_
      refine WL.passU rfl rfl rfl rfl ?_
      refine WL.passU rfl rfl rfl rfl ?_
      refine WL.passU rfl rfl rfl rfl ?_
      refine WL.passU rfl rfl rfl rfl ?_
      refine WL.passU rfl rfl rfl rfl ?_
      refine WL.passU rfl rfl rfl rfl ?_
      refine WL.pass rfl rfl rfl rfl rfl ?_
      refine WL.ev (Ev.pickF rfl rfl rfl) rfl ?_
      refine WL.nil (kr7 _ _ _ ?_)
      refine kh6 _ _ _ ?_
      refine CW.condF rfl ?_
      refine CW.skip ?_
      refine kh5 _ _ _ ?_
      refine CW.seq fun kK16 kh16 => ?_
      refine CW.region fun kR17 kr17 => ?_  -- region 4
      refine WL.ev (Ev.assign rfl) rfl ?_
      refine WL.nil (kr17 _ _ _ ?_)
      refine kh16 _ _ _ ?_
      refine CW.ret ?_
      refine bodyA.ret1 rfl rfl ?_
      refine ⟨?_, hch⟩
      unfold noughtP
      first | (have qM : ¬ mayBeP s := hMM; rw [if_neg (fun q => qM q.1)]; done) | ((have qM : mayBeP s := hMM); (have qY : s.na + s.up + s.dn < s.al := by omega); (have qX : s.mi + s.na + s.up + s.dn = s.al ∨ s.pl + s.na + s.up + s.dn < s.al ∧ mode = 3 := by (first | exact .inl (by omega) | exact .inr ⟨by omega, by omega⟩)); rw [if_pos ⟨qM, qY, qX⟩]; done) | (rw [if_neg (fun q => by have q2 := q.2; omega)]; done)
  ·
    try simp only [decide_eq_true_eq, decide_eq_false_iff_not, Decidable.not_not, Bool.and_eq_true, Bool.or_eq_true, Bool.not_eq_true', Bool.not_eq_false', ne_eq, Int.not_lt, Int.not_le] at hg1
    have hMM : ¬ mayBeP s := hg1
    refine WL.pass rfl rfl rfl rfl rfl ?_
    refine WL.pass rfl rfl rfl rfl rfl ?_
    refine WL.ev (Ev.pickF rfl rfl rfl) rfl ?_
    refine WL.ev (Ev.move rfl) rfl ?_
    refine WL.pass rfl rfl rfl rfl rfl ?_
    refine WL.pass rfl rfl rfl rfl rfl ?_
    refine WL.pass rfl rfl rfl rfl rfl ?_
    refine WL.pass rfl rfl rfl rfl rfl ?_
    refine WL.pass rfl rfl rfl rfl rfl ?_
    refine WL.passU rfl rfl rfl rfl ?_
    refine WL.passU rfl rfl rfl rfl ?_
    refine WL.passU rfl rfl rfl rfl ?_
    refine WL.passU rfl rfl rfl rfl ?_
    refine WL.passU rfl rfl rfl rfl ?_
    refine WL.passU rfl rfl rfl rfl ?_
    refine WL.passU rfl rfl rfl rfl ?_
    refine WL.passU rfl rfl rfl rfl ?_
    refine WL.pass rfl rfl rfl rfl rfl ?_
    refine WL.ev (Ev.pickF rfl rfl rfl) rfl ?_
    refine WL.nil (kr7 _ _ _ ?_)
    refine kh6 _ _ _ ?_
    refine CW.condF rfl ?_
    refine CW.skip ?_
    refine kh5 _ _ _ ?_
    refine CW.seq fun kK18 kh18 => ?_
    refine CW.region fun kR19 kr19 => ?_  -- region 4
    refine WL.ev (Ev.assign rfl) rfl ?_
    refine WL.nil (kr19 _ _ _ ?_)
    refine kh18 _ _ _ ?_
    refine CW.ret ?_
    refine bodyA.ret1 rfl rfl ?_
    refine ⟨?_, hch⟩
    unfold noughtP
    first | (have qM : ¬ mayBeP s := hMM; rw [if_neg (fun q => qM q.1)]; done) | ((have qM : mayBeP s := hMM); (have qY : s.na + s.up + s.dn < s.al := by omega); (have qX : s.mi + s.na + s.up + s.dn = s.al ∨ s.pl + s.na + s.up + s.dn < s.al ∧ mode = 3 := by (first | exact .inl (by omega) | exact .inr ⟨by omega, by omega⟩)); rw [if_pos ⟨qM, qY, qX⟩]; done) | (rw [if_neg (fun q => by have q2 := q.2; omega)]; done)

end Go.Proofs.YtkkklaodligpdaaDoor

/- Package policy: Sift. No condition. -/
namespace Go.Proofs.YtkkklaodligpdaaDoor
open Go Sx Wd
set_option linter.unusedVariables false
set_option linter.unusedSimpArgs false

/-- A slice of numbers of 64 bits that reads as l. -/
structure NF (w : World) (v : Value) (l : List Nat) : Prop where
  ex : ∃ a c, v = .slice a l.length c ∧ l.length ≤ c ∧ RW w a (l.map f64v)
  hw : ∀ x ∈ l, x < 18446744073709551616
  len : l.length ≤ 70368744177664
theorem NF.keep0 {w w' : World} {v : Value} {l : List Nat} (h : NF w v l) (hc : Chg [] w w') : NF w' v l := by
  obtain ⟨⟨a, c, h1, h2, h3⟩, h4, h5⟩ := h
  exact ⟨⟨a, c, h1, h2, h3.keep0 hc⟩, h4, h5⟩
theorem NF.keep {w w' : World} {v : Value} {l : List Nat} {T : List Nat} (h : NF w v l) (hc : Chg T w w') (hT : ∀ b ∈ T, w.heap.size ≤ b) : NF w' v l := by
  obtain ⟨⟨a, c, h1, h2, h3⟩, h4, h5⟩ := h
  exact ⟨⟨a, c, h1, h2, h3.keep hc hT⟩, h4, h5⟩
theorem NF.part {w : World} {a : Option Addr} {l : List Nat} {k c : Nat} (h : RW w a (l.map f64v)) (hw : ∀ x ∈ l.take k, x < 18446744073709551616) (hl : l.length ≤ 70368744177664) (hk : k ≤ l.length) (hc : k ≤ c) : NF w (.slice a k c) (l.take k) := by
  have e : (l.take k).length = k := by rw [List.length_take]; omega
  refine ⟨⟨a, c, by rw [e], by omega, ?_⟩, hw, by omega⟩
  rw [List.map_take]
  exact h.take k
theorem D_getD {l : List Nat} (h : ∀ x ∈ l, x < 18446744073709551616) (i : Nat) : l.getD i 0 < 18446744073709551616 := by
  rw [List.getD_eq_getElem?_getD]
  cases q : l[i]? with
  | none => simp
  | some x => exact h x (List.mem_of_getElem? q)
def finP (x : Nat) : Bool := decide (kindP x ≤ 2)
def filP (l : List Nat) : List Nat := l.filter finP
def cntP (l : List Nat) : SP := l.foldl (fun s x => countP s (kindP x)) SP.zero
def siftE (l : List Nat) (pn pi : Int) : Int :=
  if ¬ mayQ pn pi then 1 else if 65536 < l.length then 2 else if 0 < (cntP l).na ∧ pn = 2 then 60 else if 0 < (cntP l).up + (cntP l).dn ∧ pi = 2 then 61 else 0
theorem take_step {l : List Nat} {i : Nat} (h : i < l.length) : l.take (i + 1) = l.take i ++ [l.getD i 0] := by
  rw [List.take_add_one, List.getD_eq_getElem?_getD, List.getElem?_eq_getElem h]; rfl
theorem cntP_step {l : List Nat} {i : Nat} (h : i < l.length) : cntP (l.take (i + 1)) = countP (cntP (l.take i)) (kindP (l.getD i 0)) := by
  unfold cntP; rw [take_step h, List.foldl_append]; rfl
theorem cntP_le : ∀ (l : List Nat) (s : SP) (n : Nat), s.le n → (l.foldl (fun s x => countP s (kindP x)) s).le (n + l.length)
  | [], s, n, h => h
  | x :: l, s, n, h => by
    have := cntP_le l (countP s (kindP x)) (n + 1) (countP.le h)
    simpa [Nat.add_assoc, Nat.add_comm 1] using this
theorem cnt_le (l : List Nat) : (cntP l).le l.length := by
  have := cntP_le l SP.zero 0 (by refine ⟨?_, ?_, ?_, ?_, ?_, ?_⟩ <;> exact Nat.zero_le _)
  rw [Nat.zero_add] at this; exact this
theorem SP.le.mono {s : SP} {n m : Nat} (h : s.le n) (hm : n ≤ m) : s.le m := by
  obtain ⟨a, b, c, d, e, f⟩ := h
  exact ⟨by omega, by omega, by omega, by omega, by omega, by omega⟩
theorem filP_step {l : List Nat} {i : Nat} (h : i < l.length) : filP (l.take (i + 1)) = if kindP (l.getD i 0) ≤ 2 then filP (l.take i) ++ [l.getD i 0] else filP (l.take i) := by
  unfold filP
  rw [take_step h, List.filter_append, List.filter_cons]
  simp only [finP, decide_eq_true_eq, List.filter_nil]
  split <;> simp
theorem filP_len (l : List Nat) (i : Nat) : (filP (l.take i)).length ≤ i := by
  unfold filP
  have := List.length_filter_le finP (l.take i)
  rw [List.length_take] at this
  omega
theorem set_take {L : List Nat} {m v : Nat} (h : m < L.length) : (L.set m v).take (m + 1) = L.take m ++ [v] := by
  rw [List.take_add_one, List.take_set_of_le (Nat.le_refl _), List.getElem?_set_self h]; rfl

structure KSift (l : List Nat) (pn pi : Int) (w0 : World) (b3 b5 b7 b23 : Nat) (g : Nat × List Nat) (w : World) : Prop where
  le : g.1 ≤ l.length
  len : g.2.length = l.length
  tk : g.2.take (filP (l.take g.1)).length = filP (l.take g.1)
  h3 : BK w b3 29 [.int .i64 pn, .int .i64 pi]
  h5 : BK w b5 41 [.int .i64 0, .int .i64 0, .int .i64 0, .int .i64 0, .int .i64 0, .int .i64 0]
  h7 : BK w b7 41 (cntP (l.take g.1)).cells
  hF : FB w b23 24 g.2
  ch : Chg [] w0 w

set_option maxRecDepth 4000 in
theorem Sift_spec (v : Value) (l : List Nat) (pn pi : Int) (w : World) (hv : NF w v l) : Ret Tryd.prog 14 [v, .agg [.int .i64 pn, .int .i64 pi].toArray] w fun u w' => (siftE l pn pi ≠ 0 ∧ u = .tuple [.slice none 0 0, .agg SP.zero.cells.toArray, .int .i64 (siftE l pn pi)].toArray ∧ Chg [] w w') ∨ (siftE l pn pi = 0 ∧ ∃ v2, NF w' v2 (filP l) ∧ u = .tuple [v2, .agg (cntP l).cells.toArray, .int .i64 0].toArray ∧ Chg [] w w') := by
  obtain ⟨⟨al, cl, rfl, hcapl, hrl⟩, hWl, hll⟩ := hv
  have hch : Chg [] w w := Chg.refl _ _
  refine Ret.enter Tryd.func14 rfl rfl ?_
  simp only [args0, Nat.zero_add, Nat.reduceAdd]
  refine CW.seq fun kK1 kh1 => ?_
  refine CW.region fun kR2 kr2 => ?_  -- region 0
  refine WL.boxB rfl rfl rfl fun b3 wm3 hb3 hcm3 hge3 => ?_
  have hgehch3 := Nat.le_trans hch.size hge3
  have hch := hch.trans (Chg.any hcm3)
  refine WL.ev (Ev.assign rfl) rfl ?_
  refine WL.allocB (l := [.int .i64 0, .int .i64 0, .int .i64 0, .int .i64 0, .int .i64 0, .int .i64 0]) rfl rfl fun b5 wm5 hb5 hcm5 hge5 => ?_
  have hgehch5 := Nat.le_trans hch.size hge5
  have hch := hch.trans (Chg.any hcm5)
  have hneb35 : b3 ≠ b5 := by have := hb3.lt; omega
  have hb3 := hb3.keep0 hcm5
  refine WL.ev (Ev.assign rfl) rfl ?_
  refine WL.nil (kr2 _ _ _ ?_)
  refine kh1 _ _ _ ?_
  refine CW.seq fun kK3 kh3 => ?_
  refine CW.region fun kR4 kr4 => ?_  -- region 1
  refine WL.allocB (l := [.int .i64 0, .int .i64 0, .int .i64 0, .int .i64 0, .int .i64 0, .int .i64 0]) rfl rfl fun b7 wm7 hb7 hcm7 hge7 => ?_
  have hgehch7 := Nat.le_trans hch.size hge7
  have hch := hch.trans (Chg.any hcm7)
  have hneb37 : b3 ≠ b7 := by have := hb3.lt; omega
  have hb3 := hb3.keep0 hcm7
  have hneb57 : b5 ≠ b7 := by have := hb5.lt; omega
  have hb5 := hb5.keep0 hcm7
  refine WL.nil (kr4 _ _ _ ?_)
  refine kh3 _ _ _ ?_
  refine CW.seq fun kK5 kh5 => ?_
  refine CW.block ?_
  refine CW.seq fun kK6 kh6 => ?_
  refine CW.region fun kR7 kr7 => ?_  -- region 2
  refine WL.ev (Ev.loadA rfl rfl hb3 rfl) rfl ?_
  refine WL.call hasF28 rfl rfl (May_spec pn pi _) fun v w1 h' => ?_
  obtain ⟨rfl, hC13⟩ := h'
  have hch := hch.trans (Chg.any hC13)
  have hb3 := hb3.keep0 hC13
  have hb5 := hb5.keep0 hC13
  have hb7 := hb7.keep0 hC13
  refine WL.ev (Ev.not rfl) rfl ?_
  refine WL.ev (Ev.assign rfl) rfl ?_
  refine WL.nil (kr7 _ _ _ ?_)
  refine kh6 _ _ _ ?_
  refine CW.cond rfl (fun hc1 => ?_) (fun hc1 => ?_)  -- if 11
  ·
    try simp only [decide_eq_true_eq, decide_eq_false_iff_not, Decidable.not_not, Bool.and_eq_true, Bool.or_eq_true, Bool.not_eq_true', Bool.not_eq_false', ne_eq, Int.not_lt, Int.not_le] at hc1
    have hM : ¬ mayQ pn pi := hc1
    refine CW.seq fun kK8 kh8 => ?_
    refine CW.regionKC 2 4 rfl hmix fun kR9 kr9 hS hdr => ?_  -- region 3
    have hch := hch.trans (Chg.any hdr)
    have hb3 := hb3.keep0 hdr
    have hb5 := hb5.keep0 hdr
    have hb7 := hb7.keep0 hdr
    have hch_r := hch
    have hb3_r := hb3
    have hb5_r := hb5
    have hb7_r := hb7
    refine WK.take 0 rfl (by kernel_rfl) (by kernel_rfl) (by kernel_rfl) (by kernel_rfl) (by kernel_rfl) (by kernel_rfl) hS (fun w' hw' => Ev.loadA rfl rfl (hb7_r.keep0 hw') rfl) rfl ?_
    refine WK.take 1 rfl (by kernel_rfl) (by kernel_rfl) (by kernel_rfl) (by kernel_rfl) (by kernel_rfl) (by kernel_rfl) hS (fun w' hw' => Ev.assign rfl) rfl ?_
    refine WK.storeB 2 rfl (by kernel_rfl) (by kernel_rfl) rfl rfl rfl (by intro v hv; simp only [List.mem_cons, List.not_mem_nil, or_false] at hv; rcases hv with rfl | rfl | rfl | rfl | rfl | rfl <;> first | rfl | assumption | exact NU.one (by assumption)) hb5 (by simp) rfl fun ws16 hb5_ hcs16 => ?_
    try simp only [Sx.splice, List.set_cons_zero, List.set_cons_succ, Nat.zero_add] at hb5_
    have hch := hch.step hcs16 (fun y hy => by simp only [List.mem_singleton] at hy; subst hy; first | exact .inr (by first | assumption | omega) | exact .inl (by simp))
    have hb3 := hb3.keep hcs16 (by simp; omega)
    have hb7 := hb7.keep hcs16 (by simp; omega)
    have hb5 := hb5_
    refine WK.after 3 rfl (by kernel_rfl) (by kernel_rfl) (Ev.assign rfl) rfl ?_
    refine WK.done (by kernel_rfl) (kr9 _ _ _ ?_)
    refine kh8 _ _ _ ?_
    refine CW.ret ?_
    refine bodyA.retR3 rfl (RVal.tmp rfl) (RVal.cell rfl (hb5.varA rfl rfl)) (RVal.tmp rfl) ?_
    exact .inl ⟨by unfold siftE; rw [if_pos hM]; decide, by unfold siftE; rw [if_pos hM]; rfl, hch⟩
  ·
    try simp only [decide_eq_true_eq, decide_eq_false_iff_not, Decidable.not_not, Bool.and_eq_true, Bool.or_eq_true, Bool.not_eq_true', Bool.not_eq_false', ne_eq, Int.not_lt, Int.not_le] at hc1
    have hM : ¬ ¬ mayQ pn pi := fun q => q hc1
    refine CW.seq fun kK10 kh10 => ?_
    refine CW.region fun kR11 kr11 => ?_  -- region 4
    refine WL.ev (Ev.move rfl) rfl ?_
    refine WL.ev (Ev.len rfl) rfl ?_
    refine WL.ev (Ev.gtr rfl rfl) rfl ?_
    refine WL.ev (Ev.assign rfl) rfl ?_
    refine WL.nil (kr11 _ _ _ ?_)
    refine kh10 _ _ _ ?_
    refine CW.cond rfl (fun hc2 => ?_) (fun hc2 => ?_)  -- if 16
    ·
      try simp only [decide_eq_true_eq, decide_eq_false_iff_not, Decidable.not_not, Bool.and_eq_true, Bool.or_eq_true, Bool.not_eq_true', Bool.not_eq_false', ne_eq, Int.not_lt, Int.not_le] at hc2
      have hL : 65536 < l.length := by omega
      refine CW.seq fun kK12 kh12 => ?_
      refine CW.regionKC 2 4 rfl hmix fun kR13 kr13 hS hdr => ?_  -- region 5
      have hch := hch.trans (Chg.any hdr)
      have hb3 := hb3.keep0 hdr
      have hb5 := hb5.keep0 hdr
      have hb7 := hb7.keep0 hdr
      have hch_r := hch
      have hb3_r := hb3
      have hb5_r := hb5
      have hb7_r := hb7
      refine WK.take 0 rfl (by kernel_rfl) (by kernel_rfl) (by kernel_rfl) (by kernel_rfl) (by kernel_rfl) (by kernel_rfl) hS (fun w' hw' => Ev.loadA rfl rfl (hb7_r.keep0 hw') rfl) rfl ?_
      refine WK.take 1 rfl (by kernel_rfl) (by kernel_rfl) (by kernel_rfl) (by kernel_rfl) (by kernel_rfl) (by kernel_rfl) hS (fun w' hw' => Ev.assign rfl) rfl ?_
      refine WK.storeB 2 rfl (by kernel_rfl) (by kernel_rfl) rfl rfl rfl (by intro v hv; simp only [List.mem_cons, List.not_mem_nil, or_false] at hv; rcases hv with rfl | rfl | rfl | rfl | rfl | rfl <;> first | rfl | assumption | exact NU.one (by assumption)) hb5 (by simp) rfl fun ws17 hb5_ hcs17 => ?_
      try simp only [Sx.splice, List.set_cons_zero, List.set_cons_succ, Nat.zero_add] at hb5_
      have hch := hch.step hcs17 (fun y hy => by simp only [List.mem_singleton] at hy; subst hy; first | exact .inr (by first | assumption | omega) | exact .inl (by simp))
      have hb3 := hb3.keep hcs17 (by simp; omega)
      have hb7 := hb7.keep hcs17 (by simp; omega)
      have hb5 := hb5_
      refine WK.after 3 rfl (by kernel_rfl) (by kernel_rfl) (Ev.assign rfl) rfl ?_
      refine WK.done (by kernel_rfl) (kr13 _ _ _ ?_)
      refine kh12 _ _ _ ?_
      refine CW.ret ?_
      refine bodyA.retR3 rfl (RVal.tmp rfl) (RVal.cell rfl (hb5.varA rfl rfl)) (RVal.tmp rfl) ?_
      exact .inl ⟨by unfold siftE; rw [if_neg hM, if_pos hL]; decide, by unfold siftE; rw [if_neg hM, if_pos hL]; rfl, hch⟩
    ·
      try simp only [decide_eq_true_eq, decide_eq_false_iff_not, Decidable.not_not, Bool.and_eq_true, Bool.or_eq_true, Bool.not_eq_true', Bool.not_eq_false', ne_eq, Int.not_lt, Int.not_le] at hc2
      have hL : ¬ 65536 < l.length := by omega
      refine CW.skip ?_
      refine kh5 _ _ _ ?_
      refine CW.seq fun kK14 kh14 => ?_
      refine CW.region fun kR15 kr15 => ?_  -- region 6
      refine WL.ev (Ev.move rfl) rfl ?_
      refine WL.ev (Ev.len rfl) rfl ?_
      refine WL.makeF (0) ((l).length) rfl rfl (by omega) (by omega) (by omega) (by omega) (by omega) rfl fun b23 wm23 hb23 hcm23 hge23 => ?_
      have hgehch23 := Nat.le_trans hch.size hge23
      have hch := hch.trans (Chg.any hcm23)
      have hneb323 : b3 ≠ b23 := by have := hb3.lt; omega
      have hb3 := hb3.keep0 hcm23
      have hneb523 : b5 ≠ b23 := by have := hb5.lt; omega
      have hb5 := hb5.keep0 hcm23
      have hneb723 : b7 ≠ b23 := by have := hb7.lt; omega
      have hb7 := hb7.keep0 hcm23
      refine WL.ev (Ev.assign rfl) rfl ?_
      refine WL.nil (kr15 _ _ _ ?_)
      refine kh14 _ _ _ ?_
      refine CW.seq fun kK16 kh16 => ?_
      refine CW.seq fun kK17 kh17 => ?_
      refine CW.region fun kR18 kr18 => ?_  -- region 7
      refine WL.ev (Ev.move rfl) rfl ?_
      refine WL.ev (Ev.len rfl) rfl ?_
      refine WL.ev (Ev.move rfl) rfl ?_
      refine WL.nil (kr18 _ _ _ ?_)
      refine kh17 _ _ _ ?_
      refine CW.block ?_
      refine CW.loop (S := fun g : Nat × List Nat => [(0, .slice al l.length cl), (3, .pointer (some ⟨b3, 0, none⟩)), (4, .slice none 0 0), (5, .pointer (some ⟨b5, 0, none⟩)), (6, .int .i64 0), (7, .pointer (some ⟨b7, 0, none⟩)), (8, .slice (some ⟨b23, 0, none⟩) (filP (l.take g.1)).length l.length), (25, .int .i64 (l.length : Int)), (26, .int .i64 (g.1 : Int))]) (Inv := KSift l pn pi w b3 b5 b7 b23) (mu := fun g => l.length - g.1) ((0, List.replicate l.length 0)) ?_ ?_ ?_
      ·
        exact ⟨Nat.zero_le _, by simp, by simp [filP], hb3, hb5, hb7, hb23, hch⟩
      ·
        repeat (first | exact Subs.nil | refine Subs.cons rfl ?_ | refine Subs.consI rfl (by omega) ?_)
      ·
        rintro ⟨i, L⟩ wr ⟨hi1, hLl, htk, hb3, hb5, hb7, hb23, hch⟩
        dsimp only at hi1 hLl htk hb3 hb5 hb7 hb23 hch
        dsimp only
        have hfl := filP_len l i
        have hx64 := D_getD hWl i
        have hcle := (cnt_le (l.take i)).mono (m := 65536) (by rw [List.length_take]; omega)
        refine CW.seq fun kK19 kh19 => ?_
        refine CW.region fun kR20 kr20 => ?_  -- region 8
        refine WL.ev (Ev.lss rfl rfl) rfl ?_
        refine WL.nil (kr20 _ _ _ ?_)
        refine kh19 _ _ _ ?_
        refine CW.seq fun kK21 kh21 => ?_
        refine CW.cond rfl (fun hc3 => ?_) (fun hc3 => ?_)  -- if 27
        ·
          try simp only [decide_eq_true_eq, decide_eq_false_iff_not, Decidable.not_not, Bool.and_eq_true, Bool.or_eq_true, Bool.not_eq_true', Bool.not_eq_false', ne_eq, Int.not_lt, Int.not_le] at hc3
          refine CW.skip ?_
          refine kh21 _ _ _ ?_
          refine CW.seq fun kK22 kh22 => ?_
          refine CW.block ?_
          refine CW.seq fun kK23 kh23 => ?_
          refine CW.region fun kR24 kr24 => ?_  -- region 9
          refine WL.ev (Ev.move rfl) rfl ?_
          refine WL.ev (Ev.assign rfl) rfl ?_
          refine WL.nil (kr24 _ _ _ ?_)
          refine kh23 _ _ _ ?_
          refine CW.seq fun kK25 kh25 => ?_
          refine CW.region fun kR26 kr26 => ?_  -- region 10
          refine WL.ev (Ev.move rfl) rfl ?_
          refine WL.ev (Ev.move rfl) rfl ?_
          refine WL.ev (Ev.ixR (i) rfl rfl (hrl.keep0 hch) (by omega) (by omega) (by simp; omega)) rfl ?_
          refine WL.ev (Ev.load rfl rfl ((hrl.keep0 hch).f64 (by first | omega | (simp; omega)))) rfl ?_
          refine WL.call hasF29 rfl rfl (kind_spec (l.getD i 0) _ hx64) fun v w2 h' => ?_
          obtain ⟨rfl, hC33⟩ := h'
          have hch := hch.trans (Chg.any hC33)
          have hb3 := hb3.keep0 hC33
          have hb5 := hb5.keep0 hC33
          have hb7 := hb7.keep0 hC33
          have hb23 := hb23.keep0 hC33
          refine WL.ev (Ev.assign rfl) rfl ?_
          refine WL.nil (kr26 _ _ _ ?_)
          refine kh25 _ _ _ ?_
          refine CW.seq fun kK27 kh27 => ?_
          refine CW.region fun kR28 kr28 => ?_  -- region 11
          refine WL.ev (Ev.move rfl) rfl ?_
          refine WL.call hasF30 rfl rfl (count_spec b7 (kindP (l.getD i 0)) (cntP (l.take i)) _ hb7 (hcle.mono (by decide))) fun v w3 h' => ?_
          obtain ⟨hb7_, hC35⟩ := h'
          have hch := hch.step hC35 (fun y hy => by simp only [List.mem_singleton] at hy; subst hy; exact .inr (by omega))
          have hb3 := hb3.keep hC35 (by simp; try omega)
          have hb5 := hb5.keep hC35 (by simp; try omega)
          have hb23 := hb23.keep hC35 (by simp; try omega)
          have hb7 := hb7_
          rw [← cntP_step (by omega)] at hb7
          refine WL.nil (kr28 _ _ _ ?_)
          refine kh27 _ _ _ ?_
          refine CW.seq fun kK29 kh29 => ?_
          refine CW.region fun kR30 kr30 => ?_  -- region 12
          refine WL.ev (Ev.move rfl) rfl ?_
          refine WL.ev (Ev.leq rfl rfl) rfl ?_
          refine WL.nil (kr30 _ _ _ ?_)
          refine kh29 _ _ _ ?_
          refine CW.cond rfl (fun hc4 => ?_) (fun hc4 => ?_)  -- if 37
          ·
            try simp only [decide_eq_true_eq, decide_eq_false_iff_not, Decidable.not_not, Bool.and_eq_true, Bool.or_eq_true, Bool.not_eq_true', Bool.not_eq_false', ne_eq, Int.not_lt, Int.not_le] at hc4
            have hk2 : kindP (l.getD i 0) ≤ 2 := by omega
            refine CW.region fun kR31 kr31 => ?_  -- region 13
            refine WL.ev (Ev.move rfl) rfl ?_
            refine WL.ev (Ev.move rfl) rfl ?_
            refine WL.ev (Ev.move rfl) rfl ?_
            refine WL.ev (Ev.ixR (i) rfl rfl (hrl.keep0 hch) (by omega) (by omega) (by simp; omega)) rfl ?_
            refine WL.ev (Ev.load rfl rfl ((hrl.keep0 hch).f64 (by first | omega | (simp; omega)))) rfl ?_
            refine WL.buildSlice (m := 1) (cs := [f64v (l.getD i 0)]) (by decide) (by decide) rfl (by kernel_rfl) rfl fun b43 w43 hn43 => ?_
            have hcm43 := hn43.chg
            have hb43 : BK w43 b43 24 [f64v (l.getD i 0)] := hn43.at_
            have hch := hch.trans (Chg.any hcm43)
            have hb3 := hb3.keep hcm43 (by simp; try omega)
            have hb5 := hb5.keep hcm43 (by simp; try omega)
            have hb7 := hb7.keep hcm43 (by simp; try omega)
            have hb23 := hb23.keep hcm43 (by simp; try omega)
            refine WL.appendF (v := l.getD i 0) rfl rfl hb23 (hb43.at_ rfl) (by omega) (by omega) rfl fun w44 hb23_ hcs44 => ?_
            have hch := hch.step hcs44 (fun y hy => by simp only [List.mem_singleton] at hy; subst hy; exact .inr (by omega))
            have hb3 := hb3.keep hcs44 (by simp; try omega)
            have hb5 := hb5.keep hcs44 (by simp; try omega)
            have hb7 := hb7.keep hcs44 (by simp; try omega)
            have hb23 := hb23_
            rw [show (filP (l.take i)).length + 1 = (filP (l.take (i + 1))).length by rw [filP_step (by omega), if_pos hk2]; simp]
            refine WL.ev (Ev.assign rfl) rfl ?_
            refine WL.nil (kr31 _ _ _ ?_)
            refine kh22 _ _ _ ?_
            refine CW.region fun kR32 kr32 => ?_  -- region 14
            first | refine WL.ev (Ev.addIn rfl rfl (by omega)) rfl ?_ | refine WL.ev (Ev.add rfl rfl) rfl ?_
            refine WL.ev (Ev.move rfl) rfl ?_
            refine WL.nil (kr32 _ _ _ ?_)
            refine ⟨rfl, (i + 1, L.set (filP (l.take i)).length (l.getD i 0)), ?_, ?_, ?_⟩
            ·
              repeat (first | exact Subs.nil | refine Subs.cons rfl ?_ | refine Subs.consI rfl (by omega) ?_)
            ·
              exact ⟨by dsimp only; omega, by simpa using hLl, by dsimp only; rw [filP_step (by omega), if_pos hk2, List.length_append]; show List.take _ _ = _; rw [show [l.getD i 0].length = 1 from rfl, set_take (by omega), htk], hb3, hb5, hb7, hb23, hch⟩
            ·
              show l.length - (i + 1) < l.length - i; omega
          ·
            try simp only [decide_eq_true_eq, decide_eq_false_iff_not, Decidable.not_not, Bool.and_eq_true, Bool.or_eq_true, Bool.not_eq_true', Bool.not_eq_false', ne_eq, Int.not_lt, Int.not_le] at hc4
            have hk2 : ¬ kindP (l.getD i 0) ≤ 2 := by omega
            have hfs : filP (l.take (i + 1)) = filP (l.take i) := by rw [filP_step (by omega), if_neg hk2]
            refine CW.skip ?_
            refine kh22 _ _ _ ?_
            refine CW.region fun kR33 kr33 => ?_  -- region 14
            first | refine WL.ev (Ev.addIn rfl rfl (by omega)) rfl ?_ | refine WL.ev (Ev.add rfl rfl) rfl ?_
            refine WL.ev (Ev.move rfl) rfl ?_
            refine WL.nil (kr33 _ _ _ ?_)
            refine ⟨rfl, (i + 1, L), ?_, ?_, ?_⟩
            ·
              rw [← hfs]; repeat (first | exact Subs.nil | refine Subs.cons rfl ?_ | refine Subs.consI rfl (by omega) ?_)
            ·
              exact ⟨by dsimp only; omega, hLl, by dsimp only; rw [hfs]; exact htk, hb3, hb5, hb7, hb23, hch⟩
            ·
              show l.length - (i + 1) < l.length - i; omega
        ·
          try simp only [decide_eq_true_eq, decide_eq_false_iff_not, Decidable.not_not, Bool.and_eq_true, Bool.or_eq_true, Bool.not_eq_true', Bool.not_eq_false', ne_eq, Int.not_lt, Int.not_le] at hc3
          have hiX : i = l.length := by omega
          subst hiX
          rw [List.take_length] at hb7 hcle htk hfl
          rw [List.take_length]
          unfold SP.cells at hb7
          obtain ⟨hcl1, hcl2, hcl3, hcl4, hcl5, hcl6⟩ := hcle
          refine CW.exit ?_  -- exit 1
          refine kh16 _ _ _ ?_
          refine CW.seq fun kK34 kh34 => ?_
          refine CW.block ?_
          refine CW.seqM 46 (decide (0 < (cntP l).na ∧ pn = 2)) ?_ ?_
          ·
            refine CW.region fun kR35 kr35 => ?_  -- region 15
            refine WL.ev (Ev.fieldAddr rfl) rfl ?_
            refine WL.ev (Ev.load rfl rfl (hb7.at_ rfl)) rfl ?_
            refine WL.ev (Ev.gtr rfl rfl) rfl ?_
            refine WL.ev (Ev.move rfl) rfl ?_
            refine WL.boolCase (fun hg5 => ?_) (fun hg5 => ?_)
            ·
              try simp only [decide_eq_true_eq, decide_eq_false_iff_not, Decidable.not_not, Bool.and_eq_true, Bool.or_eq_true, Bool.not_eq_true', Bool.not_eq_false', ne_eq, Int.not_lt, Int.not_le] at hg5
              refine WL.want rfl rfl rfl rfl ?_
              refine WL.ev (Ev.fieldAddr rfl) rfl ?_
              refine WL.want rfl rfl rfl rfl ?_
              refine WL.ev (Ev.load rfl rfl (hb3.at_ rfl)) rfl ?_
              refine WL.want rfl rfl rfl rfl ?_
              refine WL.ev (Ev.eql rfl rfl) rfl ?_
              refine WL.ev (Ev.pickT rfl rfl rfl) rfl ?_
              refine WL.ev (Ev.assign rfl) rfl ?_
              refine WL.nil (kr35 _ _ _ ?_)
              refine ⟨rfl, rfl, Subs.consB rfl ?_ ?_⟩
              ·
                first | (simp; omega) | (refine decide_eq_decide.2 ?_; omega)
              ·
                first | ((repeat (first | exact Subs.refl | refine Subs.drop1 (by rfl) ?_)); done) | ((repeat (first | exact Subs.nil | refine Subs.cons rfl ?_)); done)
            ·
              try simp only [decide_eq_true_eq, decide_eq_false_iff_not, Decidable.not_not, Bool.and_eq_true, Bool.or_eq_true, Bool.not_eq_true', Bool.not_eq_false', ne_eq, Int.not_lt, Int.not_le] at hg5
              refine WL.pass rfl rfl rfl rfl rfl ?_
              refine WL.pass rfl rfl rfl rfl rfl ?_
              refine WL.pass rfl rfl rfl rfl rfl ?_
              refine WL.ev (Ev.pickF rfl rfl rfl) rfl ?_
              refine WL.ev (Ev.assign rfl) rfl ?_
              refine WL.nil (kr35 _ _ _ ?_)
              refine ⟨rfl, rfl, Subs.consB rfl ?_ ?_⟩
              ·
                first | (simp; omega) | (refine decide_eq_decide.2 ?_; omega)
              ·
                first | ((repeat (first | exact Subs.refl | refine Subs.drop1 (by rfl) ?_)); done) | ((repeat (first | exact Subs.nil | refine Subs.cons rfl ?_)); done)
          ·
            refine CW.cond rfl (fun hc6 => ?_) (fun hc6 => ?_)  -- if 46
            ·
              try simp only [decide_eq_true_eq, decide_eq_false_iff_not, Decidable.not_not, Bool.and_eq_true, Bool.or_eq_true, Bool.not_eq_true', Bool.not_eq_false', ne_eq, Int.not_lt, Int.not_le] at hc6
              have hA : 0 < (cntP l).na ∧ pn = 2 := hc6
              refine CW.seq fun kK36 kh36 => ?_
              refine CW.region fun kR37 kr37 => ?_  -- region 16
              refine WL.ev (Ev.build (vs := _) (cs := [_, _, _, _, _, _]) rfl rfl) rfl ?_
              refine WL.ev (Ev.assign rfl) rfl ?_
              refine WL.storeB rfl rfl rfl (by intro v hv; simp only [List.mem_cons, List.not_mem_nil, or_false] at hv; rcases hv with rfl | rfl | rfl | rfl | rfl | rfl <;> first | rfl | assumption | exact NU.one (by assumption)) hb5 (by simp) rfl fun ws18 hb5_ hcs18 => ?_
              try simp only [Sx.splice, List.set_cons_zero, List.set_cons_succ, Nat.zero_add] at hb5_
              have hch := hch.step hcs18 (fun y hy => by simp only [List.mem_singleton] at hy; subst hy; first | exact .inr (by first | assumption | omega) | exact .inl (by simp))
              have hb3 := hb3.keep hcs18 (by simp; omega)
              have hb7 := hb7.keep hcs18 (by simp; omega)
              have hb23 := hb23.keep hcs18 (by simp; omega)
              have hb5 := hb5_
              refine WL.ev (Ev.assign rfl) rfl ?_
              refine WL.nil (kr37 _ _ _ ?_)
              refine kh36 _ _ _ ?_
              refine CW.ret ?_
              refine bodyA.retR3 rfl (RVal.tmp rfl) (RVal.cell rfl (hb5.varA rfl rfl)) (RVal.tmp rfl) ?_
              exact .inl ⟨by unfold siftE; rw [if_neg hM, if_neg hL, if_pos hA]; decide, by unfold siftE; rw [if_neg hM, if_neg hL, if_pos hA]; rfl, hch⟩
            ·
              try simp only [decide_eq_true_eq, decide_eq_false_iff_not, Decidable.not_not, Bool.and_eq_true, Bool.or_eq_true, Bool.not_eq_true', Bool.not_eq_false', ne_eq, Int.not_lt, Int.not_le] at hc6
              have hA : ¬ (0 < (cntP l).na ∧ pn = 2) := hc6
              refine CW.seqM 56 (decide (0 < (cntP l).up + (cntP l).dn ∧ pi = 2)) ?_ ?_
              ·
                refine CW.region fun kR38 kr38 => ?_  -- region 17
                refine WL.ev (Ev.fieldAddr rfl) rfl ?_
                refine WL.ev (Ev.load rfl rfl (hb7.at_ rfl)) rfl ?_
                refine WL.ev (Ev.fieldAddr rfl) rfl ?_
                refine WL.ev (Ev.load rfl rfl (hb7.at_ rfl)) rfl ?_
                first | refine WL.ev (Ev.addIn rfl rfl (by omega)) rfl ?_ | refine WL.ev (Ev.add rfl rfl) rfl ?_
                refine WL.ev (Ev.gtr rfl rfl) rfl ?_
                refine WL.ev (Ev.move rfl) rfl ?_
                refine WL.boolCase (fun hg7 => ?_) (fun hg7 => ?_)
                ·
                  try simp only [decide_eq_true_eq, decide_eq_false_iff_not, Decidable.not_not, Bool.and_eq_true, Bool.or_eq_true, Bool.not_eq_true', Bool.not_eq_false', ne_eq, Int.not_lt, Int.not_le] at hg7
                  refine WL.want rfl rfl rfl rfl ?_
                  refine WL.ev (Ev.fieldAddr rfl) rfl ?_
                  refine WL.want rfl rfl rfl rfl ?_
                  refine WL.ev (Ev.load rfl rfl (hb3.at_ rfl)) rfl ?_
                  refine WL.want rfl rfl rfl rfl ?_
                  refine WL.ev (Ev.eql rfl rfl) rfl ?_
                  refine WL.ev (Ev.pickT rfl rfl rfl) rfl ?_
                  refine WL.ev (Ev.assign rfl) rfl ?_
                  refine WL.nil (kr38 _ _ _ ?_)
                  refine ⟨rfl, rfl, Subs.consB rfl ?_ ?_⟩
                  ·
                    first | (simp; omega) | (refine decide_eq_decide.2 ?_; omega)
                  ·
                    first | ((repeat (first | exact Subs.refl | refine Subs.drop1 (by rfl) ?_)); done) | ((repeat (first | exact Subs.nil | refine Subs.cons rfl ?_)); done)
                ·
                  try simp only [decide_eq_true_eq, decide_eq_false_iff_not, Decidable.not_not, Bool.and_eq_true, Bool.or_eq_true, Bool.not_eq_true', Bool.not_eq_false', ne_eq, Int.not_lt, Int.not_le] at hg7
                  refine WL.pass rfl rfl rfl rfl rfl ?_
                  refine WL.pass rfl rfl rfl rfl rfl ?_
                  refine WL.pass rfl rfl rfl rfl rfl ?_
                  refine WL.ev (Ev.pickF rfl rfl rfl) rfl ?_
                  refine WL.ev (Ev.assign rfl) rfl ?_
                  refine WL.nil (kr38 _ _ _ ?_)
                  refine ⟨rfl, rfl, Subs.consB rfl ?_ ?_⟩
                  ·
                    first | (simp; omega) | (refine decide_eq_decide.2 ?_; omega)
                  ·
                    first | ((repeat (first | exact Subs.refl | refine Subs.drop1 (by rfl) ?_)); done) | ((repeat (first | exact Subs.nil | refine Subs.cons rfl ?_)); done)
              ·
                refine CW.cond rfl (fun hc8 => ?_) (fun hc8 => ?_)  -- if 56
                ·
                  try simp only [decide_eq_true_eq, decide_eq_false_iff_not, Decidable.not_not, Bool.and_eq_true, Bool.or_eq_true, Bool.not_eq_true', Bool.not_eq_false', ne_eq, Int.not_lt, Int.not_le] at hc8
                  have hB : 0 < (cntP l).up + (cntP l).dn ∧ pi = 2 := hc8
                  refine CW.seq fun kK39 kh39 => ?_
                  refine CW.region fun kR40 kr40 => ?_  -- region 18
                  refine WL.ev (Ev.build (vs := _) (cs := [_, _, _, _, _, _]) rfl rfl) rfl ?_
                  refine WL.ev (Ev.assign rfl) rfl ?_
                  refine WL.storeB rfl rfl rfl (by intro v hv; simp only [List.mem_cons, List.not_mem_nil, or_false] at hv; rcases hv with rfl | rfl | rfl | rfl | rfl | rfl <;> first | rfl | assumption | exact NU.one (by assumption)) hb5 (by simp) rfl fun ws19 hb5_ hcs19 => ?_
                  try simp only [Sx.splice, List.set_cons_zero, List.set_cons_succ, Nat.zero_add] at hb5_
                  have hch := hch.step hcs19 (fun y hy => by simp only [List.mem_singleton] at hy; subst hy; first | exact .inr (by first | assumption | omega) | exact .inl (by simp))
                  have hb3 := hb3.keep hcs19 (by simp; omega)
                  have hb7 := hb7.keep hcs19 (by simp; omega)
                  have hb23 := hb23.keep hcs19 (by simp; omega)
                  have hb5 := hb5_
                  refine WL.ev (Ev.assign rfl) rfl ?_
                  refine WL.nil (kr40 _ _ _ ?_)
                  refine kh39 _ _ _ ?_
                  refine CW.ret ?_
                  refine bodyA.retR3 rfl (RVal.tmp rfl) (RVal.cell rfl (hb5.varA rfl rfl)) (RVal.tmp rfl) ?_
                  exact .inl ⟨by unfold siftE; rw [if_neg hM, if_neg hL, if_neg hA, if_pos hB]; decide, by unfold siftE; rw [if_neg hM, if_neg hL, if_neg hA, if_pos hB]; rfl, hch⟩
                ·
                  try simp only [decide_eq_true_eq, decide_eq_false_iff_not, Decidable.not_not, Bool.and_eq_true, Bool.or_eq_true, Bool.not_eq_true', Bool.not_eq_false', ne_eq, Int.not_lt, Int.not_le] at hc8
                  have hB : ¬ (0 < (cntP l).up + (cntP l).dn ∧ pi = 2) := hc8
                  refine CW.skip ?_
                  refine kh34 _ _ _ ?_
                  refine CW.seq fun kK41 kh41 => ?_
                  refine CW.regionKC 3 5 rfl hmix fun kR42 kr42 hS hdr => ?_  -- region 19
                  have hch := hch.trans (Chg.any hdr)
                  have hb3 := hb3.keep0 hdr
                  have hb5 := hb5.keep0 hdr
                  have hb7 := hb7.keep0 hdr
                  have hb23 := hb23.keep0 hdr
                  have hch_r := hch
                  have hb3_r := hb3
                  have hb5_r := hb5
                  have hb7_r := hb7
                  have hb23_r := hb23
                  refine WK.take 0 rfl (by kernel_rfl) (by kernel_rfl) (by kernel_rfl) (by kernel_rfl) (by kernel_rfl) (by kernel_rfl) hS (fun w' hw' => Ev.move rfl) rfl ?_
                  refine WK.take 1 rfl (by kernel_rfl) (by kernel_rfl) (by kernel_rfl) (by kernel_rfl) (by kernel_rfl) (by kernel_rfl) hS (fun w' hw' => Ev.loadA rfl rfl (hb7_r.keep0 hw') rfl) rfl ?_
                  refine WK.take 2 rfl (by kernel_rfl) (by kernel_rfl) (by kernel_rfl) (by kernel_rfl) (by kernel_rfl) (by kernel_rfl) hS (fun w' hw' => Ev.assign rfl) rfl ?_
                  refine WK.storeB 3 rfl (by kernel_rfl) (by kernel_rfl) rfl rfl rfl (by intro v hv; simp only [List.mem_cons, List.not_mem_nil, or_false] at hv; rcases hv with rfl | rfl | rfl | rfl | rfl | rfl <;> first | rfl | assumption | exact NU.one (by assumption)) hb5 (by simp) rfl fun ws20 hb5_ hcs20 => ?_
                  try simp only [Sx.splice, List.set_cons_zero, List.set_cons_succ, Nat.zero_add] at hb5_
                  have hch := hch.step hcs20 (fun y hy => by simp only [List.mem_singleton] at hy; subst hy; first | exact .inr (by first | assumption | omega) | exact .inl (by simp))
                  have hb3 := hb3.keep hcs20 (by simp; omega)
                  have hb7 := hb7.keep hcs20 (by simp; omega)
                  have hb23 := hb23.keep hcs20 (by simp; omega)
                  have hb5 := hb5_
                  refine WK.after 4 rfl (by kernel_rfl) (by kernel_rfl) (Ev.assign rfl) rfl ?_
                  refine WK.done (by kernel_rfl) (kr42 _ _ _ ?_)
                  refine kh41 _ _ _ ?_
                  refine CW.ret ?_
                  refine bodyA.retR3 rfl (RVal.tmp rfl) (RVal.cell rfl (hb5.varA rfl rfl)) (RVal.tmp rfl) ?_
                  refine .inr ⟨by unfold siftE; rw [if_neg hM, if_neg hL, if_neg hA, if_neg hB], _, ?_, rfl, hch⟩
                  have := NF.part hb23.row (by rw [htk]; exact fun x hx => hWl x (List.mem_filter.1 hx).1) (by omega) (k := (filP l).length) (by omega) (c := l.length) (by omega)
                  rw [htk] at this
                  exact this

end Go.Proofs.YtkkklaodligpdaaDoor

/- Whole numbers in words of 64 bits: two's complement. No condition. -/
namespace Go.Proofs.YtkkklaodligpdaaDoor
open Wd
set_option linter.unusedVariables false
set_option linter.unusedSimpArgs false
set_option exponentiation.threshold 5000

/-- The value of words of 64 bits, the lowest first. -/
def tv : List Nat → Nat
  | [] => 0
  | a :: l => a + 18446744073709551616 * tv l
/-- All words are words. -/
def W64 (l : List Nat) : Prop := ∀ x ∈ l, x < 18446744073709551616
theorem W64.getD {l : List Nat} (h : W64 l) (i : Nat) : l.getD i 0 < 18446744073709551616 := by
  rw [List.getD_eq_getElem?_getD]
  cases q : l[i]? with
  | none => simp
  | some x => exact h x (List.mem_of_getElem? q)
theorem W64.set {l : List Nat} (h : W64 l) {i v : Nat} (hv : v < 18446744073709551616) : W64 (l.set i v) := fun x hx => by
  rcases List.mem_or_eq_of_mem_set hx with q | q
  · exact h x q
  · exact q ▸ hv
theorem tv_set : ∀ {l : List Nat} {i v : Nat}, i < l.length → tv (l.set i v) + l.getD i 0 * 18446744073709551616 ^ i = tv l + v * 18446744073709551616 ^ i
  | a :: l, 0, v, h => by simp [tv]; omega
  | a :: l, i + 1, v, h => by
    have := tv_set (l := l) (i := i) (v := v) (by simpa using h)
    simp only [List.set_cons_succ, tv, List.getD_cons_succ, Nat.pow_succ]
    generalize 18446744073709551616 ^ i = B at this ⊢
    rw [show l.getD i 0 * (B * 18446744073709551616) = 18446744073709551616 * (l.getD i 0 * B) by ac_rfl, show v * (B * 18446744073709551616) = 18446744073709551616 * (v * B) by ac_rfl]
    omega
theorem tv_lt : ∀ {l : List Nat}, W64 l → tv l < 18446744073709551616 ^ l.length
  | [], h => by simp [tv]
  | a :: l, h => by
    have h1 := tv_lt (l := l) (fun x hx => h x (List.mem_cons_of_mem _ hx))
    have h2 := h a (List.mem_cons_self ..)
    simp only [tv, List.length_cons, Nat.pow_succ]
    generalize 18446744073709551616 ^ l.length = B at h1 ⊢
    omega
theorem tv_append (a b : List Nat) : tv (a ++ b) = tv a + 18446744073709551616 ^ a.length * tv b := by
  induction a with
  | nil => simp [tv]
  | cons x a ih =>
    simp only [List.cons_append, tv, ih, List.length_cons, Nat.pow_succ]
    rw [Nat.mul_add, Nat.add_assoc]
    congr 2
    ac_rfl
theorem tv_take {l : List Nat} {i : Nat} (h : i < l.length) : tv (l.take (i + 1)) = tv (l.take i) + l.getD i 0 * 18446744073709551616 ^ i := by
  have : l.take (i + 1) = l.take i ++ [l.getD i 0] := by
    rw [List.take_add_one, List.getD_eq_getElem?_getD, List.getElem?_eq_getElem h]; rfl
  rw [this, tv_append, List.length_take, Nat.min_eq_left (by omega)]
  simp [tv, Nat.mul_comm]
theorem tv_zero (n : Nat) : tv (List.replicate n 0) = 0 := by
  induction n with
  | zero => rfl
  | succ n ih => simp [List.replicate_succ, tv, ih]

/-! ### Adding and taking a term -/
/-- The first k of a term's words, where they lie. -/
def trm (W : List Nat) (at_ : Nat) : Nat → Nat
  | 0 => 0
  | k + 1 => trm W at_ k + W.getD k 0 * 18446744073709551616 ^ (at_ + k)
theorem trm3 {W : List Nat} {at_ : Nat} (h : W.length = 3) : ∀ k, trm W at_ (3 + k) = tv W * 18446744073709551616 ^ at_
  | 0 => by
    match W, h with
    | [a, b, c], _ =>
      simp only [trm, tv, List.getD_cons_zero, List.getD_cons_succ, Nat.pow_add]
      generalize 18446744073709551616 ^ at_ = B
      simp only [Nat.pow_zero, Nat.pow_one, Nat.add_zero, Nat.mul_zero, Nat.mul_one, Nat.zero_add]
      rw [Nat.add_mul, Nat.mul_add, Nat.add_mul]
      have e1 : b * (B * 18446744073709551616) = 18446744073709551616 * b * B := by ac_rfl
      have e2 : c * (B * 18446744073709551616 ^ 2) = 18446744073709551616 * (18446744073709551616 * c) * B := by
        rw [show (18446744073709551616 : Nat) ^ 2 = 18446744073709551616 * 18446744073709551616 from rfl]; ac_rfl
      rw [e1, e2]; omega
  | k + 1 => by
    rw [show 3 + (k + 1) = (3 + k) + 1 by omega, trm, trm3 h k]
    have : W.getD (3 + k) 0 = 0 := by rw [List.getD_eq_getElem?_getD, List.getElem?_eq_none (by omega)]; rfl
    rw [this]; omega
/-- The state of adding: words C, carry c, i words done. -/
structure MvA (L W : List Nat) (at_ : Nat) (C : List Nat) (c i : Nat) : Prop where
  len : C.length = L.length
  w : W64 C
  lo : at_ ≤ i
  hi : i ≤ L.length
  c1 : c ≤ 1
  eq : tv C + c * 18446744073709551616 ^ i = tv L + trm W at_ (i - at_)
theorem MvA.zero {L W : List Nat} {at_ : Nat} (h : W64 L) (ha : at_ ≤ L.length) : MvA L W at_ L 0 at_ := ⟨rfl, h, Nat.le_refl _, ha, by omega, by rw [Nat.sub_self]; simp [trm]⟩
theorem MvA.step {L W C : List Nat} {at_ c i : Nat} (h : MvA L W at_ C c i) (hi : i < L.length) (hw : W.getD (i - at_) 0 < 18446744073709551616) :
    MvA L W at_ (C.set i ((C.getD i 0 + W.getD (i - at_) 0 + c) % 18446744073709551616)) ((C.getD i 0 + W.getD (i - at_) 0 + c) / 18446744073709551616) (i + 1) := by
  obtain ⟨h1, h2, h3, h4, h5, h6⟩ := h
  have hc := h2.getD i
  refine ⟨by simpa using h1, h2.set (Nat.mod_lt _ (by decide)), by omega, by omega, by omega, ?_⟩
  have hs := tv_set (l := C) (i := i) (v := (C.getD i 0 + W.getD (i - at_) 0 + c) % 18446744073709551616) (by omega)
  rw [show i + 1 - at_ = (i - at_) + 1 by omega, trm, show at_ + (i - at_) = i by omega, Nat.pow_succ]
  generalize C.getD i 0 = x at hs hc ⊢
  generalize W.getD (i - at_) 0 = y at hw hs ⊢
  have e : (x + y + c) / 18446744073709551616 * 18446744073709551616 + (x + y + c) % 18446744073709551616 = x + y + c := Nat.div_add_mod' _ _
  generalize (x + y + c) / 18446744073709551616 = q at e ⊢
  generalize (x + y + c) % 18446744073709551616 = r at e hs ⊢
  generalize trm W at_ (i - at_) = z at h6 ⊢
  generalize 18446744073709551616 ^ i = B at h6 hs ⊢
  have e2 : q * (B * 18446744073709551616) = q * 18446744073709551616 * B := by ac_rfl
  have e3 : (q * 18446744073709551616 + r) * B = (x + y + c) * B := by rw [e]
  rw [Nat.add_mul] at e3
  rw [Nat.add_mul, Nat.add_mul] at e3
  omega
/-- The state of taking. -/
structure MvS (L W : List Nat) (at_ : Nat) (C : List Nat) (c i : Nat) : Prop where
  len : C.length = L.length
  w : W64 C
  lo : at_ ≤ i
  hi : i ≤ L.length
  c1 : c ≤ 1
  eq : tv C + trm W at_ (i - at_) = tv L + c * 18446744073709551616 ^ i
theorem MvS.zero {L W : List Nat} {at_ : Nat} (h : W64 L) (ha : at_ ≤ L.length) : MvS L W at_ L 0 at_ := ⟨rfl, h, Nat.le_refl _, ha, by omega, by rw [Nat.sub_self]; simp [trm]⟩
theorem MvS.step {L W C : List Nat} {at_ c i : Nat} (h : MvS L W at_ C c i) (hi : i < L.length) (hw : W.getD (i - at_) 0 < 18446744073709551616) {d b : Nat} (hd : d < 18446744073709551616) (hb : b ≤ 1)
    (e : C.getD i 0 + b * 18446744073709551616 = d + W.getD (i - at_) 0 + c) : MvS L W at_ (C.set i d) b (i + 1) := by
  obtain ⟨h1, h2, h3, h4, h5, h6⟩ := h
  have hc := h2.getD i
  refine ⟨by simpa using h1, h2.set hd, by omega, by omega, hb, ?_⟩
  have hs := tv_set (l := C) (i := i) (v := d) (by omega)
  rw [show i + 1 - at_ = (i - at_) + 1 by omega, trm, show at_ + (i - at_) = i by omega, Nat.pow_succ]
  generalize C.getD i 0 = x at hs hc e ⊢
  generalize W.getD (i - at_) 0 = y at hw e ⊢
  generalize trm W at_ (i - at_) = z at h6 ⊢
  generalize 18446744073709551616 ^ i = B at h6 hs ⊢
  have e2 : b * (B * 18446744073709551616) = b * 18446744073709551616 * B := by ac_rfl
  have e3 : (x + b * 18446744073709551616) * B = (d + y + c) * B := by rw [e]
  rw [Nat.add_mul, Nat.add_mul, Nat.add_mul] at e3
  omega

/-- A value of 128 bits, shifted within three words. -/
def laidW (hi lo by_ : Nat) : List Nat := [lo * 2 ^ by_ % 18446744073709551616, (hi * 2 ^ by_ % 18446744073709551616) ||| (lo / 2 ^ (64 - by_)), hi / 2 ^ (64 - by_)]
theorem laid_or {hi lo k : Nat} (h : lo < 18446744073709551616) (hk : k < 64) : (hi * 2 ^ k % 18446744073709551616) ||| (lo / 2 ^ (64 - k)) = hi * 2 ^ k % 18446744073709551616 + lo / 2 ^ (64 - k) := by
  have e : (18446744073709551616 : Nat) = 2 ^ (64 - k) * 2 ^ k := by rw [← Nat.pow_add, show 64 - k + k = 64 by omega]
  have hp := Nat.two_pow_pos k
  have hq := Nat.two_pow_pos (64 - k)
  have h1 : hi * 2 ^ k % 18446744073709551616 = hi % 2 ^ (64 - k) * 2 ^ k := by rw [e, Nat.mul_mod_mul_right]
  have h2 : lo / 2 ^ (64 - k) < 2 ^ k := by
    rw [Nat.div_lt_iff_lt_mul hq, Nat.mul_comm, ← e]; exact h
  rw [h1, Nat.or_comm, or_of_mul h2, Nat.add_comm]
theorem laidW_val {hi lo k : Nat} (h : lo < 18446744073709551616) (hk : k < 64) : tv (laidW hi lo k) = (hi * 18446744073709551616 + lo) * 2 ^ k := by
  have e : (18446744073709551616 : Nat) = 2 ^ (64 - k) * 2 ^ k := by rw [← Nat.pow_add, show 64 - k + k = 64 by omega]
  simp only [laidW, tv, laid_or h hk]
  have h1 : hi * 2 ^ k % 18446744073709551616 + 18446744073709551616 * (hi / 2 ^ (64 - k)) = hi * 2 ^ k := by
    have h1 : hi * 2 ^ k % 18446744073709551616 = hi % 2 ^ (64 - k) * 2 ^ k := by rw [e, Nat.mul_mod_mul_right]
    have := Nat.mod_add_div hi (2 ^ (64 - k))
    rw [h1]
    calc _ = (hi % 2 ^ (64 - k) + 2 ^ (64 - k) * (hi / 2 ^ (64 - k))) * 2 ^ k := by rw [Nat.add_mul]; congr 1; rw [e]; ac_rfl
      _ = _ := by rw [this]
  have h2 : lo * 2 ^ k % 18446744073709551616 + 18446744073709551616 * (lo / 2 ^ (64 - k)) = lo * 2 ^ k := by
    have h1 : lo * 2 ^ k % 18446744073709551616 = lo % 2 ^ (64 - k) * 2 ^ k := by rw [e, Nat.mul_mod_mul_right]
    have := Nat.mod_add_div lo (2 ^ (64 - k))
    rw [h1]
    calc _ = (lo % 2 ^ (64 - k) + 2 ^ (64 - k) * (lo / 2 ^ (64 - k))) * 2 ^ k := by rw [Nat.add_mul]; congr 1; rw [e]; ac_rfl
      _ = _ := by rw [this]
  rw [Nat.add_mul]
  generalize hi / 2 ^ (64 - k) = p at h1 ⊢
  generalize lo / 2 ^ (64 - k) = q at h2 ⊢
  generalize lo * 2 ^ k % 18446744073709551616 = r at h2 ⊢
  generalize hi * 2 ^ k % 18446744073709551616 = t at h1 ⊢
  rw [show hi * 18446744073709551616 * 2 ^ k = 18446744073709551616 * (hi * 2 ^ k) by ac_rfl]
  generalize hi * 2 ^ k = a at h1 ⊢
  generalize lo * 2 ^ k = b at h2 ⊢
  omega
theorem laidW_w {hi lo k : Nat} (h : lo < 18446744073709551616) (h2 : hi < 18446744073709551616) (hk : k < 64) : W64 (laidW hi lo k) := by
  intro x hx
  simp only [laidW, List.mem_cons, List.not_mem_nil, or_false] at hx
  rcases hx with q | q | q
  · rw [q]; exact Nat.mod_lt _ (by decide)
  · rw [q]
    exact Nat.or_lt_two_pow (n := 64) (Nat.mod_lt _ (by decide)) (Nat.lt_of_le_of_lt (Nat.div_le_self _ _) h)
  · rw [q]; exact Nat.lt_of_le_of_lt (Nat.div_le_self _ _) h2

/-! ### Turning the sign -/
structure MinI (L C : List Nat) (c i : Nat) : Prop where
  len : C.length = L.length
  w : W64 C
  hi : i ≤ L.length
  c1 : c ≤ 1
  same : ∀ j, i ≤ j → C.getD j 0 = L.getD j 0
  eq : tv C + c * 18446744073709551616 ^ i + 2 * tv (L.take i) = tv L + 18446744073709551616 ^ i
theorem MinI.zero {L : List Nat} (h : W64 L) : MinI L L 1 0 := ⟨rfl, h, Nat.zero_le _, by omega, fun _ _ => rfl, by simp [tv]⟩
theorem min_lin {a r x y c : Nat} (e : a + r = y + 0 + c) (hy : y + x = 18446744073709551615) : a + r + x + 1 = 18446744073709551616 + c := by
  rw [e]
  omega
theorem MinI.step {L C : List Nat} {c i y : Nat} (h : MinI L C c i) (hi : i < L.length) (hy : y + C.getD i 0 = 18446744073709551615) :
    MinI L (C.set i ((y + 0 + c) % 18446744073709551616)) ((y + 0 + c) / 18446744073709551616) (i + 1) := by
  obtain ⟨h1, h2, h3, h4, h5, h6⟩ := h
  have hc := h2.getD i
  refine ⟨by simpa using h1, h2.set (Nat.mod_lt _ (by decide)), by omega, by omega, fun j hj => ?_, ?_⟩
  · rw [← h5 j (by omega)]; simp only [List.getD_eq_getElem?_getD, List.getElem?_set_ne (show i ≠ j by omega)]
  have hs := tv_set (l := C) (i := i) (v := (y + 0 + c) % 18446744073709551616) (by omega)
  rw [tv_take hi, ← h5 i (Nat.le_refl _), Nat.pow_succ]
  generalize C.getD i 0 = x at hs hc hy ⊢
  have e : (y + 0 + c) / 18446744073709551616 * 18446744073709551616 + (y + 0 + c) % 18446744073709551616 = y + 0 + c := Nat.div_add_mod' _ _
  generalize (y + 0 + c) / 18446744073709551616 = q at e ⊢
  generalize (y + 0 + c) % 18446744073709551616 = r at e hs ⊢
  generalize tv (L.take i) = z at h6 ⊢
  generalize 18446744073709551616 ^ i = B at h6 hs ⊢
  have e2 : q * (B * 18446744073709551616) = q * 18446744073709551616 * B := by ac_rfl
  have e4 : q * 18446744073709551616 + r + x + 1 = 18446744073709551616 + c := min_lin e hy
  have e3 : (q * 18446744073709551616 + r + x + 1) * B = (18446744073709551616 + c) * B := congrArg (fun t => t * B) e4
  have e5 : (q * 18446744073709551616 + r + x + 1) * B = q * 18446744073709551616 * B + r * B + x * B + B := by simp only [Nat.add_mul, Nat.one_mul]
  have e6 : (18446744073709551616 + c) * B = 18446744073709551616 * B + c * B := Nat.add_mul _ _ _
  omega
theorem MinI.done {L C : List Nat} {c : Nat} (h : MinI L C c L.length) (hL : W64 L) : tv C = (18446744073709551616 ^ L.length - tv L) % 18446744073709551616 ^ L.length := by
  obtain ⟨h1, h2, h3, h4, h5, h6⟩ := h
  rw [List.take_length] at h6
  have hl := tv_lt hL
  have hc := tv_lt h2
  rw [h1] at hc
  generalize 18446744073709551616 ^ L.length = B at h6 hl hc ⊢
  rcases (show c = 0 ∨ c = 1 by omega) with q | q
  · subst q
    rw [Nat.mod_eq_of_lt (by omega)]; omega
  · subst q
    have : tv L = 0 := by omega
    rw [this, Nat.sub_zero, Nat.mod_self]; omega
end Go.Proofs.YtkkklaodligpdaaDoor

/- Package super: New, laid, one. No condition. -/
namespace Go.Proofs.YtkkklaodligpdaaDoor
open Go Sx Wd
set_option linter.unusedVariables false
set_option linter.unusedSimpArgs false
set_option exponentiation.threshold 5000

theorem splitP_fin {x : Nat} (h : (splitP x).cls = 1 ∨ (splitP x).cls = 2) : -1074 ≤ (splitP x).exp ∧ (splitP x).exp ≤ 971 ∧ 0 < (splitP x).frac ∧ (splitP x).frac < 9007199254740992 := by
  revert h
  unfold splitP
  split
  · intro h; simp at h
  split
  · intro h; simp at h
  split
  · intro h; dsimp only; omega
  split
  · intro h; dsimp only; omega
  · intro h; simp at h
theorem splitP_cls (x : Nat) : (splitP x).cls ≤ 4 := by
  unfold splitP
  split
  · simp
  split
  · simp
  split
  · simp
  split <;> simp
/-- A term's cells: whether it is below nought, its place, its words. -/
def termV (neg : Bool) (at_ : Nat) (W : List Nat) : List Value := .bool neg :: .int .i64 (at_ : Int) :: W.map u64v
/-- What is added or taken. -/
structure TH where
  cls : Nat
  neg : Bool
  tn : Bool
  at_ : Nat
  W : List Nat
def thingV (t : TH) : List Value := .int .i64 (t.cls : Int) :: .bool t.neg :: termV t.tn t.at_ t.W
def oneP (x : Nat) : TH :=
  if (splitP x).cls = 1 ∨ (splitP x).cls = 2 then ⟨(splitP x).cls, (splitP x).neg, (splitP x).neg, ((splitP x).exp + 2148).toNat / 64, laidW 0 (splitP x).frac (((splitP x).exp + 2148).toNat % 64)⟩
  else ⟨(splitP x).cls, (splitP x).neg, false, 0, [0, 0, 0]⟩

set_option maxRecDepth 8000 in
theorem laid_spec (neg : Bool) (hi lo e : Nat) (exp : Int) (w : World) (he : exp = (e : Int) - 2148) (he2 : e < 9000) (hhi : hi < 18446744073709551616) (hlo : lo < 18446744073709551616) : Ret Tryd.prog 59 [.bool neg, .int .u64 (hi : Int), .int .u64 (lo : Int), .int .i64 exp] w fun u w' => u = .agg (termV neg (e / 64) (laidW hi lo (e % 64))).toArray ∧ Chg [] w w' := by
  have hA : hi * 2 ^ (e % 64) % 18446744073709551616 < 2 ^ IntKind.u64.bits := Nat.mod_lt _ (by decide)
  have hB : lo / 2 ^ (64 - e % 64) < 2 ^ IntKind.u64.bits := Nat.lt_of_le_of_lt (Nat.div_le_self _ _) hlo
  have hch : Chg [] w w := Chg.refl _ _
  refine Ret.enter Tryd.func59 rfl rfl ?_
  simp only [args0, Nat.zero_add, Nat.reduceAdd]
  refine CW.seq fun kK1 kh1 => ?_
  refine CW.region fun kR2 kr2 => ?_  -- region 0
  refine WL.allocB (l := [.bool false, .int .i64 0, .int .u64 0, .int .u64 0, .int .u64 0]) rfl rfl fun b8 wm8 hb8 hcm8 hge8 => ?_
  have hgehch8 := Nat.le_trans hch.size hge8
  have hch := hch.trans (Chg.any hcm8)
  refine WL.nil (kr2 _ _ _ ?_)
  refine kh1 _ _ _ ?_
  refine CW.seq fun kK3 kh3 => ?_
  refine CW.region fun kR4 kr4 => ?_  -- region 1
  refine WL.ev (Ev.move rfl) rfl ?_
  refine WL.ev (Ev.subIn rfl rfl (by omega)) rfl ?_
  rw [show exp - -2148 = (e : Int) by omega]
  refine WL.ev (Ev.convIn rfl rfl (in_u64 (by omega))) rfl ?_
  refine WL.ev (Ev.remU (b := 64) rfl rfl (by omega)) rfl ?_
  refine WL.ev (Ev.assign rfl) rfl ?_
  refine WL.nil (kr4 _ _ _ ?_)
  refine kh3 _ _ _ ?_
  refine CW.seq fun kK5 kh5 => ?_
  refine CW.region fun kR6 kr6 => ?_  -- region 2
  refine WL.ev (Ev.move rfl) rfl ?_
  refine WL.ev (Ev.move rfl) rfl ?_
  refine WL.ev (Ev.subIn rfl rfl (by omega)) rfl ?_
  rw [show exp - -2148 = (e : Int) by omega]
  first | refine WL.ev (Ev.quoIn rfl rfl (by omega) (by simp only [IntKind.max, IntKind.signed, IntKind.bits]; omega) (by omega)) rfl ?_ | refine WL.ev (Ev.quo rfl rfl (by omega)) rfl ?_
  refine WL.ev (Ev.move rfl) rfl ?_
  refine WL.ev (Ev.move rfl) rfl ?_
  refine WL.ev (Ev.shlU64 rfl rfl) rfl ?_
  refine WL.ev (Ev.move rfl) rfl ?_
  refine WL.ev (Ev.move rfl) rfl ?_
  refine WL.ev (Ev.shlU64 rfl rfl) rfl ?_
  refine WL.ev (Ev.move rfl) rfl ?_
  refine WL.ev (Ev.move rfl) rfl ?_
  first | refine WL.ev (Ev.sub64In (a := 64) rfl rfl (by omega) (by omega)) rfl ?_ | refine WL.ev (Ev.sub64 (a := 64) rfl rfl (by omega)) rfl ?_
  refine WL.ev (Ev.shrU rfl rfl (by simp only [IntKind.bits]; omega)) rfl ?_
  refine WL.ev (Ev.orU rfl rfl rfl hA hB) rfl ?_
  refine WL.ev (Ev.move rfl) rfl ?_
  refine WL.ev (Ev.move rfl) rfl ?_
  first | refine WL.ev (Ev.sub64In (a := 64) rfl rfl (by omega) (by omega)) rfl ?_ | refine WL.ev (Ev.sub64 (a := 64) rfl rfl (by omega)) rfl ?_
  refine WL.ev (Ev.shrU rfl rfl (by simp only [IntKind.bits]; omega)) rfl ?_
  refine WL.ev (Ev.buildA (vs := _) (cs := [_, _, _]) rfl rfl) rfl ?_
  refine WL.ev (Ev.build (vs := _) (cs := [_, _, _, _, _]) rfl rfl) rfl ?_
  refine WL.storeB rfl rfl rfl (by intro v hv; simp only [List.mem_cons, List.not_mem_nil, or_false] at hv; rcases hv with rfl | rfl | rfl | rfl | rfl <;> first | rfl | assumption | exact NU.one (by assumption)) hb8 (by simp) rfl fun ws1 hb8_ hcs1 => ?_
  try simp only [Sx.splice, List.set_cons_zero, List.set_cons_succ, Nat.zero_add] at hb8_
  have hch := hch.step hcs1 (fun y hy => by simp only [List.mem_singleton] at hy; subst hy; first | exact .inr (by first | assumption | omega) | exact .inl (by simp))
  have hb8 := hb8_
  refine WL.nil (kr6 _ _ _ ?_)
  refine kh5 _ _ _ ?_
  refine CW.ret ?_
  refine bodyA.retR1 rfl (RVal.cell rfl (hb8.varA rfl rfl)) ?_
  exact ⟨rfl, hch⟩

set_option maxRecDepth 8000 in
theorem New_spec (w : World) : Ret Tryd.prog 21 [] w fun u w' => ∃ b, u = .pointer (some ⟨b, 0, none⟩) ∧ BK w' b 77 ((List.replicate 67 0).map u64v ++ SP.zero.cells) ∧ w.heap.size ≤ b ∧ Chg [] w w' := by
  have hch : Chg [] w w := Chg.refl _ _
  refine Ret.enter Tryd.func21 rfl rfl ?_
  simp only [args0, Nat.zero_add, Nat.reduceAdd]
  refine CW.seq fun kK1 kh1 => ?_
  refine CW.region fun kR2 kr2 => ?_  -- region 0
  refine WL.ev (Ev.assign rfl) rfl ?_
  refine WL.nil (kr2 _ _ _ ?_)
  refine kh1 _ _ _ ?_
  refine CW.seq fun kK3 kh3 => ?_
  refine CW.region fun kR4 kr4 => ?_  -- region 1
  refine WL.ev (Ev.build (vs := _) (cs := [_, _, _, _, _, _, _, _, _, _, _, _, _, _, _, _, _, _, _, _, _, _, _, _, _, _, _, _, _, _, _, _, _, _, _, _, _, _, _, _, _, _, _, _, _, _, _, _, _, _, _, _, _, _, _, _, _, _, _, _, _, _, _, _, _, _, _, _, _, _, _, _, _]) rfl rfl) rfl ?_
  refine WL.boxB rfl rfl rfl fun b2 wm2 hb2 hcm2 hge2 => ?_
  have hgehch2 := Nat.le_trans hch.size hge2
  have hch := hch.trans (Chg.any hcm2)
  refine WL.ev (Ev.assign rfl) rfl ?_
  refine WL.nil (kr4 _ _ _ ?_)
  refine kh3 _ _ _ ?_
  refine CW.ret ?_
  refine bodyA.ret1 rfl rfl ?_
  exact ⟨_, rfl, hb2, hge2, hch⟩

set_option maxRecDepth 8000 in
theorem one_spec (x : Nat) (w : World) (hx : x < 18446744073709551616) : Ret Tryd.prog 53 [.float .f64 x] w fun u w' => u = .agg (thingV (oneP x)).toArray ∧ Chg [] w w' := by
  have hch : Chg [] w w := Chg.refl _ _
  have hsf := @splitP_fin x
  refine Ret.enter Tryd.func53 rfl rfl ?_
  simp only [args0, Nat.zero_add, Nat.reduceAdd]
  refine CW.seq fun kK1 kh1 => ?_
  refine CW.region fun kR2 kr2 => ?_  -- region 0
  refine WL.allocB (l := [.int .i64 0, .bool false, .bool false, .int .i64 0, .int .u64 0, .int .u64 0, .int .u64 0]) rfl rfl fun b2 wm2 hb2 hcm2 hge2 => ?_
  have hgehch2 := Nat.le_trans hch.size hge2
  have hch := hch.trans (Chg.any hcm2)
  refine WL.nil (kr2 _ _ _ ?_)
  refine kh1 _ _ _ ?_
  refine CW.seq fun kK3 kh3 => ?_
  refine CW.region fun kR4 kr4 => ?_  -- region 1
  refine WL.ev (Ev.move rfl) rfl ?_
  refine WL.call hasF48 rfl rfl (Split_spec x _ hx) fun v w1 h' => ?_
  obtain ⟨rfl, hC6⟩ := h'
  have hch := hch.trans (Chg.any hC6)
  have hb2 := hb2.keep0 hC6
  refine WL.allocB (l := [.bool false, .int .i64 0, .int .i64 0, .int .u64 0]) rfl rfl fun b3 wm3 hb3 hcm3 hge3 => ?_
  have hgehch3 := Nat.le_trans hch.size hge3
  have hch := hch.trans (Chg.any hcm3)
  have hneb23 : b2 ≠ b3 := by have := hb2.lt; omega
  have hb2 := hb2.keep0 hcm3
  refine WL.storeB rfl rfl rfl (by intro v hv; simp only [List.mem_cons, List.not_mem_nil, or_false] at hv; rcases hv with rfl | rfl | rfl | rfl <;> first | rfl | assumption | exact NU.one (by assumption)) hb3 (by simp) rfl fun ws2 hb3_ hcs2 => ?_
  try simp only [Sx.splice, List.set_cons_zero, List.set_cons_succ, Nat.zero_add] at hb3_
  have hch := hch.step hcs2 (fun y hy => by simp only [List.mem_singleton] at hy; subst hy; first | exact .inr (by first | assumption | omega) | exact .inl (by simp))
  have hb2 := hb2.keep hcs2 (by simp; omega)
  have hb3 := hb3_
  refine WL.nil (kr4 _ _ _ ?_)
  refine kh3 _ _ _ ?_
  refine CW.seq fun kK5 kh5 => ?_
  refine CW.region fun kR6 kr6 => ?_  -- region 2
  refine WL.ev (Ev.fieldAddr rfl) rfl ?_
  refine WL.ev (Ev.load rfl rfl (hb3.at_ rfl)) rfl ?_
  refine WL.ev (Ev.fieldAddr rfl) rfl ?_
  refine WL.ev (Ev.load rfl rfl (hb3.at_ rfl)) rfl ?_
  refine WL.ev (Ev.build (vs := _) (cs := [_, _, _, _, _, _, _]) rfl rfl) rfl ?_
  refine WL.allocB (l := [.int .i64 0, .bool false, .bool false, .int .i64 0, .int .u64 0, .int .u64 0, .int .u64 0]) rfl rfl fun b4 wm4 hb4 hcm4 hge4 => ?_
  have hgehch4 := Nat.le_trans hch.size hge4
  have hch := hch.trans (Chg.any hcm4)
  have hneb24 : b2 ≠ b4 := by have := hb2.lt; omega
  have hb2 := hb2.keep0 hcm4
  have hneb34 : b3 ≠ b4 := by have := hb3.lt; omega
  have hb3 := hb3.keep0 hcm4
  refine WL.storeB rfl rfl rfl (by intro v hv; simp only [List.mem_cons, List.not_mem_nil, or_false] at hv; rcases hv with rfl | rfl | rfl | rfl | rfl | rfl | rfl <;> first | rfl | assumption | exact NU.one (by assumption)) hb4 (by simp) rfl fun ws3 hb4_ hcs3 => ?_
  try simp only [Sx.splice, List.set_cons_zero, List.set_cons_succ, Nat.zero_add] at hb4_
  have hch := hch.step hcs3 (fun y hy => by simp only [List.mem_singleton] at hy; subst hy; first | exact .inr (by first | assumption | omega) | exact .inl (by simp))
  have hb2 := hb2.keep hcs3 (by simp; omega)
  have hb3 := hb3.keep hcs3 (by simp; omega)
  have hb4 := hb4_
  refine WL.nil (kr6 _ _ _ ?_)
  refine kh5 _ _ _ ?_
  refine CW.seq fun kK7 kh7 => ?_
  refine CW.seqM 19 (decide ((splitP x).cls = 1 ∨ (splitP x).cls = 2)) ?_ ?_
  ·
    refine CW.region fun kR8 kr8 => ?_  -- region 3
    refine WL.ev (Ev.fieldAddr rfl) rfl ?_
    refine WL.ev (Ev.load rfl rfl (hb3.at_ rfl)) rfl ?_
    refine WL.ev (Ev.eql rfl rfl) rfl ?_
    refine WL.ev (Ev.move rfl) rfl ?_
    refine WL.boolCase (fun hg1 => ?_) (fun hg1 => ?_)
    ·
      try simp only [decide_eq_true_eq, decide_eq_false_iff_not, Decidable.not_not, Bool.and_eq_true, Bool.or_eq_true, Bool.not_eq_true', Bool.not_eq_false', ne_eq, Int.not_lt, Int.not_le] at hg1
      refine WL.pass rfl rfl rfl rfl rfl ?_
      refine WL.pass rfl rfl rfl rfl rfl ?_
      refine WL.pass rfl rfl rfl rfl rfl ?_
      refine WL.ev (Ev.pickT rfl rfl rfl) rfl ?_
      refine WL.nil (kr8 _ _ _ ?_)
      refine ⟨rfl, rfl, Subs.consB rfl ?_ ?_⟩
      ·
        first | (simp; omega) | (refine decide_eq_decide.2 ?_; omega)
      ·
        first | ((repeat (first | exact Subs.refl | refine Subs.drop1 (by rfl) ?_)); done) | ((repeat (first | exact Subs.nil | refine Subs.cons rfl ?_)); done)
    ·
      try simp only [decide_eq_true_eq, decide_eq_false_iff_not, Decidable.not_not, Bool.and_eq_true, Bool.or_eq_true, Bool.not_eq_true', Bool.not_eq_false', ne_eq, Int.not_lt, Int.not_le] at hg1
      refine WL.want rfl rfl rfl rfl ?_
      refine WL.ev (Ev.fieldAddr rfl) rfl ?_
      refine WL.want rfl rfl rfl rfl ?_
      refine WL.ev (Ev.load rfl rfl (hb3.at_ rfl)) rfl ?_
      refine WL.want rfl rfl rfl rfl ?_
      refine WL.ev (Ev.eql rfl rfl) rfl ?_
      refine WL.ev (Ev.pickF rfl rfl rfl) rfl ?_
      refine WL.nil (kr8 _ _ _ ?_)
      refine ⟨rfl, rfl, Subs.consB rfl ?_ ?_⟩
      ·
        first | (simp; omega) | (refine decide_eq_decide.2 ?_; omega)
      ·
        first | ((repeat (first | exact Subs.refl | refine Subs.drop1 (by rfl) ?_)); done) | ((repeat (first | exact Subs.nil | refine Subs.cons rfl ?_)); done)
  ·
    refine CW.cond rfl (fun hc2 => ?_) (fun hc2 => ?_)  -- if 19
    ·
      try simp only [decide_eq_true_eq, decide_eq_false_iff_not, Decidable.not_not, Bool.and_eq_true, Bool.or_eq_true, Bool.not_eq_true', Bool.not_eq_false', ne_eq, Int.not_lt, Int.not_le] at hc2
      have hcl : (splitP x).cls = 1 ∨ (splitP x).cls = 2 := hc2
      have hsf2 := hsf hcl
      refine CW.region fun kR9 kr9 => ?_  -- region 4
      refine WL.ev (Ev.fieldAddr rfl) rfl ?_
      refine WL.ev (Ev.load rfl rfl (hb3.at_ rfl)) rfl ?_
      refine WL.ev (Ev.fieldAddr rfl) rfl ?_
      refine WL.ev (Ev.load rfl rfl (hb3.at_ rfl)) rfl ?_
      refine WL.ev (Ev.fieldAddr rfl) rfl ?_
      refine WL.ev (Ev.load rfl rfl (hb3.at_ rfl)) rfl ?_
      refine WL.call hasF59 rfl rfl (laid_spec (splitP x).neg 0 (splitP x).frac ((splitP x).exp + 2148).toNat (splitP x).exp _ (by omega) (by omega) (by decide) (by omega)) fun v w2 h' => ?_
      obtain ⟨rfl, hC26⟩ := h'
      show WL _ _ _ _ _ _ ((26, Value.agg [_, _, _, _, _].toArray) :: _) _
      have hch := hch.trans (Chg.any hC26)
      have hb2 := hb2.keep0 hC26
      have hb3 := hb3.keep0 hC26
      have hb4 := hb4.keep0 hC26
      refine WL.ev (Ev.fieldAddr rfl) rfl ?_
      refine WL.storeB rfl rfl rfl (by intro v hv; simp only [List.mem_cons, List.not_mem_nil, or_false] at hv; rcases hv with rfl | rfl | rfl | rfl | rfl <;> first | rfl | assumption | exact NU.one (by assumption)) hb4 (by simp) rfl fun ws4 hb4_ hcs4 => ?_
      try simp only [Sx.splice, List.set_cons_zero, List.set_cons_succ, Nat.zero_add] at hb4_
      have hch := hch.step hcs4 (fun y hy => by simp only [List.mem_singleton] at hy; subst hy; first | exact .inr (by first | assumption | omega) | exact .inl (by simp))
      have hb2 := hb2.keep hcs4 (by simp; omega)
      have hb3 := hb3.keep hcs4 (by simp; omega)
      have hb4 := hb4_
      refine WL.nil (kr9 _ _ _ ?_)
      refine kh7 _ _ _ ?_
      refine CW.seq fun kK10 kh10 => ?_
      refine CW.region fun kR11 kr11 => ?_  -- region 5
      refine WL.ev (Ev.loadA rfl rfl hb4 rfl) rfl ?_
      refine WL.storeB rfl rfl rfl (by intro v hv; simp only [List.mem_cons, List.not_mem_nil, or_false] at hv; rcases hv with rfl | rfl | rfl | rfl | rfl | rfl | rfl <;> first | rfl | assumption | exact NU.one (by assumption)) hb2 (by simp) rfl fun ws5 hb2_ hcs5 => ?_
      try simp only [Sx.splice, List.set_cons_zero, List.set_cons_succ, Nat.zero_add] at hb2_
      have hch := hch.step hcs5 (fun y hy => by simp only [List.mem_singleton] at hy; subst hy; first | exact .inr (by first | assumption | omega) | exact .inl (by simp))
      have hb3 := hb3.keep hcs5 (by simp; omega)
      have hb4 := hb4.keep hcs5 (by simp; omega)
      have hb2 := hb2_
      refine WL.nil (kr11 _ _ _ ?_)
      refine kh10 _ _ _ ?_
      refine CW.ret ?_
      refine bodyA.retR1 rfl (RVal.cell rfl (hb2.varA rfl rfl)) ?_
      refine ⟨?_, hch⟩
      unfold oneP; rw [if_pos hcl]; rfl
    ·
      try simp only [decide_eq_true_eq, decide_eq_false_iff_not, Decidable.not_not, Bool.and_eq_true, Bool.or_eq_true, Bool.not_eq_true', Bool.not_eq_false', ne_eq, Int.not_lt, Int.not_le] at hc2
      have hcl : ¬ ((splitP x).cls = 1 ∨ (splitP x).cls = 2) := fun q => by have q2 := hc2; omega
      refine CW.skip ?_
      refine kh7 _ _ _ ?_
      refine CW.seq fun kK12 kh12 => ?_
      refine CW.region fun kR13 kr13 => ?_  -- region 5
      refine WL.ev (Ev.loadA rfl rfl hb4 rfl) rfl ?_
      refine WL.storeB rfl rfl rfl (by intro v hv; simp only [List.mem_cons, List.not_mem_nil, or_false] at hv; rcases hv with rfl | rfl | rfl | rfl | rfl | rfl | rfl <;> first | rfl | assumption | exact NU.one (by assumption)) hb2 (by simp) rfl fun ws6 hb2_ hcs6 => ?_
      try simp only [Sx.splice, List.set_cons_zero, List.set_cons_succ, Nat.zero_add] at hb2_
      have hch := hch.step hcs6 (fun y hy => by simp only [List.mem_singleton] at hy; subst hy; first | exact .inr (by first | assumption | omega) | exact .inl (by simp))
      have hb3 := hb3.keep hcs6 (by simp; omega)
      have hb4 := hb4.keep hcs6 (by simp; omega)
      have hb2 := hb2_
      refine WL.nil (kr13 _ _ _ ?_)
      refine kh12 _ _ _ ?_
      refine CW.ret ?_
      refine bodyA.retR1 rfl (RVal.cell rfl (hb2.varA rfl rfl)) ?_
      refine ⟨?_, hch⟩
      unfold oneP; rw [if_neg hcl]; rfl

end Go.Proofs.YtkkklaodligpdaaDoor

/- Package super: neg, minus, move. No condition. -/
namespace Go.Proofs.YtkkklaodligpdaaDoor
open Go Sx Wd
set_option linter.unusedVariables false
set_option linter.unusedSimpArgs false
set_option exponentiation.threshold 5000

set_option maxRecDepth 8000 in
theorem neg_spec {T : TypeId} {R : List Value} (b : Nat) (L : List Nat) (w : World) (hB : TB w b T L R) (hL : L.length = 67) (hW : W64 L) : Ret Tryd.prog 39 [.pointer (some ⟨b, 0, none⟩)] w fun u w' => u = .bool (decide (9223372036854775808 ≤ L.getD 66 0)) ∧ w = w' := by
  have h66 := hW.getD 66
  refine Ret.enter Tryd.func39 rfl rfl ?_
  simp only [args0, Nat.zero_add, Nat.reduceAdd]
  refine CW.seq fun kK1 kh1 => ?_
  refine CW.region fun kR2 kr2 => ?_  -- region 0
  refine WL.ev (Ev.assign rfl) rfl ?_
  refine WL.nil (kr2 _ _ _ ?_)
  refine kh1 _ _ _ ?_
  refine CW.seq fun kK3 kh3 => ?_
  refine CW.region fun kR4 kr4 => ?_  -- region 1
  refine WL.ev (Ev.move rfl) rfl ?_
  refine WL.ev (Ev.nilPtr rfl) rfl ?_
  refine WL.ev (Ev.ixT (66) rfl rfl (by omega) (by omega)) rfl ?_
  refine WL.ev (Ev.load rfl rfl (hB.t64 (by first | omega | (simp; omega)))) rfl ?_
  refine WL.ev (Ev.shrU (b := 63) rfl rfl (by simp only [IntKind.bits]; omega)) rfl ?_
  rw [show L.getD 66 0 / 2 ^ 63 = L.getD 66 0 / 9223372036854775808 by omega]
  refine WL.ev (Ev.eql rfl rfl) rfl ?_
  refine WL.ev (Ev.assign rfl) rfl ?_
  refine WL.nil (kr4 _ _ _ ?_)
  refine kh3 _ _ _ ?_
  refine CW.ret ?_
  refine bodyA.ret1 rfl rfl ?_
  refine ⟨congrArg Value.bool (decide_eq_decide.2 (by omega)), rfl⟩

structure KMin (L : List Nat) (R : List Value) (T : TypeId) (b : Nat) (w0 : World) (g : Nat × Nat × List Nat) (w : World) : Prop where
  m : MinI L g.2.2 g.2.1 g.1
  hB : TB w b T g.2.2 R
  ch : Chg [b] w0 w

set_option maxRecDepth 8000 in
theorem minus_spec {T : TypeId} {R : List Value} (b : Nat) (L : List Nat) (w : World) (hB : TB w b T L R) (hL : L.length = 67) (hW : W64 L) : Ret Tryd.prog 54 [.pointer (some ⟨b, 0, none⟩)] w fun u w' => ∃ C, TB w' b T C R ∧ C.length = 67 ∧ W64 C ∧ tv C = (18446744073709551616 ^ 67 - tv L) % 18446744073709551616 ^ 67 ∧ Chg [b] w w' := by
  have hch : Chg [b] w w := Chg.refl _ _
  refine Ret.enter Tryd.func54 rfl rfl ?_
  simp only [args0, Nat.zero_add, Nat.reduceAdd]
  refine CW.seq fun kK1 kh1 => ?_
  refine CW.region fun kR2 kr2 => ?_  -- region 0
  refine WL.ev (Ev.assign rfl) rfl ?_
  refine WL.nil (kr2 _ _ _ ?_)
  refine kh1 _ _ _ ?_
  refine CW.seq fun kK3 kh3 => ?_
  refine CW.region fun kR4 kr4 => ?_  -- region 1
  refine WL.ev (Ev.move rfl) rfl ?_
  refine WL.nil (kr4 _ _ _ ?_)
  refine kh3 _ _ _ ?_
  refine CW.block ?_
  refine CW.loop (S := fun g : Nat × Nat × List Nat => [(0, .pointer (some ⟨b, 0, none⟩)), (2, .int .u64 (g.2.1 : Int)), (4, .int .i64 (g.1 : Int))]) (Inv := KMin L R T b w) (mu := fun g => 67 - g.1) ((0, 1, L)) ?_ ?_ ?_
  ·
    exact ⟨MinI.zero hW, hB, hch⟩
  ·
    repeat (first | exact Subs.nil | refine Subs.cons rfl ?_ | refine Subs.consI rfl (by omega) ?_)
  ·
    rintro ⟨i, c, C⟩ wr ⟨hM, hB, hch⟩
    dsimp only at hM hB hch
    dsimp only
    have hi67 := hM.hi
    have hCl := hM.len
    have hcc := hM.c1
    have hCi := hM.w.getD i
    refine CW.seq fun kK5 kh5 => ?_
    refine CW.region fun kR6 kr6 => ?_  -- region 2
    refine WL.ev (Ev.lss rfl rfl) rfl ?_
    refine WL.nil (kr6 _ _ _ ?_)
    refine kh5 _ _ _ ?_
    refine CW.seq fun kK7 kh7 => ?_
    refine CW.cond rfl (fun hc1 => ?_) (fun hc1 => ?_)  -- if 5
    ·
      try simp only [decide_eq_true_eq, decide_eq_false_iff_not, Decidable.not_not, Bool.and_eq_true, Bool.or_eq_true, Bool.not_eq_true', Bool.not_eq_false', ne_eq, Int.not_lt, Int.not_le] at hc1
      refine CW.skip ?_
      refine kh7 _ _ _ ?_
      refine CW.seq fun kK8 kh8 => ?_
      refine CW.block ?_
      refine CW.seq fun kK9 kh9 => ?_
      refine CW.region fun kR10 kr10 => ?_  -- region 3
      refine WL.ev (Ev.move rfl) rfl ?_
      refine WL.ev (Ev.assign rfl) rfl ?_
      refine WL.nil (kr10 _ _ _ ?_)
      refine kh9 _ _ _ ?_
      refine CW.regionKC 15 17 rfl hmix fun kR11 kr11 hS hdr => ?_  -- region 4
      have hch := hch.trans (Chg.any hdr)
      have hB := hB.keep0 hdr
      have hch_r := hch
      have hB_r := hB
      refine WK.take 0 rfl (by kernel_rfl) (by kernel_rfl) (by kernel_rfl) (by kernel_rfl) (by kernel_rfl) (by kernel_rfl) hS (fun w' hw' => Ev.move rfl) rfl ?_
      refine WK.take 1 rfl (by kernel_rfl) (by kernel_rfl) (by kernel_rfl) (by kernel_rfl) (by kernel_rfl) (by kernel_rfl) hS (fun w' hw' => Ev.move rfl) rfl ?_
      refine WK.take 2 rfl (by kernel_rfl) (by kernel_rfl) (by kernel_rfl) (by kernel_rfl) (by kernel_rfl) (by kernel_rfl) hS (fun w' hw' => Ev.move rfl) rfl ?_
      refine WK.take 3 rfl (by kernel_rfl) (by kernel_rfl) (by kernel_rfl) (by kernel_rfl) (by kernel_rfl) (by kernel_rfl) hS (fun w' hw' => Ev.move rfl) rfl ?_
      refine WK.take 4 rfl (by kernel_rfl) (by kernel_rfl) (by kernel_rfl) (by kernel_rfl) (by kernel_rfl) (by kernel_rfl) hS (fun w' hw' => Ev.nilPtr rfl) rfl ?_
      refine WK.take 5 rfl (by kernel_rfl) (by kernel_rfl) (by kernel_rfl) (by kernel_rfl) (by kernel_rfl) (by kernel_rfl) hS (fun w' hw' => Ev.ixT (i) rfl rfl (by omega) (by omega)) rfl ?_
      refine WK.take 6 rfl (by kernel_rfl) (by kernel_rfl) (by kernel_rfl) (by kernel_rfl) (by kernel_rfl) (by kernel_rfl) hS (fun w' hw' => Ev.load rfl rfl ((hB_r.keep0 hw').t64 (by first | omega | (simp; omega)))) rfl ?_
      refine WK.take 7 rfl (by kernel_rfl) (by kernel_rfl) (by kernel_rfl) (by kernel_rfl) (by kernel_rfl) (by kernel_rfl) hS (fun w' hw' => Ev.complU rfl rfl (by simp only [IntKind.bits]; omega)) rfl ?_
      refine WK.take 8 rfl (by kernel_rfl) (by kernel_rfl) (by kernel_rfl) (by kernel_rfl) (by kernel_rfl) (by kernel_rfl) hS (fun w' hw' => Ev.move rfl) rfl ?_
      refine WK.take 9 rfl (by kernel_rfl) (by kernel_rfl) (by kernel_rfl) (by kernel_rfl) (by kernel_rfl) (by kernel_rfl) hS (fun w' hw' => Ev.ext rfl (ext72 (18446744073709551615 - C.getD i 0) 0 c hcc _)) rfl ?_
      refine WK.take 10 rfl (by kernel_rfl) (by kernel_rfl) (by kernel_rfl) (by kernel_rfl) (by kernel_rfl) (by kernel_rfl) hS (fun w' hw' => Ev.move rfl) rfl ?_
      refine WK.take 11 rfl (by kernel_rfl) (by kernel_rfl) (by kernel_rfl) (by kernel_rfl) (by kernel_rfl) (by kernel_rfl) hS (fun w' hw' => Ev.extract rfl rfl) rfl ?_
      refine WK.takeT 12 rfl (by kernel_rfl) (by kernel_rfl) (by kernel_rfl) (by kernel_rfl) (fun _ => hS) (fun w' => Ev.extract rfl rfl) rfl ?_
      refine WK.takeT 13 rfl (by kernel_rfl) (by kernel_rfl) (by kernel_rfl) (by kernel_rfl) (fun _ => hS) (fun w' => Ev.nilPtr rfl) rfl ?_
      refine WK.take 14 rfl (by kernel_rfl) (by kernel_rfl) (by kernel_rfl) (by kernel_rfl) (by kernel_rfl) (by kernel_rfl) hS (fun w' hw' => Ev.ixT (i) rfl rfl (by omega) (by omega)) rfl ?_
      refine WK.storeT 15 rfl (by kernel_rfl) (by kernel_rfl) rfl rfl hB (by first | omega | (simp; omega)) fun ws7 hB_ hcs7 => ?_
      have hch := hch.step hcs7 (fun y hy => by simp only [List.mem_singleton] at hy; subst hy; first | exact .inr (by first | assumption | omega) | exact .inl (by simp))
      have hB := hB_
      refine WK.after 16 rfl (by kernel_rfl) (by kernel_rfl) (Ev.assign rfl) rfl ?_
      refine WK.done (by kernel_rfl) (kr11 _ _ _ ?_)
      refine kh8 _ _ _ ?_
      refine CW.region fun kR12 kr12 => ?_  -- region 5
      first | refine WL.ev (Ev.addIn rfl rfl (by omega)) rfl ?_ | refine WL.ev (Ev.add rfl rfl) rfl ?_
      refine WL.ev (Ev.move rfl) rfl ?_
      refine WL.nil (kr12 _ _ _ ?_)
      refine ⟨rfl, (i + 1, ((18446744073709551615 - C.getD i 0) + 0 + c) / 18446744073709551616, C.set i (((18446744073709551615 - C.getD i 0) + 0 + c) % 18446744073709551616)), ?_, ?_, ?_⟩
      ·
        repeat (first | exact Subs.nil | refine Subs.cons rfl ?_ | refine Subs.consI rfl (by omega) ?_)
      ·
        exact ⟨hM.step (by omega) (by omega), hB, hch⟩
      ·
        show 67 - (i + 1) < 67 - i; omega
    ·
      try simp only [decide_eq_true_eq, decide_eq_false_iff_not, Decidable.not_not, Bool.and_eq_true, Bool.or_eq_true, Bool.not_eq_true', Bool.not_eq_false', ne_eq, Int.not_lt, Int.not_le] at hc1
      have hiX : i = L.length := by omega
      subst hiX
      have hfin := hM.done hW
      rw [hL] at hfin
      refine CW.exit ?_  -- exit 0
      refine bodyA.norm0 rfl ?_
      exact ⟨C, hB, by omega, hM.w, hfin, hch⟩

end Go.Proofs.YtkkklaodligpdaaDoor

/- Package super: move. No condition. -/
namespace Go.Proofs.YtkkklaodligpdaaDoor
open Go Sx Wd
set_option linter.unusedVariables false
set_option linter.unusedSimpArgs false
set_option exponentiation.threshold 5000

theorem term_at {n : Bool} {a_ w0 w1 w2 : Nat} : ∀ {j : Nat}, j < 3 → (termV n a_ [w0, w1, w2])[2 + j]? = some (.int .u64 (([w0, w1, w2].getD j 0 : Nat) : Int))
  | 0, _ => rfl
  | 1, _ => rfl
  | 2, _ => rfl
/-- What adding (sub false) or taking a term has come to. -/
def MvR (sub : Bool) (L W : List Nat) (a_ : Nat) (C : List Nat) : Prop :=
  (sub = false → ∃ c, c ≤ 1 ∧ tv C + c * 18446744073709551616 ^ 67 = tv L + tv W * 18446744073709551616 ^ a_) ∧ (sub = true → ∃ c, c ≤ 1 ∧ tv C + tv W * 18446744073709551616 ^ a_ = tv L + c * 18446744073709551616 ^ 67)
structure MvI (sub : Bool) (L W : List Nat) (a_ : Nat) (C : List Nat) (c i : Nat) : Prop where
  a : sub = false → MvA L W a_ C c i
  s : sub = true → MvS L W a_ C c i
theorem MvI.all {sub : Bool} {L W C : List Nat} {a_ c i : Nat} (h : MvI sub L W a_ C c i) : C.length = L.length ∧ W64 C ∧ a_ ≤ i ∧ i ≤ L.length ∧ c ≤ 1 := by
  cases sub
  · have := h.a rfl; exact ⟨this.len, this.w, this.lo, this.hi, this.c1⟩
  · have := h.s rfl; exact ⟨this.len, this.w, this.lo, this.hi, this.c1⟩
theorem MvI.done {sub : Bool} {L W C : List Nat} {a_ c i : Nat} (h : MvI sub L W a_ C c i) (hW : W.length = 3) (hL : L.length = 67) (ha : a_ ≤ 64) (hx : ¬ (i < 67 ∧ (i < a_ + 3 ∨ 0 < c))) : MvR sub L W a_ C := by
  obtain ⟨h1, h2, h3, h4, h5⟩ := h.all
  have e1 : i - a_ = 3 + (i - a_ - 3) := by omega
  have e2 : c * 18446744073709551616 ^ i = c * 18446744073709551616 ^ 67 := by
    by_cases q : i = 67
    · rw [q]
    · have : c = 0 := by omega
      rw [this, Nat.zero_mul, Nat.zero_mul]
  refine ⟨fun q => ⟨c, h5, ?_⟩, fun q => ⟨c, h5, ?_⟩⟩
  · have := (h.a q).eq
    rw [e1, trm3 hW, e2] at this; exact this
  · have := (h.s q).eq
    rw [e1, trm3 hW, e2] at this; exact this
theorem sub_step {x y c : Nat} (hx : x < 18446744073709551616) (hy : y < 18446744073709551616) (hc : c ≤ 1) : x + (if x < y + c then 1 else 0) * 18446744073709551616 = (x + 18446744073709551616 - y - c) % 18446744073709551616 + y + c := by
  split <;> omega
structure KMv (sub : Bool) (L W : List Nat) (a_ : Nat) (tn : Bool) (R : List Value) (T : TypeId) (b b4 : Nat) (w0 : World) (g : Nat × Nat × List Nat) (w : World) : Prop where
  m : MvI sub L W a_ g.2.2 g.2.1 g.1
  hB : TB w b T g.2.2 R
  h4 : BK w b4 88 (termV tn a_ W)
  ch : Chg [b] w0 w

set_option maxRecDepth 8000 in
theorem move_spec {T : TypeId} {R : List Value} (b : Nat) (L W : List Nat) (a_ : Nat) (tn less : Bool) (w : World) (hB : TB w b T L R) (hL : L.length = 67) (hW : W64 L) (hW3 : W.length = 3) (hWW : W64 W) (ha : a_ ≤ 64) : Ret Tryd.prog 73 [.pointer (some ⟨b, 0, none⟩), .agg (termV tn a_ W).toArray, .bool less] w fun u w' => ∃ C, TB w' b T C R ∧ C.length = 67 ∧ W64 C ∧ MvR (tn != less) L W a_ C ∧ Chg [b] w w' := by
  obtain ⟨w0, w1, w2, rfl⟩ : ∃ w0 w1 w2, W = [w0, w1, w2] := by match W, hW3 with | [x, y, z], _ => exact ⟨_, _, _, rfl⟩
  have hch : Chg [b] w w := Chg.refl _ _
  refine Ret.enter Tryd.func73 rfl rfl ?_
  simp only [args0, Nat.zero_add, Nat.reduceAdd]
  refine CW.seq fun kK1 kh1 => ?_
  refine CW.region fun kR2 kr2 => ?_  -- region 0
  refine WL.boxB rfl rfl rfl fun b4 wm4 hb4 hcm4 hge4 => ?_
  have hgehch4 := Nat.le_trans hch.size hge4
  have hch := hch.trans (Chg.any hcm4)
  have hneb4 : b ≠ b4 := by have := hB.lt; omega
  have hB := hB.keep0 hcm4
  refine WL.nil (kr2 _ _ _ ?_)
  refine kh1 _ _ _ ?_
  refine CW.seq fun kK3 kh3 => ?_
  refine CW.region fun kR4 kr4 => ?_  -- region 1
  refine WL.ev (Ev.assign rfl) rfl ?_
  refine WL.nil (kr4 _ _ _ ?_)
  refine kh3 _ _ _ ?_
  refine CW.seq fun kK5 kh5 => ?_
  refine CW.region fun kR6 kr6 => ?_  -- region 2
  refine WL.ev (Ev.fieldAddr rfl) rfl ?_
  refine WL.ev (Ev.load rfl rfl (hb4.at_ rfl)) rfl ?_
  refine WL.ev (Ev.assign rfl) rfl ?_
  refine WL.nil (kr6 _ _ _ ?_)
  refine kh5 _ _ _ ?_
  refine CW.block ?_
  refine CW.loop (S := fun g : Nat × Nat × List Nat => [(0, .pointer (some ⟨b, 0, none⟩)), (2, .bool less), (4, .pointer (some ⟨b4, 0, none⟩)), (6, .int .u64 (g.2.1 : Int)), (7, .int .i64 (g.1 : Int))]) (Inv := KMv (tn != less) L [w0, w1, w2] a_ tn R T b b4 w) (mu := fun g => 67 - g.1) ((a_, 0, L)) ?_ ?_ ?_
  ·
    exact ⟨⟨fun _ => MvA.zero hW (by omega), fun _ => MvS.zero hW (by omega)⟩, hB, hb4, hch⟩
  ·
    repeat (first | exact Subs.nil | refine Subs.cons rfl ?_ | refine Subs.consI rfl (by omega) ?_)
  ·
    rintro ⟨i, c, C⟩ wr ⟨hM, hB, hb4, hch⟩
    dsimp only at hM hB hb4 hch
    dsimp only
    obtain ⟨hCl, hCw, hia, hi67, hcc⟩ := hM.all
    have hCi := hCw.getD i
    have hwv := hWW.getD (i - a_)
    unfold termV at hb4
    refine CW.seq fun kK7 kh7 => ?_
    refine CW.seqM 23 (decide (i < 67 ∧ (i < a_ + 3 ∨ 0 < c))) ?_ ?_
    ·
      refine CW.region fun kR8 kr8 => ?_  -- region 3
      refine WL.ev (Ev.move rfl) rfl ?_
      refine WL.ev (Ev.lss rfl rfl) rfl ?_
      refine WL.ev (Ev.move rfl) rfl ?_
      refine WL.boolCase (fun hg1 => ?_) (fun hg1 => ?_)
      ·
        try simp only [decide_eq_true_eq, decide_eq_false_iff_not, Decidable.not_not, Bool.and_eq_true, Bool.or_eq_true, Bool.not_eq_true', Bool.not_eq_false', ne_eq, Int.not_lt, Int.not_le] at hg1
        refine WL.want rfl rfl rfl rfl ?_
        refine WL.ev (Ev.move rfl) rfl ?_
        refine WL.want rfl rfl rfl rfl ?_
        refine WL.ev (Ev.fieldAddr rfl) rfl ?_
        refine WL.want rfl rfl rfl rfl ?_
        refine WL.ev (Ev.load rfl rfl (hb4.at_ rfl)) rfl ?_
        refine WL.want rfl rfl rfl rfl ?_
        first | refine WL.ev (Ev.addIn rfl rfl (by omega)) rfl ?_ | refine WL.ev (Ev.add rfl rfl) rfl ?_
        refine WL.want rfl rfl rfl rfl ?_
        refine WL.ev (Ev.lss rfl rfl) rfl ?_
        refine WL.want rfl rfl rfl rfl ?_
        refine WL.ev (Ev.move rfl) rfl ?_
        refine WL.boolCase (fun hg2 => ?_) (fun hg2 => ?_)
        ·
          try simp only [decide_eq_true_eq, decide_eq_false_iff_not, Decidable.not_not, Bool.and_eq_true, Bool.or_eq_true, Bool.not_eq_true', Bool.not_eq_false', ne_eq, Int.not_lt, Int.not_le] at hg2
          refine WL.pass rfl rfl rfl rfl rfl ?_
          refine WL.pass rfl rfl rfl rfl rfl ?_
          refine WL.want rfl rfl rfl rfl ?_
          refine WL.ev (Ev.pickT rfl rfl rfl) rfl ?_
          refine WL.ev (Ev.pickT rfl rfl rfl) rfl ?_
          refine WL.nil (kr8 _ _ _ ?_)
          refine ⟨rfl, rfl, Subs.consB rfl ?_ ?_⟩
          ·
            first | (simp; omega) | (refine decide_eq_decide.2 ?_; omega)
          ·
            first | ((repeat (first | exact Subs.refl | refine Subs.drop1 (by rfl) ?_)); done) | ((repeat (first | exact Subs.nil | refine Subs.cons rfl ?_)); done)
        ·
          try simp only [decide_eq_true_eq, decide_eq_false_iff_not, Decidable.not_not, Bool.and_eq_true, Bool.or_eq_true, Bool.not_eq_true', Bool.not_eq_false', ne_eq, Int.not_lt, Int.not_le] at hg2
          refine WL.want rfl rfl rfl rfl ?_
          refine WL.ev (Ev.move rfl) rfl ?_
          refine WL.want rfl rfl rfl rfl ?_
          refine WL.ev (Ev.gtr rfl rfl) rfl ?_
          refine WL.want rfl rfl rfl rfl ?_
          refine WL.ev (Ev.pickF rfl rfl rfl) rfl ?_
          refine WL.ev (Ev.pickT rfl rfl rfl) rfl ?_
          refine WL.nil (kr8 _ _ _ ?_)
          refine ⟨rfl, rfl, Subs.consB rfl ?_ ?_⟩
          ·
            first | (simp; omega) | (refine decide_eq_decide.2 ?_; omega)
          ·
            first | ((repeat (first | exact Subs.refl | refine Subs.drop1 (by rfl) ?_)); done) | ((repeat (first | exact Subs.nil | refine Subs.cons rfl ?_)); done)
      ·
        try simp only [decide_eq_true_eq, decide_eq_false_iff_not, Decidable.not_not, Bool.and_eq_true, Bool.or_eq_true, Bool.not_eq_true', Bool.not_eq_false', ne_eq, Int.not_lt, Int.not_le] at hg1
        refine WL.pass rfl rfl rfl rfl rfl ?_
        refine WL.pass rfl rfl rfl rfl rfl ?_
        refine WL.pass rfl rfl rfl rfl rfl ?_
        refine WL.pass rfl rfl rfl rfl rfl ?_
        refine WL.pass rfl rfl rfl rfl rfl ?_
        refine WL.pass rfl rfl rfl rfl rfl ?_
        refine WL.passU rfl rfl rfl rfl ?_
        refine WL.passU rfl rfl rfl rfl ?_
        refine WL.pass rfl rfl rfl rfl rfl ?_
        refine WL.ev (Ev.pickF rfl rfl rfl) rfl ?_
        refine WL.nil (kr8 _ _ _ ?_)
        refine ⟨rfl, rfl, Subs.consB rfl ?_ ?_⟩
        ·
          first | (simp; omega) | (refine decide_eq_decide.2 ?_; omega)
        ·
          first | ((repeat (first | exact Subs.refl | refine Subs.drop1 (by rfl) ?_)); done) | ((repeat (first | exact Subs.nil | refine Subs.cons rfl ?_)); done)
    ·
      refine CW.cond rfl (fun hc3 => ?_) (fun hc3 => ?_)  -- if 23
      ·
        try simp only [decide_eq_true_eq, decide_eq_false_iff_not, Decidable.not_not, Bool.and_eq_true, Bool.or_eq_true, Bool.not_eq_true', Bool.not_eq_false', ne_eq, Int.not_lt, Int.not_le] at hc3
        have hgo := hc3
        refine CW.skip ?_
        refine kh7 _ _ _ ?_
        refine CW.seq fun kK9 kh9 => ?_
        refine CW.block ?_
        refine CW.seq fun kK10 kh10 => ?_
        refine CW.region fun kR11 kr11 => ?_  -- region 5
        refine WL.ev (Ev.assign rfl) rfl ?_
        refine WL.nil (kr11 _ _ _ ?_)
        refine kh10 _ _ _ ?_
        refine CW.seq fun kK12 kh12 => ?_
        refine CW.seq fun kK13 kh13 => ?_
        refine CW.region fun kR14 kr14 => ?_  -- region 6
        refine WL.ev (Ev.move rfl) rfl ?_
        refine WL.ev (Ev.fieldAddr rfl) rfl ?_
        refine WL.ev (Ev.load rfl rfl (hb4.at_ rfl)) rfl ?_
        first | refine WL.ev (Ev.addIn rfl rfl (by omega)) rfl ?_ | refine WL.ev (Ev.add rfl rfl) rfl ?_
        refine WL.ev (Ev.lss rfl rfl) rfl ?_
        refine WL.nil (kr14 _ _ _ ?_)
        refine kh13 _ _ _ ?_
        refine CW.cond rfl (fun hc4 => ?_) (fun hc4 => ?_)  -- if 30
        ·
          try simp only [decide_eq_true_eq, decide_eq_false_iff_not, Decidable.not_not, Bool.and_eq_true, Bool.or_eq_true, Bool.not_eq_true', Bool.not_eq_false', ne_eq, Int.not_lt, Int.not_le] at hc4
          refine CW.region fun kR15 kr15 => ?_  -- region 7
          refine WL.ev (Ev.move rfl) rfl ?_
          refine WL.ev (Ev.fieldAddr rfl) rfl ?_
          refine WL.ev (Ev.load rfl rfl (hb4.at_ rfl)) rfl ?_
          first | refine WL.ev (Ev.subIn rfl rfl (by omega)) rfl ?_ | refine WL.ev (Ev.sub rfl rfl) rfl ?_
          refine WL.ev (Ev.fieldAddr rfl) rfl ?_
          refine WL.ev (Ev.indexAddrArr rfl rfl (by omega) (by omega)) rfl ?_
          rw [show 2 + ((i : Int) - (a_ : Int)).toNat * 1 = 2 + (i - a_) by omega]
          refine WL.ev (Ev.load rfl rfl (hb4.at_ (term_at (n := tn) (by omega)))) rfl ?_
          refine WL.ev (Ev.assign rfl) rfl ?_
          refine WL.nil (kr15 _ _ _ ?_)
          refine kh12 _ _ _ ?_
          refine CW.seq fun kK16 kh16 => ?_
          refine CW.region fun kR17 kr17 => ?_  -- region 8
          refine WL.ev (Ev.fieldAddr rfl) rfl ?_
          refine WL.ev (Ev.load rfl rfl (hb4.at_ rfl)) rfl ?_
          refine WL.ev (Ev.move rfl) rfl ?_
          refine WL.ev (Ev.neq_bool rfl rfl) rfl ?_
          refine WL.nil (kr17 _ _ _ ?_)
          refine kh16 _ _ _ ?_
          refine CW.cond rfl (fun hc5 => ?_) (fun hc5 => ?_)  -- if 41
          ·
            try simp only [decide_eq_true_eq, decide_eq_false_iff_not, Decidable.not_not, Bool.and_eq_true, Bool.or_eq_true, Bool.not_eq_true', Bool.not_eq_false', ne_eq, Int.not_lt, Int.not_le] at hc5
            have hneq := hc5
            refine CW.regionKC 15 17 rfl hmix fun kR18 kr18 hS hdr => ?_  -- region 9
            have hch := hch.trans (Chg.any hdr)
            have hB := hB.keep0 hdr
            have hb4 := hb4.keep0 hdr
            have hch_r := hch
            have hB_r := hB
            have hb4_r := hb4
            refine WK.take 0 rfl (by kernel_rfl) (by kernel_rfl) (by kernel_rfl) (by kernel_rfl) (by kernel_rfl) (by kernel_rfl) hS (fun w' hw' => Ev.move rfl) rfl ?_
            refine WK.take 1 rfl (by kernel_rfl) (by kernel_rfl) (by kernel_rfl) (by kernel_rfl) (by kernel_rfl) (by kernel_rfl) hS (fun w' hw' => Ev.move rfl) rfl ?_
            refine WK.take 2 rfl (by kernel_rfl) (by kernel_rfl) (by kernel_rfl) (by kernel_rfl) (by kernel_rfl) (by kernel_rfl) hS (fun w' hw' => Ev.move rfl) rfl ?_
            refine WK.take 3 rfl (by kernel_rfl) (by kernel_rfl) (by kernel_rfl) (by kernel_rfl) (by kernel_rfl) (by kernel_rfl) hS (fun w' hw' => Ev.move rfl) rfl ?_
            refine WK.take 4 rfl (by kernel_rfl) (by kernel_rfl) (by kernel_rfl) (by kernel_rfl) (by kernel_rfl) (by kernel_rfl) hS (fun w' hw' => Ev.nilPtr rfl) rfl ?_
            refine WK.take 5 rfl (by kernel_rfl) (by kernel_rfl) (by kernel_rfl) (by kernel_rfl) (by kernel_rfl) (by kernel_rfl) hS (fun w' hw' => Ev.ixT (i) rfl rfl (by omega) (by omega)) rfl ?_
            refine WK.take 6 rfl (by kernel_rfl) (by kernel_rfl) (by kernel_rfl) (by kernel_rfl) (by kernel_rfl) (by kernel_rfl) hS (fun w' hw' => Ev.load rfl rfl ((hB_r.keep0 hw').t64 (by first | omega | (simp; omega)))) rfl ?_
            refine WK.take 7 rfl (by kernel_rfl) (by kernel_rfl) (by kernel_rfl) (by kernel_rfl) (by kernel_rfl) (by kernel_rfl) hS (fun w' hw' => Ev.move rfl) rfl ?_
            refine WK.take 8 rfl (by kernel_rfl) (by kernel_rfl) (by kernel_rfl) (by kernel_rfl) (by kernel_rfl) (by kernel_rfl) hS (fun w' hw' => Ev.move rfl) rfl ?_
            refine WK.take 9 rfl (by kernel_rfl) (by kernel_rfl) (by kernel_rfl) (by kernel_rfl) (by kernel_rfl) (by kernel_rfl) hS (fun w' hw' => Ev.ext rfl (ext85 (C.getD i 0) ([w0, w1, w2].getD (i - a_) 0) c hcc _)) rfl ?_
            refine WK.take 10 rfl (by kernel_rfl) (by kernel_rfl) (by kernel_rfl) (by kernel_rfl) (by kernel_rfl) (by kernel_rfl) hS (fun w' hw' => Ev.move rfl) rfl ?_
            refine WK.take 11 rfl (by kernel_rfl) (by kernel_rfl) (by kernel_rfl) (by kernel_rfl) (by kernel_rfl) (by kernel_rfl) hS (fun w' hw' => Ev.extract rfl rfl) rfl ?_
            refine WK.takeT 12 rfl (by kernel_rfl) (by kernel_rfl) (by kernel_rfl) (by kernel_rfl) (fun _ => hS) (fun w' => Ev.extract rfl rfl) rfl ?_
            refine WK.takeT 13 rfl (by kernel_rfl) (by kernel_rfl) (by kernel_rfl) (by kernel_rfl) (fun _ => hS) (fun w' => Ev.nilPtr rfl) rfl ?_
            refine WK.take 14 rfl (by kernel_rfl) (by kernel_rfl) (by kernel_rfl) (by kernel_rfl) (by kernel_rfl) (by kernel_rfl) hS (fun w' hw' => Ev.ixT (i) rfl rfl (by omega) (by omega)) rfl ?_
            refine WK.storeT 15 rfl (by kernel_rfl) (by kernel_rfl) rfl rfl hB (by first | omega | (simp; omega)) fun ws8 hB_ hcs8 => ?_
            have hch := hch.step hcs8 (fun y hy => by simp only [List.mem_singleton] at hy; subst hy; first | exact .inr (by first | assumption | omega) | exact .inl (by simp))
            have hb4 := hb4.keep hcs8 (by simp; omega)
            have hB := hB_
            refine WK.after 16 rfl (by kernel_rfl) (by kernel_rfl) (Ev.assign rfl) rfl ?_
            refine WK.done (by kernel_rfl) (kr18 _ _ _ ?_)
            refine kh9 _ _ _ ?_
            refine CW.region fun kR19 kr19 => ?_  -- region 4
            refine WL.ev (Ev.move rfl) rfl ?_
            first | refine WL.ev (Ev.addIn rfl rfl (by omega)) rfl ?_ | refine WL.ev (Ev.add rfl rfl) rfl ?_
            refine WL.ev (Ev.assign rfl) rfl ?_
            refine WL.nil (kr19 _ _ _ ?_)
            refine ⟨rfl, (i + 1, (if C.getD i 0 < ([w0, w1, w2].getD (i - a_) 0) + c then 1 else 0), C.set i ((C.getD i 0 + 18446744073709551616 - ([w0, w1, w2].getD (i - a_) 0) - c) % 18446744073709551616)), ?_, ?_, ?_⟩
            ·
              repeat (first | exact Subs.nil | refine Subs.cons rfl ?_ | refine Subs.consI rfl (by omega) ?_)
            ·
              have hsub : (tn != less) = true := by simpa using hneq
              refine ⟨⟨fun q => (by rw [hsub] at q; cases q), fun q => ?_⟩, hB, hb4, hch⟩
              exact (hM.s q).step (by omega) hwv (Nat.mod_lt _ (by decide)) (by show (if C.getD i 0 < ([w0, w1, w2].getD (i - a_) 0) + c then 1 else 0) ≤ 1; split <;> omega) (by rw [show [w0, w1, w2].getD (i - a_) 0 = ([w0, w1, w2].getD (i - a_) 0) from rfl]; exact sub_step hCi hwv hcc)
            ·
              show 67 - (i + 1) < 67 - i; omega
          ·
            try simp only [decide_eq_true_eq, decide_eq_false_iff_not, Decidable.not_not, Bool.and_eq_true, Bool.or_eq_true, Bool.not_eq_true', Bool.not_eq_false', ne_eq, Int.not_lt, Int.not_le] at hc5
            have hneq := hc5
            refine CW.regionKC 15 17 rfl hmix fun kR20 kr20 hS hdr => ?_  -- region 10
            have hch := hch.trans (Chg.any hdr)
            have hB := hB.keep0 hdr
            have hb4 := hb4.keep0 hdr
            have hch_r := hch
            have hB_r := hB
            have hb4_r := hb4
            refine WK.take 0 rfl (by kernel_rfl) (by kernel_rfl) (by kernel_rfl) (by kernel_rfl) (by kernel_rfl) (by kernel_rfl) hS (fun w' hw' => Ev.move rfl) rfl ?_
            refine WK.take 1 rfl (by kernel_rfl) (by kernel_rfl) (by kernel_rfl) (by kernel_rfl) (by kernel_rfl) (by kernel_rfl) hS (fun w' hw' => Ev.move rfl) rfl ?_
            refine WK.take 2 rfl (by kernel_rfl) (by kernel_rfl) (by kernel_rfl) (by kernel_rfl) (by kernel_rfl) (by kernel_rfl) hS (fun w' hw' => Ev.move rfl) rfl ?_
            refine WK.take 3 rfl (by kernel_rfl) (by kernel_rfl) (by kernel_rfl) (by kernel_rfl) (by kernel_rfl) (by kernel_rfl) hS (fun w' hw' => Ev.move rfl) rfl ?_
            refine WK.take 4 rfl (by kernel_rfl) (by kernel_rfl) (by kernel_rfl) (by kernel_rfl) (by kernel_rfl) (by kernel_rfl) hS (fun w' hw' => Ev.nilPtr rfl) rfl ?_
            refine WK.take 5 rfl (by kernel_rfl) (by kernel_rfl) (by kernel_rfl) (by kernel_rfl) (by kernel_rfl) (by kernel_rfl) hS (fun w' hw' => Ev.ixT (i) rfl rfl (by omega) (by omega)) rfl ?_
            refine WK.take 6 rfl (by kernel_rfl) (by kernel_rfl) (by kernel_rfl) (by kernel_rfl) (by kernel_rfl) (by kernel_rfl) hS (fun w' hw' => Ev.load rfl rfl ((hB_r.keep0 hw').t64 (by first | omega | (simp; omega)))) rfl ?_
            refine WK.take 7 rfl (by kernel_rfl) (by kernel_rfl) (by kernel_rfl) (by kernel_rfl) (by kernel_rfl) (by kernel_rfl) hS (fun w' hw' => Ev.move rfl) rfl ?_
            refine WK.take 8 rfl (by kernel_rfl) (by kernel_rfl) (by kernel_rfl) (by kernel_rfl) (by kernel_rfl) (by kernel_rfl) hS (fun w' hw' => Ev.move rfl) rfl ?_
            refine WK.take 9 rfl (by kernel_rfl) (by kernel_rfl) (by kernel_rfl) (by kernel_rfl) (by kernel_rfl) (by kernel_rfl) hS (fun w' hw' => Ev.ext rfl (ext72 (C.getD i 0) ([w0, w1, w2].getD (i - a_) 0) c hcc _)) rfl ?_
            refine WK.take 10 rfl (by kernel_rfl) (by kernel_rfl) (by kernel_rfl) (by kernel_rfl) (by kernel_rfl) (by kernel_rfl) hS (fun w' hw' => Ev.move rfl) rfl ?_
            refine WK.take 11 rfl (by kernel_rfl) (by kernel_rfl) (by kernel_rfl) (by kernel_rfl) (by kernel_rfl) (by kernel_rfl) hS (fun w' hw' => Ev.extract rfl rfl) rfl ?_
            refine WK.takeT 12 rfl (by kernel_rfl) (by kernel_rfl) (by kernel_rfl) (by kernel_rfl) (fun _ => hS) (fun w' => Ev.extract rfl rfl) rfl ?_
            refine WK.takeT 13 rfl (by kernel_rfl) (by kernel_rfl) (by kernel_rfl) (by kernel_rfl) (fun _ => hS) (fun w' => Ev.nilPtr rfl) rfl ?_
            refine WK.take 14 rfl (by kernel_rfl) (by kernel_rfl) (by kernel_rfl) (by kernel_rfl) (by kernel_rfl) (by kernel_rfl) hS (fun w' hw' => Ev.ixT (i) rfl rfl (by omega) (by omega)) rfl ?_
            refine WK.storeT 15 rfl (by kernel_rfl) (by kernel_rfl) rfl rfl hB (by first | omega | (simp; omega)) fun ws9 hB_ hcs9 => ?_
            have hch := hch.step hcs9 (fun y hy => by simp only [List.mem_singleton] at hy; subst hy; first | exact .inr (by first | assumption | omega) | exact .inl (by simp))
            have hb4 := hb4.keep hcs9 (by simp; omega)
            have hB := hB_
            refine WK.after 16 rfl (by kernel_rfl) (by kernel_rfl) (Ev.assign rfl) rfl ?_
            refine WK.done (by kernel_rfl) (kr20 _ _ _ ?_)
            refine kh9 _ _ _ ?_
            refine CW.region fun kR21 kr21 => ?_  -- region 4
            refine WL.ev (Ev.move rfl) rfl ?_
            first | refine WL.ev (Ev.addIn rfl rfl (by omega)) rfl ?_ | refine WL.ev (Ev.add rfl rfl) rfl ?_
            refine WL.ev (Ev.assign rfl) rfl ?_
            refine WL.nil (kr21 _ _ _ ?_)
            refine ⟨rfl, (i + 1, ((C.getD i 0 + ([w0, w1, w2].getD (i - a_) 0) + c) / 18446744073709551616), C.set i ((C.getD i 0 + ([w0, w1, w2].getD (i - a_) 0) + c) % 18446744073709551616)), ?_, ?_, ?_⟩
            ·
              repeat (first | exact Subs.nil | refine Subs.cons rfl ?_ | refine Subs.consI rfl (by omega) ?_)
            ·
              have hsub : (tn != less) = false := by simpa using hneq
              refine ⟨⟨fun q => ?_, fun q => (by rw [hsub] at q; cases q)⟩, hB, hb4, hch⟩
              have hst := (hM.a q).step (by omega) hwv
              exact hst
            ·
              show 67 - (i + 1) < 67 - i; omega
        ·
          try simp only [decide_eq_true_eq, decide_eq_false_iff_not, Decidable.not_not, Bool.and_eq_true, Bool.or_eq_true, Bool.not_eq_true', Bool.not_eq_false', ne_eq, Int.not_lt, Int.not_le] at hc4
          have hz : [w0, w1, w2].getD (i - a_) 0 = 0 := by rw [List.getD_eq_getElem?_getD, List.getElem?_eq_none (by simp; omega)]; rfl
          refine CW.skip ?_
          refine kh12 _ _ _ ?_
          refine CW.seq fun kK22 kh22 => ?_
          refine CW.region fun kR23 kr23 => ?_  -- region 8
          refine WL.ev (Ev.fieldAddr rfl) rfl ?_
          refine WL.ev (Ev.load rfl rfl (hb4.at_ rfl)) rfl ?_
          refine WL.ev (Ev.move rfl) rfl ?_
          refine WL.ev (Ev.neq_bool rfl rfl) rfl ?_
          refine WL.nil (kr23 _ _ _ ?_)
          refine kh22 _ _ _ ?_
          refine CW.cond rfl (fun hc6 => ?_) (fun hc6 => ?_)  -- if 41
          ·
            try simp only [decide_eq_true_eq, decide_eq_false_iff_not, Decidable.not_not, Bool.and_eq_true, Bool.or_eq_true, Bool.not_eq_true', Bool.not_eq_false', ne_eq, Int.not_lt, Int.not_le] at hc6
            have hneq := hc6
            refine CW.regionKC 15 17 rfl hmix fun kR24 kr24 hS hdr => ?_  -- region 9
            have hch := hch.trans (Chg.any hdr)
            have hB := hB.keep0 hdr
            have hb4 := hb4.keep0 hdr
            have hch_r := hch
            have hB_r := hB
            have hb4_r := hb4
            refine WK.take 0 rfl (by kernel_rfl) (by kernel_rfl) (by kernel_rfl) (by kernel_rfl) (by kernel_rfl) (by kernel_rfl) hS (fun w' hw' => Ev.move rfl) rfl ?_
            refine WK.take 1 rfl (by kernel_rfl) (by kernel_rfl) (by kernel_rfl) (by kernel_rfl) (by kernel_rfl) (by kernel_rfl) hS (fun w' hw' => Ev.move rfl) rfl ?_
            refine WK.take 2 rfl (by kernel_rfl) (by kernel_rfl) (by kernel_rfl) (by kernel_rfl) (by kernel_rfl) (by kernel_rfl) hS (fun w' hw' => Ev.move rfl) rfl ?_
            refine WK.take 3 rfl (by kernel_rfl) (by kernel_rfl) (by kernel_rfl) (by kernel_rfl) (by kernel_rfl) (by kernel_rfl) hS (fun w' hw' => Ev.move rfl) rfl ?_
            refine WK.take 4 rfl (by kernel_rfl) (by kernel_rfl) (by kernel_rfl) (by kernel_rfl) (by kernel_rfl) (by kernel_rfl) hS (fun w' hw' => Ev.nilPtr rfl) rfl ?_
            refine WK.take 5 rfl (by kernel_rfl) (by kernel_rfl) (by kernel_rfl) (by kernel_rfl) (by kernel_rfl) (by kernel_rfl) hS (fun w' hw' => Ev.ixT (i) rfl rfl (by omega) (by omega)) rfl ?_
            refine WK.take 6 rfl (by kernel_rfl) (by kernel_rfl) (by kernel_rfl) (by kernel_rfl) (by kernel_rfl) (by kernel_rfl) hS (fun w' hw' => Ev.load rfl rfl ((hB_r.keep0 hw').t64 (by first | omega | (simp; omega)))) rfl ?_
            refine WK.take 7 rfl (by kernel_rfl) (by kernel_rfl) (by kernel_rfl) (by kernel_rfl) (by kernel_rfl) (by kernel_rfl) hS (fun w' hw' => Ev.move rfl) rfl ?_
            refine WK.take 8 rfl (by kernel_rfl) (by kernel_rfl) (by kernel_rfl) (by kernel_rfl) (by kernel_rfl) (by kernel_rfl) hS (fun w' hw' => Ev.move rfl) rfl ?_
            refine WK.take 9 rfl (by kernel_rfl) (by kernel_rfl) (by kernel_rfl) (by kernel_rfl) (by kernel_rfl) (by kernel_rfl) hS (fun w' hw' => Ev.ext rfl (ext85 (C.getD i 0) 0 c hcc _)) rfl ?_
            refine WK.take 10 rfl (by kernel_rfl) (by kernel_rfl) (by kernel_rfl) (by kernel_rfl) (by kernel_rfl) (by kernel_rfl) hS (fun w' hw' => Ev.move rfl) rfl ?_
            refine WK.take 11 rfl (by kernel_rfl) (by kernel_rfl) (by kernel_rfl) (by kernel_rfl) (by kernel_rfl) (by kernel_rfl) hS (fun w' hw' => Ev.extract rfl rfl) rfl ?_
            refine WK.takeT 12 rfl (by kernel_rfl) (by kernel_rfl) (by kernel_rfl) (by kernel_rfl) (fun _ => hS) (fun w' => Ev.extract rfl rfl) rfl ?_
            refine WK.takeT 13 rfl (by kernel_rfl) (by kernel_rfl) (by kernel_rfl) (by kernel_rfl) (fun _ => hS) (fun w' => Ev.nilPtr rfl) rfl ?_
            refine WK.take 14 rfl (by kernel_rfl) (by kernel_rfl) (by kernel_rfl) (by kernel_rfl) (by kernel_rfl) (by kernel_rfl) hS (fun w' hw' => Ev.ixT (i) rfl rfl (by omega) (by omega)) rfl ?_
            refine WK.storeT 15 rfl (by kernel_rfl) (by kernel_rfl) rfl rfl hB (by first | omega | (simp; omega)) fun ws10 hB_ hcs10 => ?_
            have hch := hch.step hcs10 (fun y hy => by simp only [List.mem_singleton] at hy; subst hy; first | exact .inr (by first | assumption | omega) | exact .inl (by simp))
            have hb4 := hb4.keep hcs10 (by simp; omega)
            have hB := hB_
            refine WK.after 16 rfl (by kernel_rfl) (by kernel_rfl) (Ev.assign rfl) rfl ?_
            refine WK.done (by kernel_rfl) (kr24 _ _ _ ?_)
            refine kh9 _ _ _ ?_
            refine CW.region fun kR25 kr25 => ?_  -- region 4
            refine WL.ev (Ev.move rfl) rfl ?_
            first | refine WL.ev (Ev.addIn rfl rfl (by omega)) rfl ?_ | refine WL.ev (Ev.add rfl rfl) rfl ?_
            refine WL.ev (Ev.assign rfl) rfl ?_
            refine WL.nil (kr25 _ _ _ ?_)
            refine ⟨rfl, (i + 1, (if C.getD i 0 < 0 + c then 1 else 0), C.set i ((C.getD i 0 + 18446744073709551616 - 0 - c) % 18446744073709551616)), ?_, ?_, ?_⟩
            ·
              repeat (first | exact Subs.nil | refine Subs.cons rfl ?_ | refine Subs.consI rfl (by omega) ?_)
            ·
              have hsub : (tn != less) = true := by simpa using hneq
              refine ⟨⟨fun q => (by rw [hsub] at q; cases q), fun q => ?_⟩, hB, hb4, hch⟩
              exact (hM.s q).step (by omega) hwv (Nat.mod_lt _ (by decide)) (by show (if C.getD i 0 < 0 + c then 1 else 0) ≤ 1; split <;> omega) (by rw [show [w0, w1, w2].getD (i - a_) 0 = 0 from hz]; exact sub_step hCi (by decide) hcc)
            ·
              show 67 - (i + 1) < 67 - i; omega
          ·
            try simp only [decide_eq_true_eq, decide_eq_false_iff_not, Decidable.not_not, Bool.and_eq_true, Bool.or_eq_true, Bool.not_eq_true', Bool.not_eq_false', ne_eq, Int.not_lt, Int.not_le] at hc6
            have hneq := hc6
            refine CW.regionKC 15 17 rfl hmix fun kR26 kr26 hS hdr => ?_  -- region 10
            have hch := hch.trans (Chg.any hdr)
            have hB := hB.keep0 hdr
            have hb4 := hb4.keep0 hdr
            have hch_r := hch
            have hB_r := hB
            have hb4_r := hb4
            refine WK.take 0 rfl (by kernel_rfl) (by kernel_rfl) (by kernel_rfl) (by kernel_rfl) (by kernel_rfl) (by kernel_rfl) hS (fun w' hw' => Ev.move rfl) rfl ?_
            refine WK.take 1 rfl (by kernel_rfl) (by kernel_rfl) (by kernel_rfl) (by kernel_rfl) (by kernel_rfl) (by kernel_rfl) hS (fun w' hw' => Ev.move rfl) rfl ?_
            refine WK.take 2 rfl (by kernel_rfl) (by kernel_rfl) (by kernel_rfl) (by kernel_rfl) (by kernel_rfl) (by kernel_rfl) hS (fun w' hw' => Ev.move rfl) rfl ?_
            refine WK.take 3 rfl (by kernel_rfl) (by kernel_rfl) (by kernel_rfl) (by kernel_rfl) (by kernel_rfl) (by kernel_rfl) hS (fun w' hw' => Ev.move rfl) rfl ?_
            refine WK.take 4 rfl (by kernel_rfl) (by kernel_rfl) (by kernel_rfl) (by kernel_rfl) (by kernel_rfl) (by kernel_rfl) hS (fun w' hw' => Ev.nilPtr rfl) rfl ?_
            refine WK.take 5 rfl (by kernel_rfl) (by kernel_rfl) (by kernel_rfl) (by kernel_rfl) (by kernel_rfl) (by kernel_rfl) hS (fun w' hw' => Ev.ixT (i) rfl rfl (by omega) (by omega)) rfl ?_
            refine WK.take 6 rfl (by kernel_rfl) (by kernel_rfl) (by kernel_rfl) (by kernel_rfl) (by kernel_rfl) (by kernel_rfl) hS (fun w' hw' => Ev.load rfl rfl ((hB_r.keep0 hw').t64 (by first | omega | (simp; omega)))) rfl ?_
            refine WK.take 7 rfl (by kernel_rfl) (by kernel_rfl) (by kernel_rfl) (by kernel_rfl) (by kernel_rfl) (by kernel_rfl) hS (fun w' hw' => Ev.move rfl) rfl ?_
            refine WK.take 8 rfl (by kernel_rfl) (by kernel_rfl) (by kernel_rfl) (by kernel_rfl) (by kernel_rfl) (by kernel_rfl) hS (fun w' hw' => Ev.move rfl) rfl ?_
            refine WK.take 9 rfl (by kernel_rfl) (by kernel_rfl) (by kernel_rfl) (by kernel_rfl) (by kernel_rfl) (by kernel_rfl) hS (fun w' hw' => Ev.ext rfl (ext72 (C.getD i 0) 0 c hcc _)) rfl ?_
            refine WK.take 10 rfl (by kernel_rfl) (by kernel_rfl) (by kernel_rfl) (by kernel_rfl) (by kernel_rfl) (by kernel_rfl) hS (fun w' hw' => Ev.move rfl) rfl ?_
            refine WK.take 11 rfl (by kernel_rfl) (by kernel_rfl) (by kernel_rfl) (by kernel_rfl) (by kernel_rfl) (by kernel_rfl) hS (fun w' hw' => Ev.extract rfl rfl) rfl ?_
            refine WK.takeT 12 rfl (by kernel_rfl) (by kernel_rfl) (by kernel_rfl) (by kernel_rfl) (fun _ => hS) (fun w' => Ev.extract rfl rfl) rfl ?_
            refine WK.takeT 13 rfl (by kernel_rfl) (by kernel_rfl) (by kernel_rfl) (by kernel_rfl) (fun _ => hS) (fun w' => Ev.nilPtr rfl) rfl ?_
            refine WK.take 14 rfl (by kernel_rfl) (by kernel_rfl) (by kernel_rfl) (by kernel_rfl) (by kernel_rfl) (by kernel_rfl) hS (fun w' hw' => Ev.ixT (i) rfl rfl (by omega) (by omega)) rfl ?_
            refine WK.storeT 15 rfl (by kernel_rfl) (by kernel_rfl) rfl rfl hB (by first | omega | (simp; omega)) fun ws11 hB_ hcs11 => ?_
            have hch := hch.step hcs11 (fun y hy => by simp only [List.mem_singleton] at hy; subst hy; first | exact .inr (by first | assumption | omega) | exact .inl (by simp))
            have hb4 := hb4.keep hcs11 (by simp; omega)
            have hB := hB_
            refine WK.after 16 rfl (by kernel_rfl) (by kernel_rfl) (Ev.assign rfl) rfl ?_
            refine WK.done (by kernel_rfl) (kr26 _ _ _ ?_)
            refine kh9 _ _ _ ?_
            refine CW.region fun kR27 kr27 => ?_  -- region 4
            refine WL.ev (Ev.move rfl) rfl ?_
            first | refine WL.ev (Ev.addIn rfl rfl (by omega)) rfl ?_ | refine WL.ev (Ev.add rfl rfl) rfl ?_
            refine WL.ev (Ev.assign rfl) rfl ?_
            refine WL.nil (kr27 _ _ _ ?_)
            refine ⟨rfl, (i + 1, ((C.getD i 0 + 0 + c) / 18446744073709551616), C.set i ((C.getD i 0 + 0 + c) % 18446744073709551616)), ?_, ?_, ?_⟩
            ·
              repeat (first | exact Subs.nil | refine Subs.cons rfl ?_ | refine Subs.consI rfl (by omega) ?_)
            ·
              have hsub : (tn != less) = false := by simpa using hneq
              refine ⟨⟨fun q => ?_, fun q => (by rw [hsub] at q; cases q)⟩, hB, hb4, hch⟩
              have hst := (hM.a q).step (by omega) hwv
              rw [hz] at hst
              exact hst
            ·
              show 67 - (i + 1) < 67 - i; omega
      ·
        try simp only [decide_eq_true_eq, decide_eq_false_iff_not, Decidable.not_not, Bool.and_eq_true, Bool.or_eq_true, Bool.not_eq_true', Bool.not_eq_false', ne_eq, Int.not_lt, Int.not_le] at hc3
        have hstop := hc3
        refine CW.exit ?_  -- exit 0
        refine bodyA.norm0 rfl ?_
        exact ⟨C, hB, by omega, hCw, hM.done rfl hL ha hstop, hch⟩

end Go.Proofs.YtkkklaodligpdaaDoor

/- Two's complement: what a whole sum is. No condition. -/
namespace Go.Proofs.YtkkklaodligpdaaDoor
open Go Sx Wd
set_option linter.unusedVariables false
set_option linter.unusedSimpArgs false
set_option exponentiation.threshold 5000

def BB : Nat := 18446744073709551616 ^ 66
def MM : Nat := 18446744073709551616 ^ 67
theorem MM_eq : MM = BB * 18446744073709551616 := Nat.pow_succ ..
theorem BB_pos : 0 < BB := Nat.pow_pos (by decide)
/-- Words that stand for S. -/
structure Rep (L : List Nat) (S : Int) : Prop where
  len : L.length = 67
  w : W64 L
  eq : (tv L : Int) = S % (MM : Int)
theorem Rep.zero : Rep (List.replicate 67 0) 0 := ⟨by simp, fun x hx => by rw [List.mem_replicate] at hx; rw [hx.2]; decide, by rw [tv_zero]; simp⟩
theorem emod_of {a S M c : Int} (h0 : 0 ≤ a) (h1 : a < M) (h : a = S + c * M) : a = S % M := by
  have := Int.emod_eq_of_lt h0 h1
  rw [← this, h]
  exact Int.add_mul_emod_self_right ..
theorem MvR.rep {sub : Bool} {L W C : List Nat} {a_ : Nat} {S : Int} (h : MvR sub L W a_ C) (hr : Rep L S) (hC : C.length = 67) (hw : W64 C) :
    Rep C (if sub = true then S - ((tv W * 18446744073709551616 ^ a_ : Nat) : Int) else S + ((tv W * 18446744073709551616 ^ a_ : Nat) : Int)) := by
  have h1 : tv C < MM := by have := tv_lt hw; rw [hC] at this; exact this
  obtain ⟨_, _, he⟩ := hr
  have hd := Int.emod_add_mul_ediv S (MM : Int)
  refine ⟨hC, hw, ?_⟩
  generalize hX : tv W * 18446744073709551616 ^ a_ = X at h ⊢
  cases sub
  · obtain ⟨c, hc, e⟩ := h.1 rfl
    rw [hX, show (18446744073709551616 : Nat) ^ 67 = MM from rfl] at e
    rw [if_neg (by simp)]
    refine emod_of (c := -(S / (MM : Int)) - (c : Int)) (by omega) (by omega) ?_
    have e' : (tv C : Int) + (c : Int) * (MM : Int) = (tv L : Int) + (X : Int) := by exact_mod_cast e
    rw [Int.sub_mul, Int.neg_mul, Int.mul_comm (S / (MM : Int))]
    omega
  · obtain ⟨c, hc, e⟩ := h.2 rfl
    rw [hX, show (18446744073709551616 : Nat) ^ 67 = MM from rfl] at e
    rw [if_pos rfl]
    refine emod_of (c := -(S / (MM : Int)) + (c : Int)) (by omega) (by omega) ?_
    have e' : (tv C : Int) + (X : Int) = (tv L : Int) + (c : Int) * (MM : Int) := by exact_mod_cast e
    rw [Int.add_mul, Int.neg_mul, Int.mul_comm (S / (MM : Int))]
    omega
theorem Rep.split {L : List Nat} {S : Int} (hr : Rep L S) : tv L = tv (L.take 66) + L.getD 66 0 * BB ∧ tv (L.take 66) < BB := by
  have h1 := tv_take (l := L) (i := 66) (by rw [hr.len]; decide)
  rw [show L.take (66 + 1) = L from List.take_of_length_le (by rw [hr.len]; decide)] at h1
  refine ⟨h1, ?_⟩
  have := tv_lt (l := L.take 66) (fun x hx => hr.w x (List.mem_of_mem_take hx))
  rwa [List.length_take, hr.len] at this
/-- A sum within its bounds: the highest word, and what is below. -/
theorem Rep.pos {L : List Nat} {S : Int} (hr : Rep L S) (h0 : 0 ≤ S) (h1 : S < (16384 * BB : Nat)) : L.getD 66 0 < 16384 ∧ (tv L : Int) = S := by
  obtain ⟨h2, h3⟩ := hr.split
  have hM := MM_eq
  have he := hr.eq
  rw [Int.emod_eq_of_lt h0 (by omega)] at he
  refine ⟨?_, he⟩
  generalize L.getD 66 0 = x at h2 ⊢
  have h4 : x * BB < 16384 * BB := by omega
  exact Nat.lt_of_mul_lt_mul_right h4
theorem Rep.neg {L : List Nat} {S : Int} (hr : Rep L S) (h0 : S < 0) (h1 : -((16384 * BB : Nat) : Int) < S) : 18446744073709535232 ≤ L.getD 66 0 ∧ (L.getD 66 0 = 18446744073709535232 → 0 < tv (L.take 66)) ∧ (tv L : Int) = S + (MM : Int) := by
  obtain ⟨h2, h3⟩ := hr.split
  have hM := MM_eq
  have he := hr.eq
  have e : S % (MM : Int) = S + (MM : Int) := (emod_of (c := 1) (by omega) (by omega) (by omega)).symm
  rw [e] at he
  refine ⟨?_, fun q => ?_, he⟩
  · generalize L.getD 66 0 = x at h2 ⊢
    have h4 : 18446744073709551616 * BB < (x + 16385) * BB := by rw [Nat.add_mul]; omega
    have := Nat.lt_of_mul_lt_mul_right h4
    omega
  · rw [q] at h2; omega
theorem i64shr14 {x : Nat} (hx : x < 18446744073709551616) : (IntKind.i64.wrap (x : Int)).fdiv (2 ^ (min (14 : Int).toNat IntKind.i64.bits)) = if x < 9223372036854775808 then ((x / 16384 : Nat) : Int) else ((x : Int) - 18446744073709551616) / 16384 := by
  show (IntKind.i64.wrap (x : Int)).fdiv 16384 = _
  rw [Int.fdiv_eq_ediv_of_nonneg _ (by omega), IntKind.wrap_i64]
  split <;> omega
end Go.Proofs.YtkkklaodligpdaaDoor

/- Package super: great. No condition. -/
namespace Go.Proofs.YtkkklaodligpdaaDoor
open Go Sx Wd
set_option linter.unusedVariables false
set_option linter.unusedSimpArgs false
set_option exponentiation.threshold 5000

theorem tv_take0 {L : List Nat} : ∀ {i : Nat}, i ≤ L.length → (∀ j, j < i → L.getD j 0 = 0) → tv (L.take i) = 0
  | 0, _, _ => by simp [tv]
  | i + 1, h, hz => by rw [tv_take (by omega), tv_take0 (by omega) (fun j hj => hz j (by omega)), hz i (by omega)]; simp
section
variable {P : Program} {s : Sl} {w : World} {ty : TypeId} {x q : Operand}
/-- a[:j] of an array by its address. -/
theorem Sx.Ev.sliceAH (j : Nat) {t b m e : Nat} {es be : Nat} {k' : IntKind} {hi : Int} {de : TypeDesc} {ze : Value} {sz by_ : Nat} {z : Value} [hT : HasT P t (.array m e) sz by_ z] [hE : HasT P e de es be ze]
    (hx : opnd s x = some (.pointer (some ⟨b, 0, none⟩))) (hq : opnd s q = some (.int k' hi)) (hj : hi = (j : Int)) (h2 : j ≤ m) : Ev P s (.slice t x none (some q) none) ty w (.slice (some ⟨b, 0, none⟩) j m) w := fun ρ d' pos af g hρ => by
  have e1 := hρ x _ hx
  have e3 := hρ q _ hq
  subst hj
  have h1 : (0 : Int) ≤ (j : Int) := by omega
  have h3 : (j : Int) ≤ (m : Int) := by omega
  simp [execOp, e1, e3, Instr.sliceAt, Instr.slice, hT.underlying, Instr.sliceBounds, Instr.sliceBound, asIntOf, Instr.sureAddr, h1, h2, h3, hE.sizeOf]
  try (intro _; simp [Addr.add])
end
structure KGr (L : List Nat) (R : List Value) (T : TypeId) (b : Nat) (w0 : World) (i : Nat) (w : World) : Prop where
  le : i ≤ 66
  z : ∀ j, j < i → L.getD j 0 = 0
  hB : TB w b T L R
  ch : Chg [] w0 w

set_option maxRecDepth 8000 in
theorem great_spec {T : TypeId} {R : List Value} (b : Nat) (L : List Nat) (S : Int) (w : World) (hB : TB w b T L R) (hr : Rep L S) (h1 : -((16384 * BB : Nat) : Int) < S) (h2 : S < (16384 * BB : Nat)) : Ret Tryd.prog 74 [.pointer (some ⟨b, 0, none⟩)] w fun u w' => u = .bool false ∧ Chg [] w w' := by
  have hL := hr.len
  have h66 := hr.w.getD 66
  have hch : Chg [] w w := Chg.refl _ _
  refine Ret.enter Tryd.func74 rfl rfl ?_
  simp only [args0, Nat.zero_add, Nat.reduceAdd]
  refine CW.seq fun kK1 kh1 => ?_
  refine CW.region fun kR2 kr2 => ?_  -- region 0
  refine WL.ev (Ev.assign rfl) rfl ?_
  refine WL.nil (kr2 _ _ _ ?_)
  refine kh1 _ _ _ ?_
  refine CW.seq fun kK3 kh3 => ?_
  refine CW.region fun kR4 kr4 => ?_  -- region 1
  refine WL.ev (Ev.assign rfl) rfl ?_
  refine WL.nil (kr4 _ _ _ ?_)
  refine kh3 _ _ _ ?_
  refine CW.seq fun kK5 kh5 => ?_
  refine CW.region fun kR6 kr6 => ?_  -- region 2
  refine WL.ev (Ev.move rfl) rfl ?_
  refine WL.ev (Ev.move rfl) rfl ?_
  refine WL.ev (Ev.quoIn rfl rfl (by decide) (by decide) (by decide)) rfl ?_
  rw [show (4238 : Int) / 64 = ((66 : Nat) : Int) by decide]
  refine WL.ev (Ev.nilPtr rfl) rfl ?_
  refine WL.ev (Ev.ixT (66) rfl rfl (by omega) (by omega)) rfl ?_
  refine WL.ev (Ev.load rfl rfl (hB.t64 (by first | omega | (simp; omega)))) rfl ?_
  refine WL.ev (Ev.conv rfl rfl) rfl ?_
  refine WL.ev (Ev.move rfl) rfl ?_
  refine WL.ev (Ev.remIn rfl rfl (by decide) (by decide)) rfl ?_
  rw [show (4238 : Int) % 64 = 14 by decide]
  refine WL.ev (Ev.shr rfl rfl (by decide)) rfl ?_
  rw [i64shr14 h66]
  rcases Int.lt_or_le S 0 with hS | hS
  ·
    have hn := hr.neg hS h1
    rw [if_neg (by omega), show ((L.getD 66 0 : Nat) : Int) - 18446744073709551616 = -16384 + (((L.getD 66 0 : Nat) : Int) - 18446744073709535232) by omega, show (-16384 + (((L.getD 66 0 : Nat) : Int) - 18446744073709535232)) / 16384 = -1 by omega]
    refine WL.ev (Ev.assign rfl) rfl ?_
    refine WL.nil (kr6 _ _ _ ?_)
    refine kh5 _ _ _ ?_
    refine CW.seq fun kK7 kh7 => ?_
    refine CW.seq fun kK8 kh8 => ?_
    refine CW.region fun kR9 kr9 => ?_  -- region 3
    refine WL.ev (Ev.move rfl) rfl ?_
    refine WL.ev (Ev.neq rfl rfl) rfl ?_
    refine WL.nil (kr9 _ _ _ ?_)
    refine kh8 _ _ _ ?_
    refine CW.cond rfl (fun hc1 => ?_) (fun hc1 => ?_)  -- if 18
    ·
      try simp only [decide_eq_true_eq, decide_eq_false_iff_not, Decidable.not_not, Bool.and_eq_true, Bool.or_eq_true, Bool.not_eq_true', Bool.not_eq_false', ne_eq, Int.not_lt, Int.not_le] at hc1
      simp at hc1
    ·
      try simp only [decide_eq_true_eq, decide_eq_false_iff_not, Decidable.not_not, Bool.and_eq_true, Bool.or_eq_true, Bool.not_eq_true', Bool.not_eq_false', ne_eq, Int.not_lt, Int.not_le] at hc1
      refine CW.skip ?_
      refine kh7 _ _ _ ?_
      refine CW.seq fun kK10 kh10 => ?_
      refine CW.seq fun kK11 kh11 => ?_
      refine CW.region fun kR12 kr12 => ?_  -- region 5
      refine WL.ev (Ev.move rfl) rfl ?_
      refine WL.ev (Ev.move rfl) rfl ?_
      refine WL.ev (Ev.quoIn rfl rfl (by decide) (by decide) (by decide)) rfl ?_
      rw [show (4238 : Int) / 64 = ((66 : Nat) : Int) by decide]
      refine WL.ev (Ev.nilPtr rfl) rfl ?_
      refine WL.ev (Ev.ixT (66) rfl rfl (by omega) (by omega)) rfl ?_
      refine WL.ev (Ev.load rfl rfl (hB.t64 (by first | omega | (simp; omega)))) rfl ?_
      refine WL.ev (Ev.move rfl) rfl ?_
      refine WL.ev (Ev.remIn rfl rfl (by decide) (by decide)) rfl ?_
      rw [show (4238 : Int) % 64 = 14 by decide]
      refine WL.ev (Ev.subIn rfl rfl (by decide)) rfl ?_
      rw [show (64 : Int) - 14 = ((50 : Nat) : Int) by decide]
      refine WL.ev (Ev.shlU64 rfl rfl) rfl ?_
      refine WL.ev (Ev.neq rfl rfl) rfl ?_
      refine WL.nil (kr12 _ _ _ ?_)
      refine kh11 _ _ _ ?_
      refine CW.cond rfl (fun hc2 => ?_) (fun hc2 => ?_)  -- if 31
      ·
        try simp only [decide_eq_true_eq, decide_eq_false_iff_not, Decidable.not_not, Bool.and_eq_true, Bool.or_eq_true, Bool.not_eq_true', Bool.not_eq_false', ne_eq, Int.not_lt, Int.not_le] at hc2
        refine CW.seq fun kK13 kh13 => ?_
        refine CW.region fun kR14 kr14 => ?_  -- region 6
        refine WL.ev (Ev.assign rfl) rfl ?_
        refine WL.nil (kr14 _ _ _ ?_)
        refine kh13 _ _ _ ?_
        refine CW.ret ?_
        refine bodyA.ret1 rfl rfl ?_
        exact ⟨rfl, hch⟩
      ·
        try simp only [decide_eq_true_eq, decide_eq_false_iff_not, Decidable.not_not, Bool.and_eq_true, Bool.or_eq_true, Bool.not_eq_true', Bool.not_eq_false', ne_eq, Int.not_lt, Int.not_le] at hc2
        have hx50 := hc2
        refine CW.skip ?_
        refine kh10 _ _ _ ?_
        refine CW.seq fun kK15 kh15 => ?_
        refine CW.seq fun kK16 kh16 => ?_
        refine CW.region fun kR17 kr17 => ?_  -- region 7
        refine WL.ev (Ev.move rfl) rfl ?_
        refine WL.ev (Ev.nilPtr rfl) rfl ?_
        refine WL.ev (Ev.move rfl) rfl ?_
        refine WL.ev (Ev.quoIn rfl rfl (by decide) (by decide) (by decide)) rfl ?_
        rw [show (4238 : Int) / 64 = ((66 : Nat) : Int) by decide]
        refine WL.ev (Ev.sliceAH 66 rfl rfl rfl (by decide)) rfl ?_
        refine WL.ev (Ev.len rfl) rfl ?_
        refine WL.ev (Ev.move rfl) rfl ?_
        refine WL.nil (kr17 _ _ _ ?_)
        refine kh16 _ _ _ ?_
        refine CW.block ?_
        refine CW.loop (S := fun i : Nat => [(36, .slice (some ⟨b, 0, none⟩) 66 67), (37, .int .i64 66), (38, .int .i64 (i : Int))]) (Inv := KGr L R T b w) (mu := fun i => 66 - i) (0) ?_ ?_ ?_
        ·
          exact ⟨by omega, fun j hj => by omega, hB, hch⟩
        ·
          repeat (first | exact Subs.nil | refine Subs.cons rfl ?_ | refine Subs.consI rfl (by omega) ?_)
        ·
          rintro i wr ⟨hi66, hz, hB, hch⟩
          have hCi := hr.w.getD i
          refine CW.seq fun kK18 kh18 => ?_
          refine CW.region fun kR19 kr19 => ?_  -- region 8
          refine WL.ev (Ev.lss rfl rfl) rfl ?_
          refine WL.nil (kr19 _ _ _ ?_)
          refine kh18 _ _ _ ?_
          refine CW.seq fun kK20 kh20 => ?_
          refine CW.cond rfl (fun hc3 => ?_) (fun hc3 => ?_)  -- if 39
          ·
            try simp only [decide_eq_true_eq, decide_eq_false_iff_not, Decidable.not_not, Bool.and_eq_true, Bool.or_eq_true, Bool.not_eq_true', Bool.not_eq_false', ne_eq, Int.not_lt, Int.not_le] at hc3
            refine CW.skip ?_
            refine kh20 _ _ _ ?_
            refine CW.seq fun kK21 kh21 => ?_
            refine CW.block ?_
            refine CW.seq fun kK22 kh22 => ?_
            refine CW.region fun kR23 kr23 => ?_  -- region 9
            refine WL.ev (Ev.ixB (i) rfl rfl (by omega) (by omega)) rfl ?_
            refine WL.ev (Ev.load rfl rfl (hB.t64 (by first | omega | (simp; omega)))) rfl ?_
            refine WL.ev (Ev.assign rfl) rfl ?_
            refine WL.nil (kr23 _ _ _ ?_)
            refine kh22 _ _ _ ?_
            refine CW.seq fun kK24 kh24 => ?_
            refine CW.region fun kR25 kr25 => ?_  -- region 10
            refine WL.ev (Ev.move rfl) rfl ?_
            refine WL.ev (Ev.neq rfl rfl) rfl ?_
            refine WL.nil (kr25 _ _ _ ?_)
            refine kh24 _ _ _ ?_
            refine CW.cond rfl (fun hc4 => ?_) (fun hc4 => ?_)  -- if 43
            ·
              try simp only [decide_eq_true_eq, decide_eq_false_iff_not, Decidable.not_not, Bool.and_eq_true, Bool.or_eq_true, Bool.not_eq_true', Bool.not_eq_false', ne_eq, Int.not_lt, Int.not_le] at hc4
              refine CW.seq fun kK26 kh26 => ?_
              refine CW.region fun kR27 kr27 => ?_  -- region 11
              refine WL.ev (Ev.assign rfl) rfl ?_
              refine WL.nil (kr27 _ _ _ ?_)
              refine kh26 _ _ _ ?_
              refine CW.ret ?_
              refine bodyA.ret1 rfl rfl ?_
              exact ⟨rfl, hch⟩
            ·
              try simp only [decide_eq_true_eq, decide_eq_false_iff_not, Decidable.not_not, Bool.and_eq_true, Bool.or_eq_true, Bool.not_eq_true', Bool.not_eq_false', ne_eq, Int.not_lt, Int.not_le] at hc4
              refine CW.skip ?_
              refine kh21 _ _ _ ?_
              refine CW.region fun kR28 kr28 => ?_  -- region 12
              first | refine WL.ev (Ev.addIn rfl rfl (by omega)) rfl ?_ | refine WL.ev (Ev.add rfl rfl) rfl ?_
              refine WL.ev (Ev.move rfl) rfl ?_
              refine WL.nil (kr28 _ _ _ ?_)
              refine ⟨rfl, i + 1, ?_, ?_, ?_⟩
              ·
                repeat (first | exact Subs.nil | refine Subs.cons rfl ?_ | refine Subs.consI rfl (by omega) ?_)
              ·
                exact ⟨by omega, fun j hj => by rcases Nat.lt_or_ge j i with q | q; exact hz j q; rw [show j = i by omega]; omega, hB, hch⟩
              ·
                omega
          ·
            try simp only [decide_eq_true_eq, decide_eq_false_iff_not, Decidable.not_not, Bool.and_eq_true, Bool.or_eq_true, Bool.not_eq_true', Bool.not_eq_false', ne_eq, Int.not_lt, Int.not_le] at hc3
            exfalso
            have h0 := tv_take0 (L := L) (i := 66) (by omega) (fun j hj => hz j (by omega))
            have := hn.2.1 (by omega)
            omega
  ·
    have hp := hr.pos hS h2
    rw [if_pos (by omega), show L.getD 66 0 / 16384 = 0 by omega]
    refine WL.ev (Ev.assign rfl) rfl ?_
    refine WL.nil (kr6 _ _ _ ?_)
    refine kh5 _ _ _ ?_
    refine CW.seq fun kK29 kh29 => ?_
    refine CW.seq fun kK30 kh30 => ?_
    refine CW.region fun kR31 kr31 => ?_  -- region 3
    refine WL.ev (Ev.move rfl) rfl ?_
    refine WL.ev (Ev.neq rfl rfl) rfl ?_
    refine WL.nil (kr31 _ _ _ ?_)
    refine kh30 _ _ _ ?_
    refine CW.cond rfl (fun hc5 => ?_) (fun hc5 => ?_)  -- if 18
    ·
      try simp only [decide_eq_true_eq, decide_eq_false_iff_not, Decidable.not_not, Bool.and_eq_true, Bool.or_eq_true, Bool.not_eq_true', Bool.not_eq_false', ne_eq, Int.not_lt, Int.not_le] at hc5
      refine CW.seq fun kK32 kh32 => ?_
      refine CW.region fun kR33 kr33 => ?_  -- region 4
      refine WL.ev (Ev.move rfl) rfl ?_
      refine WL.ev (Ev.neq rfl rfl) rfl ?_
      refine WL.ev (Ev.assign rfl) rfl ?_
      refine WL.nil (kr33 _ _ _ ?_)
      refine kh32 _ _ _ ?_
      refine CW.ret ?_
      refine bodyA.ret1 rfl rfl ?_
      exact ⟨rfl, hch⟩
    ·
      try simp only [decide_eq_true_eq, decide_eq_false_iff_not, Decidable.not_not, Bool.and_eq_true, Bool.or_eq_true, Bool.not_eq_true', Bool.not_eq_false', ne_eq, Int.not_lt, Int.not_le] at hc5
      simp at hc5

end Go.Proofs.YtkkklaodligpdaaDoor

/- Package super: size. No condition. -/
namespace Go.Proofs.YtkkklaodligpdaaDoor
open Go Sx Wd
set_option linter.unusedVariables false
set_option linter.unusedSimpArgs false
set_option exponentiation.threshold 5000

theorem splice_all : ∀ (vs pre l : List Value), l.length = vs.length → Sx.splice (pre ++ l) pre.length vs = pre ++ vs
  | [], pre, l, h => by
    have : l = [] := List.length_eq_zero_iff.1 (by simpa using h)
    subst this; simp [Sx.splice]
  | v :: vs, pre, [], h => by simp at h
  | v :: vs, pre, x :: l, h => by
    have := splice_all vs (pre ++ [v]) l (by simpa using h)
    simp only [Sx.splice]
    rw [show (pre ++ x :: l).set pre.length v = pre ++ [v] ++ l by simp]
    simpa using this
theorem TB.nil {w : World} {b : Nat} {T : TypeId} {L : List Nat} (h : TB w b T L []) : BK w b T (L.map u64v) := by
  unfold TB at h; rwa [List.append_nil] at h
theorem TB.of {w : World} {b : Nat} {T : TypeId} {L : List Nat} (h : BK w b T (L.map u64v)) : TB w b T L [] := by
  unfold TB; rwa [List.append_nil]

set_option maxRecDepth 8000 in
theorem size_spec (L : List Nat) (w : World) (hL : L.length = 67) (hW : W64 L) : Ret Tryd.prog 37 [.agg (L.map u64v).toArray] w fun u w' => ∃ C, u = .agg (C.map u64v).toArray ∧ C.length = 67 ∧ W64 C ∧ tv C = (if 9223372036854775808 ≤ L.getD 66 0 then (MM - tv L) % MM else tv L) ∧ Chg [] w w' := by
  have hch : Chg [] w w := Chg.refl _ _
  refine Ret.enter Tryd.func37 rfl rfl ?_
  simp only [args0, Nat.zero_add, Nat.reduceAdd]
  refine CW.seq fun kK1 kh1 => ?_
  refine CW.region fun kR2 kr2 => ?_  -- region 0
  refine WL.boxB (l := L.map u64v) rfl rfl rfl fun b1 wm1 hb1 hcm1 hge1 => ?_
  have hB1 : TB wm1 b1 75 L [] := TB.of hb1
  have hch := hch.trans hcm1
  refine WL.allocB (l := (List.replicate 67 0).map u64v) rfl rfl fun b2 wm2 hb2 hcm2 hge2 => ?_
  have hne : b1 ≠ b2 := by have := hB1.lt; omega
  have hB1 := hB1.keep0 hcm2
  have hch := hch.trans hcm2
  have hw2 := hcm1.size
  have hw3 := hcm2.size
  refine WL.nil (kr2 _ _ _ ?_)
  refine kh1 _ _ _ ?_
  refine CW.seq fun kK3 kh3 => ?_
  refine CW.seq fun kK4 kh4 => ?_
  refine CW.region fun kR5 kr5 => ?_  -- region 1
  refine WL.call hasF39 rfl rfl (neg_spec b1 L _ hB1 hL hW) fun v w1 h' => ?_
  obtain ⟨rfl, rfl⟩ := h'
  refine WL.nil (kr5 _ _ _ ?_)
  refine kh4 _ _ _ ?_
  refine CW.cond rfl (fun hc1 => ?_) (fun hc1 => ?_)  -- if 3
  ·
    try simp only [decide_eq_true_eq, decide_eq_false_iff_not, Decidable.not_not, Bool.and_eq_true, Bool.or_eq_true, Bool.not_eq_true', Bool.not_eq_false', ne_eq, Int.not_lt, Int.not_le] at hc1
    have hc63 : 9223372036854775808 ≤ L.getD 66 0 := by simpa using hc1
    refine CW.region fun kR6 kr6 => ?_  -- region 2
    refine WL.call hasF54 rfl rfl (minus_spec b1 L _ hB1 hL hW) fun v w2 h' => ?_
    obtain ⟨C, hB1, hC67, hCW, hCt, hC4⟩ := h'
    have hb2 := hb2.keep hC4 (by simp; omega)
    have hch := hch.step hC4 (fun y hy => by simp only [List.mem_singleton] at hy; subst hy; exact .inr (by omega))
    refine WL.nil (kr6 _ _ _ ?_)
    refine kh3 _ _ _ ?_
    refine CW.seq fun kK7 kh7 => ?_
    refine CW.region fun kR8 kr8 => ?_  -- region 3
    refine WL.ev (Ev.loadA rfl rfl (TB.nil hB1) (by simp [hC67])) rfl ?_
    refine WL.storeB (l' := C.map u64v) rfl rfl (by simp [hC67]) (by intro v hv; obtain ⟨x, _, rfl⟩ := List.mem_map.1 hv; rfl) hb2 (by simp [hC67]) (splice_all (C.map u64v) [] ((List.replicate 67 0).map u64v) (by simp [hC67])) fun ws hb2_ hcs => ?_
    have hch := hch.step hcs (fun y hy => by simp only [List.mem_singleton] at hy; subst hy; exact .inr (by omega))
    refine WL.nil (kr8 _ _ _ ?_)
    refine kh7 _ _ _ ?_
    refine CW.ret ?_
    refine bodyA.retR1 rfl (RVal.cell rfl (BK.varA hb2_ rfl (by simp [hC67]))) ?_
    exact ⟨C, rfl, hC67, hCW, by rw [if_pos hc63]; exact hCt, hch⟩
  ·
    try simp only [decide_eq_true_eq, decide_eq_false_iff_not, Decidable.not_not, Bool.and_eq_true, Bool.or_eq_true, Bool.not_eq_true', Bool.not_eq_false', ne_eq, Int.not_lt, Int.not_le] at hc1
    have hc63 : ¬ 9223372036854775808 ≤ L.getD 66 0 := by simpa using hc1
    refine CW.skip ?_
    refine kh3 _ _ _ ?_
    refine CW.seq fun kK9 kh9 => ?_
    refine CW.region fun kR10 kr10 => ?_  -- region 3
    refine WL.ev (Ev.loadA rfl rfl (TB.nil hB1) (by simp [hL])) rfl ?_
    refine WL.storeB (l' := L.map u64v) rfl rfl (by simp [hL]) (by intro v hv; obtain ⟨x, _, rfl⟩ := List.mem_map.1 hv; rfl) hb2 (by simp [hL]) (splice_all (L.map u64v) [] ((List.replicate 67 0).map u64v) (by simp [hL])) fun ws hb2_ hcs => ?_
    have hch := hch.step hcs (fun y hy => by simp only [List.mem_singleton] at hy; subst hy; exact .inr (by omega))
    refine WL.nil (kr10 _ _ _ ?_)
    refine kh9 _ _ _ ?_
    refine CW.ret ?_
    refine bodyA.retR1 rfl (RVal.cell rfl (BK.varA hb2_ rfl (by simp [hL]))) ?_
    exact ⟨L, rfl, hL, hW, by rw [if_neg hc63], hch⟩

end Go.Proofs.YtkkklaodligpdaaDoor
