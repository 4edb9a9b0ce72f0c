/- Part 3 of what the proof rests on. No condition. -/
import Derived.Test.YtkkklaodligpdaaDoorTu2
/- Package dyad: forms. No condition. -/
namespace Go.Proofs.YtkkklaodligpdaaDoor
open Go Sx Wd
set_option linter.unusedVariables false
set_option linter.unusedSimpArgs false

set_option maxRecDepth 4000 in
theorem lower_spec (v : Value) (l : List Nat) (s : Nat) (w : World) (h : NU w v l) (hs : s < 32) (hp : 0 < l.length) (hlast : l.getD (l.length - 1) 0 ≠ 0) : Ret Tryd.prog 64 [v, .int .i64 (s : Int)] w fun u w' => NU w' u (wd (val l / 2 ^ s)) ∧ Chg [] w w' := by
  obtain ⟨⟨al, cl, rfl, hcapl, hrl⟩, hWl, hll⟩ := h
  have hch : Chg [] w w := Chg.refl _ _
  refine Ret.enter Tryd.func64 rfl rfl ?_
  simp only [args0, Nat.zero_add, Nat.reduceAdd]
  refine CW.seq fun kK1 kh1 => ?_
  refine CW.region fun kR2 kr2 => ?_  -- region 0
  refine WL.ev (Ev.assign rfl) rfl ?_
  refine WL.nil (kr2 _ _ _ ?_)
  refine kh1 _ _ _ ?_
  refine CW.seq fun kK3 kh3 => ?_
  refine CW.region fun kR4 kr4 => ?_  -- region 1
  refine WL.ev (Ev.move rfl) rfl ?_
  refine WL.ev (Ev.len rfl) rfl ?_
  refine WL.makeU ((l).length) ((l).length) rfl rfl (by omega) (by omega) (by omega) (by omega) (by omega) rfl fun b11 wm11 hb11 hcm11 hge11 => ?_
  have hgehch11 := Nat.le_trans hch.size hge11
  have hch := hch.trans hcm11
  refine WL.ev (Ev.assign rfl) rfl ?_
  refine WL.nil (kr4 _ _ _ ?_)
  refine kh3 _ _ _ ?_
  refine CW.seq fun kK5 kh5 => ?_
  refine CW.seq fun kK6 kh6 => ?_
  refine CW.region fun kR7 kr7 => ?_  -- region 2
  refine WL.ev (Ev.move rfl) rfl ?_
  refine WL.ev (Ev.len rfl) rfl ?_
  refine WL.ev (Ev.move rfl) rfl ?_
  refine WL.nil (kr7 _ _ _ ?_)
  refine kh6 _ _ _ ?_
  refine CW.block ?_
  refine CW.loop (S := fun g : Nat × List Nat => [(0, .slice al l.length cl), (1, .int .i64 (s : Int)), (5, .slice (some ⟨b11, 0, none⟩) l.length l.length), (12, .slice al l.length cl), (13, .int .i64 (l.length : Int)), (14, .int .i64 (g.1 : Int))]) (Inv := KD l s w b11) (mu := fun g => l.length - g.1) ((0, List.replicate l.length 0)) ?_ ?_ ?_
  ·
    exact ⟨DownI.zero l _ s (by simp) (W_replicate _), hb11, hch⟩
  ·
    repeat (first | exact Subs.nil | refine Subs.cons rfl ?_ | refine Subs.consI rfl (by omega) ?_)
  ·
    rintro ⟨i, L⟩ wr ⟨hAd, hb11, hch⟩
    dsimp only at hAd hb11 hch
    have hiX := hAd.le
    have hLl := hAd.len
    have hWL := hAd.w
    refine CW.seq fun kK8 kh8 => ?_
    refine CW.region fun kR9 kr9 => ?_  -- region 3
    refine WL.ev (Ev.lss rfl rfl) rfl ?_
    refine WL.nil (kr9 _ _ _ ?_)
    refine kh8 _ _ _ ?_
    refine CW.seq fun kK10 kh10 => ?_
    refine CW.cond rfl (fun hc1 => ?_) (fun hc1 => ?_)  -- if 15
    ·
      try simp only [decide_eq_true_eq, decide_eq_false_iff_not, Decidable.not_not, Bool.and_eq_true, Bool.or_eq_true, Bool.not_eq_true', Bool.not_eq_false', ne_eq, Int.not_lt, Int.not_le] at hc1
      refine CW.skip ?_
      refine kh10 _ _ _ ?_
      refine CW.seq fun kK11 kh11 => ?_
      refine CW.block ?_
      refine CW.seq fun kK12 kh12 => ?_
      refine CW.region fun kR13 kr13 => ?_  -- region 4
      refine WL.ev (Ev.move rfl) rfl ?_
      refine WL.ev (Ev.ixR (i) rfl rfl (hrl.keep0 hch) (by omega) (by omega) (by simp; omega)) rfl ?_
      refine WL.ev (Ev.load rfl rfl ((hrl.keep0 hch).u32 (by first | omega | (simp; omega)))) rfl ?_
      have hw18 := hWl.getD (i)
      refine WL.ev (Ev.assign rfl) rfl ?_
      refine WL.ev (Ev.assign rfl) rfl ?_
      refine WL.nil (kr13 _ _ _ ?_)
      refine kh12 _ _ _ ?_
      refine CW.seq fun kK14 kh14 => ?_
      refine CW.region fun kR15 kr15 => ?_  -- region 5
      refine WL.ev (Ev.move rfl) rfl ?_
      refine WL.ev (Ev.move rfl) rfl ?_
      refine WL.ev (Ev.move rfl) rfl ?_
      refine WL.ev (Ev.move rfl) rfl ?_
      refine WL.ev (Ev.shrU rfl rfl (by simp only [IntKind.bits]; omega)) rfl ?_
      have hdl : l.getD i 0 / 2 ^ s ≤ l.getD i 0 := Nat.div_le_self _ _
      refine WL.ev (Ev.ixB (i) rfl rfl (by omega) (by omega)) rfl ?_
      refine WL.storeU rfl rfl hb11 (by first | omega | (simp; omega)) fun ws1 hb11_ hcs1 => ?_
      have hch := hch.step hcs1 (fun y hy => .inr (by simp only [List.mem_singleton] at hy; subst hy; first | assumption | omega))
      have hb11 := hb11_
      refine WL.nil (kr15 _ _ _ ?_)
      refine kh14 _ _ _ ?_
      refine CW.seqM 33 (decide (0 < s ∧ i + 1 < l.length)) ?_ ?_
      ·
        refine CW.region fun kR16 kr16 => ?_  -- region 6
        refine WL.ev (Ev.move rfl) rfl ?_
        refine WL.ev (Ev.gtr rfl rfl) rfl ?_
        refine WL.ev (Ev.move rfl) rfl ?_
        refine WL.boolCase (fun hg2 => ?_) (fun hg2 => ?_)
        ·
          try simp only [decide_eq_true_eq, decide_eq_false_iff_not, Decidable.not_not, Bool.and_eq_true, Bool.or_eq_true, Bool.not_eq_true', Bool.not_eq_false', ne_eq, Int.not_lt, Int.not_le] at hg2
          refine WL.want rfl rfl rfl rfl ?_
          refine WL.ev (Ev.move rfl) rfl ?_
          refine WL.want rfl rfl rfl rfl ?_
          first | refine WL.ev (Ev.addIn rfl rfl (by omega)) rfl ?_ | refine WL.ev (Ev.add rfl rfl) rfl ?_
          refine WL.want rfl rfl rfl rfl ?_
          refine WL.ev (Ev.move rfl) rfl ?_
          refine WL.want rfl rfl rfl rfl ?_
          refine WL.ev (Ev.len rfl) rfl ?_
          refine WL.want rfl rfl rfl rfl ?_
          refine WL.ev (Ev.lss rfl rfl) rfl ?_
          refine WL.ev (Ev.pickT rfl rfl rfl) rfl ?_
          refine WL.nil (kr16 _ _ _ ?_)
          refine ⟨rfl, rfl, Subs.consB rfl ?_ ?_⟩
          ·
            first | (simp; omega) | (refine decide_eq_decide.2 ?_; omega)
          ·
            first | ((repeat (first | exact Subs.refl | refine Subs.drop1 (by rfl) ?_)); done) | ((repeat (first | exact Subs.nil | refine Subs.cons rfl ?_)); done)
        ·
          try simp only [decide_eq_true_eq, decide_eq_false_iff_not, Decidable.not_not, Bool.and_eq_true, Bool.or_eq_true, Bool.not_eq_true', Bool.not_eq_false', ne_eq, Int.not_lt, Int.not_le] at hg2
          refine WL.pass rfl rfl rfl rfl rfl ?_
          refine WL.pass rfl rfl rfl rfl rfl ?_
          refine WL.pass rfl rfl rfl rfl rfl ?_
          refine WL.pass rfl rfl rfl rfl rfl ?_
          refine WL.pass rfl rfl rfl rfl rfl ?_
          refine WL.ev (Ev.pickF rfl rfl rfl) rfl ?_
          refine WL.nil (kr16 _ _ _ ?_)
          refine ⟨rfl, rfl, Subs.consB rfl ?_ ?_⟩
          ·
            first | (simp; omega) | (refine decide_eq_decide.2 ?_; omega)
          ·
            first | ((repeat (first | exact Subs.refl | refine Subs.drop1 (by rfl) ?_)); done) | ((repeat (first | exact Subs.nil | refine Subs.cons rfl ?_)); done)
      ·
        refine CW.cond rfl (fun hc3 => ?_) (fun hc3 => ?_)  -- if 33
        ·
          try simp only [decide_eq_true_eq, decide_eq_false_iff_not, Decidable.not_not, Bool.and_eq_true, Bool.or_eq_true, Bool.not_eq_true', Bool.not_eq_false', ne_eq, Int.not_lt, Int.not_le] at hc3
          refine CW.regionKC 14 15 rfl hmix fun kR17 kr17 hS hdr => ?_  -- region 7
          have hch := hch.trans hdr
          have hb11 := hb11.keep0 hdr
          have hch_r := hch
          have hb11_r := hb11
          refine WK.take 0 rfl (by kernel_rfl) (by kernel_rfl) (by kernel_rfl) (by kernel_rfl) (by kernel_rfl) (by kernel_rfl) hS (fun w' hw' => Ev.move rfl) rfl ?_
          refine WK.take 1 rfl (by kernel_rfl) (by kernel_rfl) (by kernel_rfl) (by kernel_rfl) (by kernel_rfl) (by kernel_rfl) hS (fun w' hw' => Ev.move rfl) rfl ?_
          refine WK.take 2 rfl (by kernel_rfl) (by kernel_rfl) (by kernel_rfl) (by kernel_rfl) (by kernel_rfl) (by kernel_rfl) hS (fun w' hw' => Ev.ixB (i) rfl rfl (by omega) (by omega)) rfl ?_
          refine WK.take 3 rfl (by kernel_rfl) (by kernel_rfl) (by kernel_rfl) (by kernel_rfl) (by kernel_rfl) (by kernel_rfl) hS (fun w' hw' => Ev.load rfl rfl ((hb11_r.keep0 hw').u32 (by simp; omega))) rfl ?_
          rw [getD_set_self (by omega)]
          refine WK.take 4 rfl (by kernel_rfl) (by kernel_rfl) (by kernel_rfl) (by kernel_rfl) (by kernel_rfl) (by kernel_rfl) hS (fun w' hw' => Ev.move rfl) rfl ?_
          refine WK.take 5 rfl (by kernel_rfl) (by kernel_rfl) (by kernel_rfl) (by kernel_rfl) (by kernel_rfl) (by kernel_rfl) hS (fun w' hw' => Ev.move rfl) rfl ?_
          refine WK.take 6 rfl (by kernel_rfl) (by kernel_rfl) (by kernel_rfl) (by kernel_rfl) (by kernel_rfl) (by kernel_rfl) hS (fun w' hw' => Ev.addIn rfl rfl (by omega)) rfl ?_
          refine WK.take 7 rfl (by kernel_rfl) (by kernel_rfl) (by kernel_rfl) (by kernel_rfl) (by kernel_rfl) (by kernel_rfl) hS (fun w' hw' => Ev.ixR ((i + 1)) rfl rfl (hrl.keep0 (hch_r.trans hw')) (by omega) (by omega) (by simp; omega)) rfl ?_
          refine WK.take 8 rfl (by kernel_rfl) (by kernel_rfl) (by kernel_rfl) (by kernel_rfl) (by kernel_rfl) (by kernel_rfl) hS (fun w' hw' => Ev.load rfl rfl ((hrl.keep0 (hch_r.trans hw')).u32 (by first | omega | (simp; omega)))) rfl ?_
          have hw42 := hWl.getD ((i + 1))
          refine WK.take 9 rfl (by kernel_rfl) (by kernel_rfl) (by kernel_rfl) (by kernel_rfl) (by kernel_rfl) (by kernel_rfl) hS (fun w' hw' => Ev.move rfl) rfl ?_
          refine WK.take 10 rfl (by kernel_rfl) (by kernel_rfl) (by kernel_rfl) (by kernel_rfl) (by kernel_rfl) (by kernel_rfl) hS (fun w' hw' => Ev.subIn rfl rfl (by omega)) rfl ?_
          rw [show (32 : Int) - (s : Int) = ((32 - s : Nat) : Int) by omega]
          refine WK.take 11 rfl (by kernel_rfl) (by kernel_rfl) (by kernel_rfl) (by kernel_rfl) (by kernel_rfl) (by kernel_rfl) hS (fun w' hw' => Ev.shlU32 rfl rfl) rfl ?_
          refine WK.take 12 rfl (by kernel_rfl) (by kernel_rfl) (by kernel_rfl) (by kernel_rfl) (by kernel_rfl) (by kernel_rfl) hS (fun w' hw' => Ev.orU rfl rfl rfl (by simp only [IntKind.bits]; omega) (by simp only [IntKind.bits]; omega)) rfl ?_
          rw [low_or (hWl.getD i) hs]
          refine WK.take 13 rfl (by kernel_rfl) (by kernel_rfl) (by kernel_rfl) (by kernel_rfl) (by kernel_rfl) (by kernel_rfl) hS (fun w' hw' => Ev.ixB (i) rfl rfl (by omega) (by omega)) rfl ?_
          refine WK.storeU 14 rfl (by kernel_rfl) (by kernel_rfl) rfl rfl hb11 (by first | omega | (simp; omega)) fun ws2 hb11_ hcs2 => ?_
          have hch := hch.step hcs2 (fun y hy => .inr (by simp only [List.mem_singleton] at hy; subst hy; first | assumption | omega))
          have hb11 := hb11_
          refine WK.done (by kernel_rfl) (kr17 _ _ _ ?_)
          refine kh11 _ _ _ ?_
          refine CW.region fun kR18 kr18 => ?_  -- region 8
          first | refine WL.ev (Ev.addIn rfl rfl (by omega)) rfl ?_ | refine WL.ev (Ev.add rfl rfl) rfl ?_
          refine WL.ev (Ev.move rfl) rfl ?_
          refine WL.nil (kr18 _ _ _ ?_)
          refine ⟨rfl, (i + 1, L.set i ((l.getD i 0 + l.getD (i + 1) 0 * 4294967296) / 2 ^ s % 4294967296)), ?_, ?_, ?_⟩
          ·
            repeat (first | exact Subs.nil | refine Subs.cons rfl ?_ | refine Subs.consI rfl (by omega) ?_)
          ·
            rw [List.set_set] at hb11
            exact ⟨hAd.step hs hWl (by omega) rfl, hb11, hch⟩
          ·
            show l.length - (i + 1) < l.length - i; omega
        ·
          try simp only [decide_eq_true_eq, decide_eq_false_iff_not, Decidable.not_not, Bool.and_eq_true, Bool.or_eq_true, Bool.not_eq_true', Bool.not_eq_false', ne_eq, Int.not_lt, Int.not_le] at hc3
          have hfin : l.getD i 0 / 2 ^ s = (l.getD i 0 + l.getD (i + 1) 0 * 4294967296) / 2 ^ s % 4294967296 := by
            by_cases q0 : i + 1 < l.length
            · have : s = 0 := by omega
              subst this; rw [Nat.pow_zero, Nat.div_one, Nat.div_one]; omega
            · rw [getD_out (i := i + 1) (by omega), Nat.zero_mul, Nat.add_zero, Nat.mod_eq_of_lt (by omega)]
          refine CW.skip ?_
          refine kh11 _ _ _ ?_
          refine CW.region fun kR19 kr19 => ?_  -- region 8
          first | refine WL.ev (Ev.addIn rfl rfl (by omega)) rfl ?_ | refine WL.ev (Ev.add rfl rfl) rfl ?_
          refine WL.ev (Ev.move rfl) rfl ?_
          refine WL.nil (kr19 _ _ _ ?_)
          refine ⟨rfl, (i + 1, L.set i ((l.getD i 0 + l.getD (i + 1) 0 * 4294967296) / 2 ^ s % 4294967296)), ?_, ?_, ?_⟩
          ·
            repeat (first | exact Subs.nil | refine Subs.cons rfl ?_ | refine Subs.consI rfl (by omega) ?_)
          ·
            rw [hfin] at hb11
            exact ⟨hAd.step hs hWl (by omega) rfl, hb11, hch⟩
          ·
            show l.length - (i + 1) < l.length - i; omega
    ·
      try simp only [decide_eq_true_eq, decide_eq_false_iff_not, Decidable.not_not, Bool.and_eq_true, Bool.or_eq_true, Bool.not_eq_true', Bool.not_eq_false', ne_eq, Int.not_lt, Int.not_le] at hc1
      refine CW.exit ?_  -- exit 0
      refine kh5 _ _ _ ?_
      refine CW.seq fun kK20 kh20 => ?_
      refine CW.seq fun kK21 kh21 => ?_
      have hiX2 : i = l.length := by omega
      subst hiX2
      have hvL := hAd.done hWl
      have hlw := lower_words hWl hWL hLl hp hlast hs hvL
      refine CW.region fun kR22 kr22 => ?_  -- region 9
      refine WL.ev (Ev.move rfl) rfl ?_
      refine WL.ev (Ev.len rfl) rfl ?_
      first | refine WL.ev (Ev.subIn rfl rfl (by omega)) rfl ?_ | refine WL.ev (Ev.sub rfl rfl) rfl ?_
      refine WL.ev (Ev.assign rfl) rfl ?_
      refine WL.nil (kr22 _ _ _ ?_)
      refine kh21 _ _ _ ?_
      refine CW.seq fun kK23 kh23 => ?_
      refine CW.region fun kR24 kr24 => ?_  -- region 10
      refine WL.ev (Ev.move rfl) rfl ?_
      refine WL.ev (Ev.move rfl) rfl ?_
      refine WL.ev (Ev.ixB ((l.length - 1)) rfl rfl (by omega) (by omega)) rfl ?_
      refine WL.ev (Ev.load rfl rfl (hb11.u32 (by first | omega | (simp; omega)))) rfl ?_
      have hw55 := hWL.getD ((l.length - 1))
      refine WL.ev (Ev.eql rfl rfl) rfl ?_
      refine WL.nil (kr24 _ _ _ ?_)
      refine kh23 _ _ _ ?_
      refine CW.cond rfl (fun hc4 => ?_) (fun hc4 => ?_)  -- if 56
      ·
        try simp only [decide_eq_true_eq, decide_eq_false_iff_not, Decidable.not_not, Bool.and_eq_true, Bool.or_eq_true, Bool.not_eq_true', Bool.not_eq_false', ne_eq, Int.not_lt, Int.not_le] at hc4
        refine CW.region fun kR25 kr25 => ?_  -- region 11
        refine WL.ev (Ev.move rfl) rfl ?_
        refine WL.ev (Ev.move rfl) rfl ?_
        refine WL.ev (Ev.move rfl) rfl ?_
        refine WL.ev (Ev.slice3n ((l.length - 1)) ((l.length - 1)) rfl rfl rfl (by omega) (by omega) (by omega) (by omega)) rfl ?_
        refine WL.ev (Ev.assign rfl) rfl ?_
        refine WL.nil (kr25 _ _ _ ?_)
        refine kh20 _ _ _ ?_
        refine CW.seq fun kK26 kh26 => ?_
        refine CW.region fun kR27 kr27 => ?_  -- region 12
        refine WL.ev (Ev.move rfl) rfl ?_
        refine WL.ev (Ev.assign rfl) rfl ?_
        refine WL.nil (kr27 _ _ _ ?_)
        refine kh26 _ _ _ ?_
        refine CW.ret ?_
        refine bodyA.ret1 rfl rfl ?_
        rw [← hlw.2 (by omega)]
        exact ⟨NU.part hb11.row hWL (by omega) (by omega) (Nat.le_refl _), hch⟩
      ·
        try simp only [decide_eq_true_eq, decide_eq_false_iff_not, Decidable.not_not, Bool.and_eq_true, Bool.or_eq_true, Bool.not_eq_true', Bool.not_eq_false', ne_eq, Int.not_lt, Int.not_le] at hc4
        refine CW.skip ?_
        refine kh20 _ _ _ ?_
        refine CW.seq fun kK28 kh28 => ?_
        refine CW.region fun kR29 kr29 => ?_  -- region 12
        refine WL.ev (Ev.move rfl) rfl ?_
        refine WL.ev (Ev.assign rfl) rfl ?_
        refine WL.nil (kr29 _ _ _ ?_)
        refine kh28 _ _ _ ?_
        refine CW.ret ?_
        refine bodyA.ret1 rfl rfl ?_
        rw [← hlw.1 (by omega)]
        exact ⟨NU.of_block hb11 hWL (by omega) (by omega) (Nat.le_refl _), hch⟩

/-- A value that is the dyad d. -/
structure DY (w : World) (u : Value) (d : Dy) : Prop where
  ex : ∃ r, u = .agg [.bool d.neg, r, .int .i64 d.e].toArray ∧ NU w r (wd d.m)
theorem DY.keep0 {w w' : World} {u : Value} {d : Dy} (h : DY w u d) (hc : Chg [] w w') : DY w' u d := by
  obtain ⟨r, h1, h2⟩ := h.ex
  exact ⟨r, h1, h2.keep0 hc⟩
theorem DY.zero {w : World} : DY w (.agg [.bool false, .slice none 0 0, .int .i64 0].toArray) Dy.zero := ⟨_, rfl, by rw [show Dy.zero.m = 0 from rfl, wd_zero]; exact NU.nil⟩
/-- A dyad's answer, or none. -/
def DR (w : World) (u : Value) (x : Option Dy) : Prop := (∃ r d, x = some d ∧ u = .tuple [.agg [.bool d.neg, r, .int .i64 d.e].toArray, .int .i64 0].toArray ∧ NU w r (wd d.m)) ∨ (x = none ∧ u = .tuple [.agg [.bool false, .slice none 0 0, .int .i64 0].toArray, .int .i64 2].toArray)
theorem DR.keep0 {w w' : World} {u : Value} {x : Option Dy} (h : DR w u x) (hc : Chg [] w w') : DR w' u x := by
  rcases h with ⟨r, d, h1, h2, h3⟩ | h
  · exact .inl ⟨r, d, h1, h2, h3.keep0 hc⟩
  · exact .inr h

set_option maxRecDepth 4000 in
theorem form_spec (neg : Bool) (v : Value) (l : List Nat) (e : Int) (w : World) (h : NU w v l) (hg : GW w) (he : -9223372036854775808 ≤ e ∧ e ≤ 9223372036854775807) : Ret Tryd.prog 45 [.bool neg, v, .int .i64 e] w fun u w' => DR w' u (formD neg (val l) e) ∧ Chg [] w w' := by
  obtain ⟨A, hA⟩ : ∃ A, A = wd (val l) := ⟨_, rfl⟩
  have hvA : val A = val l := by rw [hA]; exact val_wd _
  have hch : Chg [] w w := Chg.refl _ _
  refine Ret.enter Tryd.func45 rfl rfl ?_
  simp only [args0, Nat.zero_add, Nat.reduceAdd]
  refine CW.seq fun kK1 kh1 => ?_
  refine CW.region fun kR2 kr2 => ?_  -- region 0
  refine WL.allocB (l := [.bool false, .slice none 0 0, .int .i64 0]) rfl rfl fun b6 wm6 hb6 hcm6 hge6 => ?_
  have hgehch6 := Nat.le_trans hch.size hge6
  have hch := hch.trans hcm6
  refine WL.ev (Ev.assign rfl) rfl ?_
  refine WL.nil (kr2 _ _ _ ?_)
  refine kh1 _ _ _ ?_
  refine CW.seq fun kK3 kh3 => ?_
  refine CW.region fun kR4 kr4 => ?_  -- region 1
  refine WL.ev (Ev.move rfl) rfl ?_
  refine WL.call hasF62 rfl rfl (Norm_spec _ _ _ (h.keep0 hch)) fun v w1 h' => ?_
  obtain ⟨hN1, hC11⟩ := h'
  rw [← hA] at hN1
  have hN1d := hN1
  obtain ⟨⟨a1, c1, rfl, hcap1, hr1⟩, hW1, hl1⟩ := hN1d
  have hch := hch.trans hC11
  have hb6 := hb6.keep0 hC11
  refine WL.ev (Ev.assign rfl) rfl ?_
  refine WL.nil (kr4 _ _ _ ?_)
  refine kh3 _ _ _ ?_
  refine CW.seq fun kK5 kh5 => ?_
  refine CW.seq fun kK6 kh6 => ?_
  refine CW.region fun kR7 kr7 => ?_  -- region 2
  refine WL.ev (Ev.move rfl) rfl ?_
  refine WL.ev (Ev.len rfl) rfl ?_
  refine WL.ev (Ev.eql rfl rfl) rfl ?_
  refine WL.nil (kr7 _ _ _ ?_)
  refine kh6 _ _ _ ?_
  refine CW.cond rfl (fun hc1 => ?_) (fun hc1 => ?_)  -- if 14
  ·
    try simp only [decide_eq_true_eq, decide_eq_false_iff_not, Decidable.not_not, Bool.and_eq_true, Bool.or_eq_true, Bool.not_eq_true', Bool.not_eq_false', ne_eq, Int.not_lt, Int.not_le] at hc1
    refine CW.seq fun kK8 kh8 => ?_
    refine CW.region fun kR9 kr9 => ?_  -- region 3
    refine WL.ev (Ev.build (vs := _) (cs := [_, _, _]) rfl rfl) rfl ?_
    refine WL.storeB rfl rfl rfl (by intro v hv; simp only [List.mem_cons, List.not_mem_nil, or_false] at hv; rcases hv with rfl | rfl | rfl <;> first | rfl | assumption | exact NU.one (by assumption)) hb6 (by simp) rfl fun ws3 hb6_ hcs3 => ?_
    try simp only [Sx.splice, List.set_cons_zero, List.set_cons_succ, Nat.zero_add] at hb6_
    have hch := hch.step hcs3 (fun y hy => .inr (by simp only [List.mem_singleton] at hy; subst hy; first | assumption | omega))
    have hb6 := hb6_
    refine WL.ev (Ev.assign rfl) rfl ?_
    refine WL.nil (kr9 _ _ _ ?_)
    refine kh8 _ _ _ ?_
    refine CW.ret ?_
    refine bodyA.retR2 rfl (RVal.cell rfl (hb6.varA rfl rfl)) (RVal.tmp rfl) ?_
    have hv0 : val l = 0 := by rw [← hvA, List.length_eq_zero_iff.1 (show A.length = 0 by omega)]; rfl
    rw [hv0, formD_zero]
    exact ⟨.inl ⟨_, _, rfl, rfl, by rw [show Dy.zero.m = 0 from rfl, wd_zero]; exact NU.nil⟩, hch⟩
  ·
    try simp only [decide_eq_true_eq, decide_eq_false_iff_not, Decidable.not_not, Bool.and_eq_true, Bool.or_eq_true, Bool.not_eq_true', Bool.not_eq_false', ne_eq, Int.not_lt, Int.not_le] at hc1
    have hn0 : val l ≠ 0 := fun e0 => by rw [e0, wd_zero] at hA; rw [hA] at hc1; exact hc1 rfl
    have hAl : A.getD (A.length - 1) 0 ≠ 0 := by rw [hA]; exact wd_last hn0
    obtain ⟨q, hq⟩ : ∃ q, q = tz (val l) := ⟨_, rfl⟩
    have hqb := tz_lt_bl hn0
    have hbA : bl (val l) ≤ 32 * A.length := by rw [bl_words, ← hA]; exact Nat.le_refl _
    rw [← hq] at hqb
    refine CW.skip ?_
    refine kh5 _ _ _ ?_
    refine CW.seq fun kK10 kh10 => ?_
    refine CW.region fun kR11 kr11 => ?_  -- region 4
    refine WL.ev (Ev.move rfl) rfl ?_
    refine WL.call hasF63 rfl rfl (Low_spec _ _ _ hN1 (hg.keep0 hch)) fun v w2 h' => ?_
    obtain ⟨rfl, rfl⟩ := h'
    rw [hvA, ← hq]
    refine WL.ev (Ev.assign rfl) rfl ?_
    refine WL.nil (kr11 _ _ _ ?_)
    refine kh10 _ _ _ ?_
    refine CW.seq fun kK12 kh12 => ?_
    refine CW.region fun kR13 kr13 => ?_  -- region 5
    refine WL.ev (Ev.move rfl) rfl ?_
    refine WL.ev (Ev.move rfl) rfl ?_
    refine WL.ev (Ev.quoU (b := 32) rfl rfl (by omega) (in_i64 (by omega)).2) rfl ?_
    refine WL.ev (Ev.sliceLn ((q / 32)) rfl rfl (by omega) (by omega)) rfl ?_
    refine WL.ev (Ev.move rfl) rfl ?_
    refine WL.ev (Ev.remU (b := 32) rfl rfl (by omega)) rfl ?_
    refine WL.call hasF64 rfl rfl (lower_spec _ (A.drop (q / 32)) (q % 32) _ (NU.of_row (by rw [List.map_drop]; exact hr1.cut _ _ (by simp; omega) (by simpa using hcap1)) (hW1.drop _) (by simp; omega) (by simp) (by omega)) (by omega) (by simp; omega) (by rw [List.length_drop, List.getD_eq_getElem?_getD, List.getElem?_drop, ← List.getD_eq_getElem?_getD, show q / 32 + (A.length - q / 32 - 1) = A.length - 1 by omega]; exact hAl)) fun v w3 h' => ?_
    obtain ⟨hN2, hC24⟩ := h'
    rw [val_drop hW1 _ (by omega), hvA, div_words] at hN2
    obtain ⟨B, hB⟩ : ∃ B, B = wd (val l / 2 ^ q) := ⟨_, rfl⟩
    rw [← hB] at hN2
    have hN2d := hN2
    obtain ⟨⟨a2, c2, rfl, hcap2, hr2⟩, hW2, hl2⟩ := hN2d
    have hch := hch.trans hC24
    have hb6 := hb6.keep0 hC24
    refine WL.ev (Ev.assign rfl) rfl ?_
    refine WL.nil (kr13 _ _ _ ?_)
    refine kh12 _ _ _ ?_
    refine CW.seq fun kK14 kh14 => ?_
    refine CW.seqM 39 (decide ((1048576 - (q : Int) < e ∨ e < -1048576 - (q : Int)) ∨ 8192 < B.length)) ?_ ?_
    ·
      refine CW.region fun kR15 kr15 => ?_  -- region 6
      refine WL.ev (Ev.move rfl) rfl ?_
      refine WL.ev (Ev.move rfl) rfl ?_
      refine WL.ev (Ev.subIn rfl rfl (by omega)) rfl ?_
      refine WL.ev (Ev.gtr rfl rfl) rfl ?_
      refine WL.ev (Ev.move rfl) rfl ?_
      refine WL.boolCase (fun hg2 => ?_) (fun hg2 => ?_)
      ·
        try simp only [decide_eq_true_eq, decide_eq_false_iff_not, Decidable.not_not, Bool.and_eq_true, Bool.or_eq_true, Bool.not_eq_true', Bool.not_eq_false', ne_eq, Int.not_lt, Int.not_le] at hg2
        refine WL.pass rfl rfl rfl rfl rfl ?_
        refine WL.pass rfl rfl rfl rfl rfl ?_
        refine WL.pass rfl rfl rfl rfl rfl ?_
        refine WL.pass rfl rfl rfl rfl rfl ?_
        refine WL.ev (Ev.pickT rfl rfl rfl) rfl ?_
        refine WL.ev (Ev.move rfl) rfl ?_
        refine WL.pass rfl rfl rfl rfl rfl ?_
        refine WL.pass rfl rfl rfl rfl rfl ?_
        refine WL.pass rfl rfl rfl rfl rfl ?_
        refine WL.ev (Ev.pickT rfl rfl rfl) rfl ?_
        refine WL.nil (kr15 _ _ _ ?_)
        refine ⟨rfl, rfl, Subs.consB rfl ?_ ?_⟩
        ·
          first | (simp; omega) | (refine decide_eq_decide.2 ?_; omega)
        ·
          first | ((repeat (first | exact Subs.refl | refine Subs.drop1 (by rfl) ?_)); done) | ((repeat (first | exact Subs.nil | refine Subs.cons rfl ?_)); done)
      ·
        try simp only [decide_eq_true_eq, decide_eq_false_iff_not, Decidable.not_not, Bool.and_eq_true, Bool.or_eq_true, Bool.not_eq_true', Bool.not_eq_false', ne_eq, Int.not_lt, Int.not_le] at hg2
        refine WL.want rfl rfl rfl rfl ?_
        refine WL.ev (Ev.move rfl) rfl ?_
        refine WL.want rfl rfl rfl rfl ?_
        refine WL.ev (Ev.move rfl) rfl ?_
        refine WL.want rfl rfl rfl rfl ?_
        first | refine WL.ev (Ev.subIn rfl rfl (by omega)) rfl ?_ | refine WL.ev (Ev.sub rfl rfl) rfl ?_
        refine WL.want rfl rfl rfl rfl ?_
        refine WL.ev (Ev.lss rfl rfl) rfl ?_
        refine WL.ev (Ev.pickF rfl rfl rfl) rfl ?_
        refine WL.ev (Ev.move rfl) rfl ?_
        refine WL.boolCase (fun hg3 => ?_) (fun hg3 => ?_)
        ·
          try simp only [decide_eq_true_eq, decide_eq_false_iff_not, Decidable.not_not, Bool.and_eq_true, Bool.or_eq_true, Bool.not_eq_true', Bool.not_eq_false', ne_eq, Int.not_lt, Int.not_le] at hg3
          refine WL.pass rfl rfl rfl rfl rfl ?_
          refine WL.pass rfl rfl rfl rfl rfl ?_
          refine WL.pass rfl rfl rfl rfl rfl ?_
          refine WL.ev (Ev.pickT rfl rfl rfl) rfl ?_
          refine WL.nil (kr15 _ _ _ ?_)
          refine ⟨rfl, rfl, Subs.consB rfl ?_ ?_⟩
          ·
            first | (simp; omega) | (refine decide_eq_decide.2 ?_; omega)
          ·
            first | ((repeat (first | exact Subs.refl | refine Subs.drop1 (by rfl) ?_)); done) | ((repeat (first | exact Subs.nil | refine Subs.cons rfl ?_)); done)
        ·
          try simp only [decide_eq_true_eq, decide_eq_false_iff_not, Decidable.not_not, Bool.and_eq_true, Bool.or_eq_true, Bool.not_eq_true', Bool.not_eq_false', ne_eq, Int.not_lt, Int.not_le] at hg3
          refine WL.want rfl rfl rfl rfl ?_
          refine WL.ev (Ev.move rfl) rfl ?_
          refine WL.want rfl rfl rfl rfl ?_
          refine WL.ev (Ev.len rfl) rfl ?_
          refine WL.want rfl rfl rfl rfl ?_
          refine WL.ev (Ev.gtr rfl rfl) rfl ?_
          refine WL.ev (Ev.pickF rfl rfl rfl) rfl ?_
          refine WL.nil (kr15 _ _ _ ?_)
          refine ⟨rfl, rfl, Subs.consB rfl ?_ ?_⟩
          ·
            first | (simp; omega) | (refine decide_eq_decide.2 ?_; omega)
          ·
            first | ((repeat (first | exact Subs.refl | refine Subs.drop1 (by rfl) ?_)); done) | ((repeat (first | exact Subs.nil | refine Subs.cons rfl ?_)); done)
    ·
      refine CW.cond rfl (fun hc4 => ?_) (fun hc4 => ?_)  -- if 39
      ·
        try simp only [decide_eq_true_eq, decide_eq_false_iff_not, Decidable.not_not, Bool.and_eq_true, Bool.or_eq_true, Bool.not_eq_true', Bool.not_eq_false', ne_eq, Int.not_lt, Int.not_le] at hc4
        refine CW.seq fun kK16 kh16 => ?_
        refine CW.region fun kR17 kr17 => ?_  -- region 7
        refine WL.ev (Ev.build (vs := _) (cs := [_, _, _]) rfl rfl) rfl ?_
        refine WL.storeB rfl rfl rfl (by intro v hv; simp only [List.mem_cons, List.not_mem_nil, or_false] at hv; rcases hv with rfl | rfl | rfl <;> first | rfl | assumption | exact NU.one (by assumption)) hb6 (by simp) rfl fun ws4 hb6_ hcs4 => ?_
        try simp only [Sx.splice, List.set_cons_zero, List.set_cons_succ, Nat.zero_add] at hb6_
        have hch := hch.step hcs4 (fun y hy => .inr (by simp only [List.mem_singleton] at hy; subst hy; first | assumption | omega))
        have hN2 := hN2.keepBK hb6 hcs4 (by intro v hv; simp only [List.mem_cons, List.not_mem_nil, or_false] at hv; rcases hv with rfl | rfl | rfl <;> first | rfl | exact NU.notU (by assumption))
        have hb6 := hb6_
        refine WL.ev (Ev.assign rfl) rfl ?_
        refine WL.nil (kr17 _ _ _ ?_)
        refine kh16 _ _ _ ?_
        refine CW.ret ?_
        refine bodyA.retR2 rfl (RVal.cell rfl (hb6.varA rfl rfl)) (RVal.tmp rfl) ?_
        rw [formD_none hn0 (by rw [← hq, ← hB]; omega)]
        exact ⟨.inr ⟨rfl, rfl⟩, hch⟩
      ·
        try simp only [decide_eq_true_eq, decide_eq_false_iff_not, Decidable.not_not, Bool.and_eq_true, Bool.or_eq_true, Bool.not_eq_true', Bool.not_eq_false', ne_eq, Int.not_lt, Int.not_le] at hc4
        refine CW.skip ?_
        refine kh14 _ _ _ ?_
        refine CW.seq fun kK18 kh18 => ?_
        refine CW.region fun kR19 kr19 => ?_  -- region 8
        refine WL.ev (Ev.move rfl) rfl ?_
        refine WL.ev (Ev.move rfl) rfl ?_
        refine WL.ev (Ev.move rfl) rfl ?_
        refine WL.ev (Ev.move rfl) rfl ?_
        first | refine WL.ev (Ev.addIn rfl rfl (by omega)) rfl ?_ | refine WL.ev (Ev.add rfl rfl) rfl ?_
        refine WL.ev (Ev.build (vs := _) (cs := [_, _, _]) rfl rfl) rfl ?_
        refine WL.storeB rfl rfl rfl (by intro v hv; simp only [List.mem_cons, List.not_mem_nil, or_false] at hv; rcases hv with rfl | rfl | rfl <;> first | rfl | assumption | exact NU.one (by assumption)) hb6 (by simp) rfl fun ws5 hb6_ hcs5 => ?_
        try simp only [Sx.splice, List.set_cons_zero, List.set_cons_succ, Nat.zero_add] at hb6_
        have hch := hch.step hcs5 (fun y hy => .inr (by simp only [List.mem_singleton] at hy; subst hy; first | assumption | omega))
        have hN2 := hN2.keepBK hb6 hcs5 (by intro v hv; simp only [List.mem_cons, List.not_mem_nil, or_false] at hv; rcases hv with rfl | rfl | rfl <;> first | rfl | exact NU.notU (by assumption))
        have hb6 := hb6_
        refine WL.ev (Ev.assign rfl) rfl ?_
        refine WL.nil (kr19 _ _ _ ?_)
        refine kh18 _ _ _ ?_
        refine CW.ret ?_
        refine bodyA.retR2 rfl (RVal.cell rfl (hb6.varA rfl rfl)) (RVal.tmp rfl) ?_
        rw [formD_some hn0 (by rw [← hq, ← hB]; omega), ← hq]
        refine ⟨.inl ⟨_, _, rfl, rfl, ?_⟩, hch⟩
        simp only
        rw [← hB]
        exact hN2

end Go.Proofs.YtkkklaodligpdaaDoor

/- Package dyad: Make, Int, sums. No condition. -/
namespace Go.Proofs.YtkkklaodligpdaaDoor
open Go Sx Wd
set_option linter.unusedVariables false
set_option linter.unusedSimpArgs false

set_option maxRecDepth 4000 in
theorem Make_spec (na : Bool) (va : Value) (la : List Nat) (ea : Int) (w : World) (ha : NU w va la) (hg : GW w) (hea : -9223372036854775808 ≤ ea ∧ ea ≤ 9223372036854775807) : Ret Tryd.prog 38 [.bool na, va, .int .i64 ea] w fun u w' => DR w' u (formD na (val la) ea) ∧ Chg [] w w' := by
  have hch : Chg [] w w := Chg.refl _ _
  refine Ret.enter Tryd.func38 rfl rfl ?_
  simp only [args0, Nat.zero_add, Nat.reduceAdd]
  refine CW.seq fun kK1 kh1 => ?_
  refine CW.region fun kR2 kr2 => ?_  -- region 0
  refine WL.allocB (l := [.bool false, .slice none 0 0, .int .i64 0]) rfl rfl fun b6 wm6 hb6 hcm6 hge6 => ?_
  have hgehch6 := Nat.le_trans hch.size hge6
  have hch := hch.trans hcm6
  refine WL.ev (Ev.assign rfl) rfl ?_
  refine WL.nil (kr2 _ _ _ ?_)
  refine kh1 _ _ _ ?_
  refine CW.seq fun kK3 kh3 => ?_
  refine CW.region fun kR4 kr4 => ?_  -- region 1
  refine WL.ev (Ev.move rfl) rfl ?_
  refine WL.ev (Ev.move rfl) rfl ?_
  refine WL.ev (Ev.move rfl) rfl ?_
  refine WL.call hasF45 rfl rfl (form_spec na va la ea _ (ha.keep0 hch) (hg.keep0 hch) hea) fun v w1 h' => ?_
  obtain ⟨hD, hC11⟩ := h'
  have hch := hch.trans hC11
  have hb6 := hb6.keep0 hC11
  rcases hD with ⟨r, d, hd, rfl, hNr⟩ | ⟨hd, rfl⟩
  ·
    refine WL.ev (Ev.extract rfl rfl) rfl ?_
    refine WL.ev (Ev.extract rfl rfl) rfl ?_
    refine WL.storeB rfl rfl rfl (by intro v hv; simp only [List.mem_cons, List.not_mem_nil, or_false] at hv; rcases hv with rfl | rfl | rfl <;> first | rfl | assumption | exact NU.one (by assumption)) hb6 (by simp) rfl fun ws6 hb6_ hcs6 => ?_
    try simp only [Sx.splice, List.set_cons_zero, List.set_cons_succ, Nat.zero_add] at hb6_
    have hch := hch.step hcs6 (fun y hy => .inr (by simp only [List.mem_singleton] at hy; subst hy; first | assumption | omega))
    have hNr := hNr.keepBK hb6 hcs6 (by intro v hv; simp only [List.mem_cons, List.not_mem_nil, or_false] at hv; rcases hv with rfl | rfl | rfl <;> first | rfl | exact NU.notU (by assumption))
    have hb6 := hb6_
    refine WL.ev (Ev.assign rfl) rfl ?_
    refine WL.nil (kr4 _ _ _ ?_)
    refine kh3 _ _ _ ?_
    refine CW.ret ?_
    refine bodyA.retR2 rfl (RVal.cell rfl (hb6.varA rfl rfl)) (RVal.tmp rfl) ?_
    exact ⟨.inl ⟨r, d, hd, rfl, hNr⟩, hch⟩
  ·
    refine WL.ev (Ev.extract rfl rfl) rfl ?_
    refine WL.ev (Ev.extract rfl rfl) rfl ?_
    refine WL.storeB rfl rfl rfl (by intro v hv; simp only [List.mem_cons, List.not_mem_nil, or_false] at hv; rcases hv with rfl | rfl | rfl <;> first | rfl | assumption | exact NU.one (by assumption)) hb6 (by simp) rfl fun ws7 hb6_ hcs7 => ?_
    try simp only [Sx.splice, List.set_cons_zero, List.set_cons_succ, Nat.zero_add] at hb6_
    have hch := hch.step hcs7 (fun y hy => .inr (by simp only [List.mem_singleton] at hy; subst hy; first | assumption | omega))
    have hb6 := hb6_
    refine WL.ev (Ev.assign rfl) rfl ?_
    refine WL.nil (kr4 _ _ _ ?_)
    refine kh3 _ _ _ ?_
    refine CW.ret ?_
    refine bodyA.retR2 rfl (RVal.cell rfl (hb6.varA rfl rfl)) (RVal.tmp rfl) ?_
    exact ⟨.inr ⟨hd, rfl⟩, hch⟩

theorem formD_int {n : Nat} {neg : Bool} (h : n < 18446744073709551616) : ∃ d, formD neg n 0 = some d := by
  by_cases h0 : n = 0
  · exact ⟨_, by rw [h0]; exact formD_zero _ _⟩
  · have h1 := tz_lt_bl h0
    have h2 := bl_le (n := n) (k := 64)
    have h3 : n / 2 ^ tz n ≤ n := Nat.div_le_self _ _
    have h4 := wd_length_le (n := n / 2 ^ tz n) (k := 2)
    have h5 : (wd (n / 2 ^ tz n)).length ≤ 2 := h4.2 (Nat.lt_of_le_of_lt h3 h)
    have h6 : bl n ≤ 64 := h2.2 h
    exact ⟨_, formD_some h0 (by omega)⟩
/-- A whole number as a dyad. -/
def intD (n : Int) : Dy := ((formD (decide (n < 0)) n.natAbs 0).getD Dy.zero)
theorem intD_eq {n : Int} (h : n.natAbs < 18446744073709551616) : formD (decide (n < 0)) n.natAbs 0 = some (intD n) := by
  obtain ⟨d, hd⟩ := formD_int (neg := decide (n < 0)) h
  unfold intD; rw [hd]; rfl

set_option maxRecDepth 4000 in
theorem Int_spec (n : Int) (w : World) (hg : GW w) (hn : -9223372036854775808 ≤ n ∧ n ≤ 9223372036854775807) : Ret Tryd.prog 35 [.int .i64 n] w fun u w' => DY w' u (intD n) ∧ Chg [] w w' := by
  have hch : Chg [] w w := Chg.refl _ _
  refine Ret.enter Tryd.func35 rfl rfl ?_
  simp only [args0, Nat.zero_add, Nat.reduceAdd]
  refine CW.seq fun kK1 kh1 => ?_
  refine CW.region fun kR2 kr2 => ?_  -- region 0
  refine WL.allocB (l := [.bool false, .slice none 0 0, .int .i64 0]) rfl rfl fun b2 wm2 hb2 hcm2 hge2 => ?_
  have hgehch2 := Nat.le_trans hch.size hge2
  have hch := hch.trans hcm2
  refine WL.nil (kr2 _ _ _ ?_)
  refine kh1 _ _ _ ?_
  refine CW.seq fun kK3 kh3 => ?_
  refine CW.region fun kR4 kr4 => ?_  -- region 1
  refine WL.ev (Ev.move rfl) rfl ?_
  refine WL.ev (Ev.conv rfl rfl) rfl ?_
  rw [wrap_u64i]
  refine WL.ev (Ev.assign rfl) rfl ?_
  refine WL.nil (kr4 _ _ _ ?_)
  refine kh3 _ _ _ ?_
  refine CW.seq fun kK5 kh5 => ?_
  refine CW.seq fun kK6 kh6 => ?_
  refine CW.region fun kR7 kr7 => ?_  -- region 2
  refine WL.ev (Ev.move rfl) rfl ?_
  refine WL.ev (Ev.lss rfl rfl) rfl ?_
  refine WL.nil (kr7 _ _ _ ?_)
  refine kh6 _ _ _ ?_
  refine CW.cond rfl (fun hc1 => ?_) (fun hc1 => ?_)  -- if 9
  ·
    try simp only [decide_eq_true_eq, decide_eq_false_iff_not, Decidable.not_not, Bool.and_eq_true, Bool.or_eq_true, Bool.not_eq_true', Bool.not_eq_false', ne_eq, Int.not_lt, Int.not_le] at hc1
    refine CW.region fun kR8 kr8 => ?_  -- region 3
    refine WL.ev (Ev.move rfl) rfl ?_
    refine WL.ev (Ev.neg rfl) rfl ?_
    rw [wrap_u64i, show (0 - n % 18446744073709551616) % 18446744073709551616 = ((n.natAbs : Nat) : Int) by omega]
    have hab : n.natAbs = n.natAbs := rfl
    refine WL.ev (Ev.assign rfl) rfl ?_
    refine WL.nil (kr8 _ _ _ ?_)
    refine kh5 _ _ _ ?_
    refine CW.seq fun kK9 kh9 => ?_
    refine CW.region fun kR10 kr10 => ?_  -- region 4
    refine WL.ev (Ev.move rfl) rfl ?_
    refine WL.ev (Ev.lss rfl rfl) rfl ?_
    refine WL.ev (Ev.move rfl) rfl ?_
    refine WL.call hasF52 rfl rfl (Of_spec n.natAbs _ (by omega)) fun v w1 h' => ?_
    obtain ⟨hN16, hC16⟩ := h'
    have hch := hch.trans hC16
    have hb2 := hb2.keep0 hC16
    refine WL.call hasF45 rfl rfl (form_spec _ _ _ 0 _ hN16 (hg.keep0 hch) (by omega)) fun v w2 h' => ?_
    obtain ⟨hD, hC17⟩ := h'
    rw [val_wd, hab, intD_eq (by omega)] at hD
    rcases hD with ⟨r, d, hd, rfl, hNr⟩ | ⟨hd, rfl⟩
    rotate_left
    · cases hd
    cases hd
    have hch := hch.trans hC17
    have hb2 := hb2.keep0 hC17
    have hN16 := hN16.keep0 hC17
    refine WL.ev (Ev.move rfl) rfl ?_
    refine WL.ev (Ev.extract rfl rfl) rfl ?_
    refine WL.ev (Ev.extract rfl rfl) rfl ?_
    refine WL.allocB (l := [.bool false, .slice none 0 0, .int .i64 0]) rfl rfl fun b4 wm4 hb4 hcm4 hge4 => ?_
    have hgehch4 := Nat.le_trans hch.size hge4
    have hch := hch.trans hcm4
    have hN16 := hN16.keep0 hcm4
    have hNr := hNr.keep0 hcm4
    have hneb24 : b2 ≠ b4 := by have := hb2.lt; omega
    have hb2 := hb2.keep0 hcm4
    refine WL.storeB rfl rfl rfl (by intro v hv; simp only [List.mem_cons, List.not_mem_nil, or_false] at hv; rcases hv with rfl | rfl | rfl <;> first | rfl | assumption | exact NU.one (by assumption)) hb4 (by simp) rfl fun ws8 hb4_ hcs8 => ?_
    try simp only [Sx.splice, List.set_cons_zero, List.set_cons_succ, Nat.zero_add] at hb4_
    have hch := hch.step hcs8 (fun y hy => .inr (by simp only [List.mem_singleton] at hy; subst hy; first | assumption | omega))
    have hb2 := hb2.keep hcs8 (by simp; omega)
    have hN16 := hN16.keepBK hb4 hcs8 (by intro v hv; simp only [List.mem_cons, List.not_mem_nil, or_false] at hv; rcases hv with rfl | rfl | rfl <;> first | rfl | exact NU.notU (by assumption))
    have hNr := hNr.keepBK hb4 hcs8 (by intro v hv; simp only [List.mem_cons, List.not_mem_nil, or_false] at hv; rcases hv with rfl | rfl | rfl <;> first | rfl | exact NU.notU (by assumption))
    have hb4 := hb4_
    refine WL.ev (Ev.assign rfl) rfl ?_
    refine WL.nil (kr10 _ _ _ ?_)
    refine kh9 _ _ _ ?_
    refine CW.seq fun kK11 kh11 => ?_
    refine CW.region fun kR12 kr12 => ?_  -- region 5
    refine WL.ev (Ev.loadA rfl rfl hb4 rfl) rfl ?_
    refine WL.storeB rfl rfl rfl (by intro v hv; simp only [List.mem_cons, List.not_mem_nil, or_false] at hv; rcases hv with rfl | rfl | rfl <;> first | rfl | assumption | exact NU.one (by assumption)) hb2 (by simp) rfl fun ws9 hb2_ hcs9 => ?_
    try simp only [Sx.splice, List.set_cons_zero, List.set_cons_succ, Nat.zero_add] at hb2_
    have hch := hch.step hcs9 (fun y hy => .inr (by simp only [List.mem_singleton] at hy; subst hy; first | assumption | omega))
    have hb4 := hb4.keep hcs9 (by simp; omega)
    have hN16 := hN16.keepBK hb2 hcs9 (by intro v hv; simp only [List.mem_cons, List.not_mem_nil, or_false] at hv; rcases hv with rfl | rfl | rfl <;> first | rfl | exact NU.notU (by assumption))
    have hNr := hNr.keepBK hb2 hcs9 (by intro v hv; simp only [List.mem_cons, List.not_mem_nil, or_false] at hv; rcases hv with rfl | rfl | rfl <;> first | rfl | exact NU.notU (by assumption))
    have hb2 := hb2_
    refine WL.nil (kr12 _ _ _ ?_)
    refine kh11 _ _ _ ?_
    refine CW.ret ?_
    refine bodyA.retR1 rfl (RVal.cell rfl (hb2.varA rfl rfl)) ?_
    exact ⟨⟨⟨_, rfl, hNr⟩⟩, hch⟩
  ·
    try simp only [decide_eq_true_eq, decide_eq_false_iff_not, Decidable.not_not, Bool.and_eq_true, Bool.or_eq_true, Bool.not_eq_true', Bool.not_eq_false', ne_eq, Int.not_lt, Int.not_le] at hc1
    rw [show n % 18446744073709551616 = ((n.natAbs : Nat) : Int) by omega]
    have hab : n.natAbs = n.natAbs := rfl
    refine CW.skip ?_
    refine kh5 _ _ _ ?_
    refine CW.seq fun kK13 kh13 => ?_
    refine CW.region fun kR14 kr14 => ?_  -- region 4
    refine WL.ev (Ev.move rfl) rfl ?_
    refine WL.ev (Ev.lss rfl rfl) rfl ?_
    refine WL.ev (Ev.move rfl) rfl ?_
    refine WL.call hasF52 rfl rfl (Of_spec n.natAbs _ (by omega)) fun v w3 h' => ?_
    obtain ⟨hN16, hC16⟩ := h'
    have hch := hch.trans hC16
    have hb2 := hb2.keep0 hC16
    refine WL.call hasF45 rfl rfl (form_spec _ _ _ 0 _ hN16 (hg.keep0 hch) (by omega)) fun v w4 h' => ?_
    obtain ⟨hD, hC17⟩ := h'
    rw [val_wd, hab, intD_eq (by omega)] at hD
    rcases hD with ⟨r, d, hd, rfl, hNr⟩ | ⟨hd, rfl⟩
    rotate_left
    · cases hd
    cases hd
    have hch := hch.trans hC17
    have hb2 := hb2.keep0 hC17
    have hN16 := hN16.keep0 hC17
    refine WL.ev (Ev.move rfl) rfl ?_
    refine WL.ev (Ev.extract rfl rfl) rfl ?_
    refine WL.ev (Ev.extract rfl rfl) rfl ?_
    refine WL.allocB (l := [.bool false, .slice none 0 0, .int .i64 0]) rfl rfl fun b4 wm4 hb4 hcm4 hge4 => ?_
    have hgehch4 := Nat.le_trans hch.size hge4
    have hch := hch.trans hcm4
    have hN16 := hN16.keep0 hcm4
    have hNr := hNr.keep0 hcm4
    have hneb24 : b2 ≠ b4 := by have := hb2.lt; omega
    have hb2 := hb2.keep0 hcm4
    refine WL.storeB rfl rfl rfl (by intro v hv; simp only [List.mem_cons, List.not_mem_nil, or_false] at hv; rcases hv with rfl | rfl | rfl <;> first | rfl | assumption | exact NU.one (by assumption)) hb4 (by simp) rfl fun ws10 hb4_ hcs10 => ?_
    try simp only [Sx.splice, List.set_cons_zero, List.set_cons_succ, Nat.zero_add] at hb4_
    have hch := hch.step hcs10 (fun y hy => .inr (by simp only [List.mem_singleton] at hy; subst hy; first | assumption | omega))
    have hb2 := hb2.keep hcs10 (by simp; omega)
    have hN16 := hN16.keepBK hb4 hcs10 (by intro v hv; simp only [List.mem_cons, List.not_mem_nil, or_false] at hv; rcases hv with rfl | rfl | rfl <;> first | rfl | exact NU.notU (by assumption))
    have hNr := hNr.keepBK hb4 hcs10 (by intro v hv; simp only [List.mem_cons, List.not_mem_nil, or_false] at hv; rcases hv with rfl | rfl | rfl <;> first | rfl | exact NU.notU (by assumption))
    have hb4 := hb4_
    refine WL.ev (Ev.assign rfl) rfl ?_
    refine WL.nil (kr14 _ _ _ ?_)
    refine kh13 _ _ _ ?_
    refine CW.seq fun kK15 kh15 => ?_
    refine CW.region fun kR16 kr16 => ?_  -- region 5
    refine WL.ev (Ev.loadA rfl rfl hb4 rfl) rfl ?_
    refine WL.storeB rfl rfl rfl (by intro v hv; simp only [List.mem_cons, List.not_mem_nil, or_false] at hv; rcases hv with rfl | rfl | rfl <;> first | rfl | assumption | exact NU.one (by assumption)) hb2 (by simp) rfl fun ws11 hb2_ hcs11 => ?_
    try simp only [Sx.splice, List.set_cons_zero, List.set_cons_succ, Nat.zero_add] at hb2_
    have hch := hch.step hcs11 (fun y hy => .inr (by simp only [List.mem_singleton] at hy; subst hy; first | assumption | omega))
    have hb4 := hb4.keep hcs11 (by simp; omega)
    have hN16 := hN16.keepBK hb2 hcs11 (by intro v hv; simp only [List.mem_cons, List.not_mem_nil, or_false] at hv; rcases hv with rfl | rfl | rfl <;> first | rfl | exact NU.notU (by assumption))
    have hNr := hNr.keepBK hb2 hcs11 (by intro v hv; simp only [List.mem_cons, List.not_mem_nil, or_false] at hv; rcases hv with rfl | rfl | rfl <;> first | rfl | exact NU.notU (by assumption))
    have hb2 := hb2_
    refine WL.nil (kr16 _ _ _ ?_)
    refine kh15 _ _ _ ?_
    refine CW.ret ?_
    refine bodyA.retR1 rfl (RVal.cell rfl (hb2.varA rfl rfl)) ?_
    exact ⟨⟨⟨_, rfl, hNr⟩⟩, hch⟩

end Go.Proofs.YtkkklaodligpdaaDoor

/- Package dyad: sums, products. No condition. -/
namespace Go.Proofs.YtkkklaodligpdaaDoor
open Go Sx Wd
set_option linter.unusedVariables false
set_option linter.unusedSimpArgs false

end Go.Proofs.YtkkklaodligpdaaDoor

/- Package dyad: Add, Sub, Mul, Neg, Sign. No condition. -/
namespace Go.Proofs.YtkkklaodligpdaaDoor
open Go Sx Wd
set_option linter.unusedVariables false
set_option linter.unusedSimpArgs false

end Go.Proofs.YtkkklaodligpdaaDoor

/- Package dyad: Sub, Mul, Neg, Sign. No condition. -/
namespace Go.Proofs.YtkkklaodligpdaaDoor
open Go Sx Wd
set_option linter.unusedVariables false
set_option linter.unusedSimpArgs false

/-- The value with the other sign; what may not be is nought. -/
def negD (x : Option Dy) : Dy := x.getD Dy.zero

set_option maxRecDepth 4000 in
theorem Neg_dspec (na : Bool) (va : Value) (la : List Nat) (ea : Int) (w : World) (ha : NU w va la) (hg : GW w) (hea : -9223372036854775808 ≤ ea ∧ ea ≤ 9223372036854775807) : Ret Tryd.prog 24 [.agg [.bool na, va, .int .i64 ea].toArray] w fun u w' => DY w' u (negD (formD (!na) (val la) ea)) ∧ Chg [] w w' := by
  have hch : Chg [] w w := Chg.refl _ _
  have hoa := ha.one
  refine Ret.enter Tryd.func24 rfl rfl ?_
  simp only [args0, Nat.zero_add, Nat.reduceAdd]
  refine CW.seq fun kK1 kh1 => ?_
  refine CW.region fun kR2 kr2 => ?_  -- region 0
  refine WL.boxB rfl rfl rfl fun b1 wm1 hb1 hcm1 hge1 => ?_
  have hgehch1 := Nat.le_trans hch.size hge1
  have hch := hch.trans hcm1
  have ha := ha.keep0 hcm1
  refine WL.allocB (l := [.bool false, .slice none 0 0, .int .i64 0]) rfl rfl fun b2 wm2 hb2 hcm2 hge2 => ?_
  have hgehch2 := Nat.le_trans hch.size hge2
  have hch := hch.trans hcm2
  have ha := ha.keep0 hcm2
  have hneb12 : b1 ≠ b2 := by have := hb1.lt; omega
  have hb1 := hb1.keep0 hcm2
  refine WL.nil (kr2 _ _ _ ?_)
  refine kh1 _ _ _ ?_
  refine CW.seq fun kK3 kh3 => ?_
  refine CW.region fun kR4 kr4 => ?_  -- region 1
  refine WL.ev (Ev.fieldAddr rfl) rfl ?_
  refine WL.ev (Ev.load rfl rfl (hb1.at_ rfl)) rfl ?_
  refine WL.ev (Ev.not rfl) rfl ?_
  refine WL.ev (Ev.fieldAddr rfl) rfl ?_
  refine WL.ev (Ev.load rfl rfl (hb1.at_ rfl)) rfl ?_
  refine WL.ev (Ev.fieldAddr rfl) rfl ?_
  refine WL.ev (Ev.load rfl rfl (hb1.at_ rfl)) rfl ?_
  refine WL.call hasF45 rfl rfl (form_spec _ _ _ _ _ ha (hg.keep0 hch) hea) fun v w1 h' => ?_
  obtain ⟨hD, hC13⟩ := h'
  have hch := hch.trans hC13
  have hb1 := hb1.keep0 hC13
  have hb2 := hb2.keep0 hC13
  have ha := ha.keep0 hC13
  rcases hD with ⟨r, d, hd, rfl, hNr⟩ | ⟨hd, rfl⟩
  ·
    refine WL.ev (Ev.move rfl) rfl ?_
    refine WL.ev (Ev.extract rfl rfl) rfl ?_
    refine WL.ev (Ev.extract rfl rfl) rfl ?_
    refine WL.allocB (l := [.bool false, .slice none 0 0, .int .i64 0]) rfl rfl fun b3 wm3 hb3 hcm3 hge3 => ?_
    have hgehch3 := Nat.le_trans hch.size hge3
    have hch := hch.trans hcm3
    have ha := ha.keep0 hcm3
    have hNr := hNr.keep0 hcm3
    have hneb13 : b1 ≠ b3 := by have := hb1.lt; omega
    have hb1 := hb1.keep0 hcm3
    have hneb23 : b2 ≠ b3 := by have := hb2.lt; omega
    have hb2 := hb2.keep0 hcm3
    refine WL.storeB rfl rfl rfl (by intro v hv; simp only [List.mem_cons, List.not_mem_nil, or_false] at hv; rcases hv with rfl | rfl | rfl <;> first | rfl | assumption | exact NU.one (by assumption)) hb3 (by simp) rfl fun ws53 hb3_ hcs53 => ?_
    try simp only [Sx.splice, List.set_cons_zero, List.set_cons_succ, Nat.zero_add] at hb3_
    have hch := hch.step hcs53 (fun y hy => .inr (by simp only [List.mem_singleton] at hy; subst hy; first | assumption | omega))
    have hb1 := hb1.keep hcs53 (by simp; omega)
    have hb2 := hb2.keep hcs53 (by simp; omega)
    have ha := ha.keepBK hb3 hcs53 (by intro v hv; simp only [List.mem_cons, List.not_mem_nil, or_false] at hv; rcases hv with rfl | rfl | rfl <;> first | rfl | exact NU.notU (by assumption))
    have hNr := hNr.keepBK hb3 hcs53 (by intro v hv; simp only [List.mem_cons, List.not_mem_nil, or_false] at hv; rcases hv with rfl | rfl | rfl <;> first | rfl | exact NU.notU (by assumption))
    have hb3 := hb3_
    refine WL.ev (Ev.assign rfl) rfl ?_
    refine WL.nil (kr4 _ _ _ ?_)
    refine kh3 _ _ _ ?_
    refine CW.seq fun kK5 kh5 => ?_
    refine CW.region fun kR6 kr6 => ?_  -- region 2
    refine WL.ev (Ev.loadA rfl rfl hb3 rfl) rfl ?_
    refine WL.storeB rfl rfl rfl (by intro v hv; simp only [List.mem_cons, List.not_mem_nil, or_false] at hv; rcases hv with rfl | rfl | rfl <;> first | rfl | assumption | exact NU.one (by assumption)) hb2 (by simp) rfl fun ws54 hb2_ hcs54 => ?_
    try simp only [Sx.splice, List.set_cons_zero, List.set_cons_succ, Nat.zero_add] at hb2_
    have hch := hch.step hcs54 (fun y hy => .inr (by simp only [List.mem_singleton] at hy; subst hy; first | assumption | omega))
    have hb1 := hb1.keep hcs54 (by simp; omega)
    have hb3 := hb3.keep hcs54 (by simp; omega)
    have ha := ha.keepBK hb2 hcs54 (by intro v hv; simp only [List.mem_cons, List.not_mem_nil, or_false] at hv; rcases hv with rfl | rfl | rfl <;> first | rfl | exact NU.notU (by assumption))
    have hNr := hNr.keepBK hb2 hcs54 (by intro v hv; simp only [List.mem_cons, List.not_mem_nil, or_false] at hv; rcases hv with rfl | rfl | rfl <;> first | rfl | exact NU.notU (by assumption))
    have hb2 := hb2_
    refine WL.nil (kr6 _ _ _ ?_)
    refine kh5 _ _ _ ?_
    refine CW.ret ?_
    refine bodyA.retR1 rfl (RVal.cell rfl (hb2.varA rfl rfl)) ?_
    rw [hd]
    exact ⟨⟨⟨r, rfl, hNr⟩⟩, hch⟩
  ·
    refine WL.ev (Ev.move rfl) rfl ?_
    refine WL.ev (Ev.extract rfl rfl) rfl ?_
    refine WL.ev (Ev.extract rfl rfl) rfl ?_
    refine WL.allocB (l := [.bool false, .slice none 0 0, .int .i64 0]) rfl rfl fun b3 wm3 hb3 hcm3 hge3 => ?_
    have hgehch3 := Nat.le_trans hch.size hge3
    have hch := hch.trans hcm3
    have ha := ha.keep0 hcm3
    have hneb13 : b1 ≠ b3 := by have := hb1.lt; omega
    have hb1 := hb1.keep0 hcm3
    have hneb23 : b2 ≠ b3 := by have := hb2.lt; omega
    have hb2 := hb2.keep0 hcm3
    refine WL.storeB rfl rfl rfl (by intro v hv; simp only [List.mem_cons, List.not_mem_nil, or_false] at hv; rcases hv with rfl | rfl | rfl <;> first | rfl | assumption | exact NU.one (by assumption)) hb3 (by simp) rfl fun ws55 hb3_ hcs55 => ?_
    try simp only [Sx.splice, List.set_cons_zero, List.set_cons_succ, Nat.zero_add] at hb3_
    have hch := hch.step hcs55 (fun y hy => .inr (by simp only [List.mem_singleton] at hy; subst hy; first | assumption | omega))
    have hb1 := hb1.keep hcs55 (by simp; omega)
    have hb2 := hb2.keep hcs55 (by simp; omega)
    have ha := ha.keepBK hb3 hcs55 (by intro v hv; simp only [List.mem_cons, List.not_mem_nil, or_false] at hv; rcases hv with rfl | rfl | rfl <;> first | rfl | exact NU.notU (by assumption))
    have hb3 := hb3_
    refine WL.ev (Ev.assign rfl) rfl ?_
    refine WL.nil (kr4 _ _ _ ?_)
    refine kh3 _ _ _ ?_
    refine CW.seq fun kK7 kh7 => ?_
    refine CW.region fun kR8 kr8 => ?_  -- region 2
    refine WL.ev (Ev.loadA rfl rfl hb3 rfl) rfl ?_
    refine WL.storeB rfl rfl rfl (by intro v hv; simp only [List.mem_cons, List.not_mem_nil, or_false] at hv; rcases hv with rfl | rfl | rfl <;> first | rfl | assumption | exact NU.one (by assumption)) hb2 (by simp) rfl fun ws56 hb2_ hcs56 => ?_
    try simp only [Sx.splice, List.set_cons_zero, List.set_cons_succ, Nat.zero_add] at hb2_
    have hch := hch.step hcs56 (fun y hy => .inr (by simp only [List.mem_singleton] at hy; subst hy; first | assumption | omega))
    have hb1 := hb1.keep hcs56 (by simp; omega)
    have hb3 := hb3.keep hcs56 (by simp; omega)
    have ha := ha.keepBK hb2 hcs56 (by intro v hv; simp only [List.mem_cons, List.not_mem_nil, or_false] at hv; rcases hv with rfl | rfl | rfl <;> first | rfl | exact NU.notU (by assumption))
    have hb2 := hb2_
    refine WL.nil (kr8 _ _ _ ?_)
    refine kh7 _ _ _ ?_
    refine CW.ret ?_
    refine bodyA.retR1 rfl (RVal.cell rfl (hb2.varA rfl rfl)) ?_
    rw [hd]
    exact ⟨DY.zero, hch⟩

/-- How a value stands to nought. -/
def sgD (neg : Bool) (n : Nat) : Int := if n = 0 then 0 else if neg then -1 else 1

set_option maxRecDepth 4000 in
theorem Sign_dspec (na : Bool) (va : Value) (la : List Nat) (ea : Int) (w : World) (ha : NU w va la) : Ret Tryd.prog 23 [.agg [.bool na, va, .int .i64 ea].toArray] w fun u w' => u = .int .i64 (sgD na (val la)) ∧ Chg [] w w' := by
  have hch : Chg [] w w := Chg.refl _ _
  have hoa := ha.one
  have hbz := bl_eq_zero (n := val la)
  refine Ret.enter Tryd.func23 rfl rfl ?_
  simp only [args0, Nat.zero_add, Nat.reduceAdd]
  refine CW.seq fun kK1 kh1 => ?_
  refine CW.region fun kR2 kr2 => ?_  -- region 0
  refine WL.boxB rfl rfl rfl fun b1 wm1 hb1 hcm1 hge1 => ?_
  have hgehch1 := Nat.le_trans hch.size hge1
  have hch := hch.trans hcm1
  have ha := ha.keep0 hcm1
  refine WL.ev (Ev.assign rfl) rfl ?_
  refine WL.nil (kr2 _ _ _ ?_)
  refine kh1 _ _ _ ?_
  refine CW.seq fun kK3 kh3 => ?_
  refine CW.block ?_
  refine CW.seq fun kK4 kh4 => ?_
  refine CW.region fun kR5 kr5 => ?_  -- region 1
  refine WL.ev (Ev.fieldAddr rfl) rfl ?_
  refine WL.ev (Ev.load rfl rfl (hb1.at_ rfl)) rfl ?_
  refine WL.call hasF44 rfl rfl (Len_spec _ _ _ ha) fun v w1 h' => ?_
  obtain ⟨rfl, rfl⟩ := h'
  refine WL.ev (Ev.eql rfl rfl) rfl ?_
  refine WL.ev (Ev.assign rfl) rfl ?_
  refine WL.nil (kr5 _ _ _ ?_)
  refine kh4 _ _ _ ?_
  refine CW.cond rfl (fun hc1 => ?_) (fun hc1 => ?_)  -- if 3
  ·
    try simp only [decide_eq_true_eq, decide_eq_false_iff_not, Decidable.not_not, Bool.and_eq_true, Bool.or_eq_true, Bool.not_eq_true', Bool.not_eq_false', ne_eq, Int.not_lt, Int.not_le] at hc1
    refine CW.seq fun kK6 kh6 => ?_
    refine CW.region fun kR7 kr7 => ?_  -- region 2
    refine WL.ev (Ev.assign rfl) rfl ?_
    refine WL.nil (kr7 _ _ _ ?_)
    refine kh6 _ _ _ ?_
    refine CW.ret ?_
    refine bodyA.ret1 rfl rfl ?_
    unfold sgD; rw [if_pos (by omega)]
    exact ⟨rfl, hch⟩
  ·
    try simp only [decide_eq_true_eq, decide_eq_false_iff_not, Decidable.not_not, Bool.and_eq_true, Bool.or_eq_true, Bool.not_eq_true', Bool.not_eq_false', ne_eq, Int.not_lt, Int.not_le] at hc1
    refine CW.seq fun kK8 kh8 => ?_
    refine CW.region fun kR9 kr9 => ?_  -- region 3
    refine WL.ev (Ev.fieldAddr rfl) rfl ?_
    refine WL.ev (Ev.load rfl rfl (hb1.at_ rfl)) rfl ?_
    refine WL.ev (Ev.assign rfl) rfl ?_
    refine WL.nil (kr9 _ _ _ ?_)
    refine kh8 _ _ _ ?_
    refine CW.cond rfl (fun hc2 => ?_) (fun hc2 => ?_)  -- if 8
    ·
      try simp only [decide_eq_true_eq, decide_eq_false_iff_not, Decidable.not_not, Bool.and_eq_true, Bool.or_eq_true, Bool.not_eq_true', Bool.not_eq_false', ne_eq, Int.not_lt, Int.not_le] at hc2
      refine CW.seq fun kK10 kh10 => ?_
      refine CW.region fun kR11 kr11 => ?_  -- region 4
      refine WL.ev (Ev.assign rfl) rfl ?_
      refine WL.nil (kr11 _ _ _ ?_)
      refine kh10 _ _ _ ?_
      refine CW.ret ?_
      refine bodyA.ret1 rfl rfl ?_
      unfold sgD; rw [if_neg (by omega), if_pos hc2]
      exact ⟨rfl, hch⟩
    ·
      try simp only [decide_eq_true_eq, decide_eq_false_iff_not, Decidable.not_not, Bool.and_eq_true, Bool.or_eq_true, Bool.not_eq_true', Bool.not_eq_false', ne_eq, Int.not_lt, Int.not_le] at hc2
      refine CW.skip ?_
      refine kh3 _ _ _ ?_
      refine CW.seq fun kK12 kh12 => ?_
      refine CW.region fun kR13 kr13 => ?_  -- region 5
      refine WL.ev (Ev.assign rfl) rfl ?_
      refine WL.nil (kr13 _ _ _ ?_)
      refine kh12 _ _ _ ?_
      refine CW.ret ?_
      refine bodyA.ret1 rfl rfl ?_
      unfold sgD; rw [if_neg (by omega), if_neg (by rw [hc2]; decide)]
      exact ⟨rfl, hch⟩

end Go.Proofs.YtkkklaodligpdaaDoor

/- Package dyad: rounding. No condition. -/
namespace Go.Proofs.YtkkklaodligpdaaDoor
open Go Sx Wd
set_option linter.unusedVariables false
set_option linter.unusedSimpArgs false

def awayM (mode : Int) (neg : Bool) (n : Nat) (half only : Bool) : Bool := if mode = 0 then (half && (!only || decide (n % 2 = 1))) else if mode = 4 then half else if mode = 2 then !neg else if mode = 3 then neg else false

theorem away_spec (mode : Int) (neg : Bool) (n : Nat) (half only : Bool) (w : World) (hn : n < 18446744073709551616) : Ret Tryd.prog 83 [.int .i64 mode, .bool neg, .int .u64 (n : Int), .bool half, .bool only] w fun u w' => u = .bool (awayM mode neg n half only) ∧ w = w' := by
  refine Ret.enter Tryd.func83 rfl rfl ?_
  simp only [args0, Nat.zero_add, Nat.reduceAdd]
  refine CW.seq fun kK1 kh1 => ?_
  refine CW.region fun kR2 kr2 => ?_  -- region 0
  refine WL.ev (Ev.assign rfl) rfl ?_
  refine WL.nil (kr2 _ _ _ ?_)
  refine kh1 _ _ _ ?_
  refine CW.seq fun kK3 kh3 => ?_
  refine CW.seq fun kK4 kh4 => ?_
  refine CW.region fun kR5 kr5 => ?_  -- region 1
  refine WL.ev (Ev.move rfl) rfl ?_
  refine WL.nil (kr5 _ _ _ ?_)
  refine kh4 _ _ _ ?_
  refine CW.block ?_
  refine CW.seq fun kK6 kh6 => ?_
  refine CW.region fun kR7 kr7 => ?_  -- region 2
  refine WL.ev (Ev.eql rfl rfl) rfl ?_
  refine WL.ev (Ev.assign rfl) rfl ?_
  refine WL.nil (kr7 _ _ _ ?_)
  refine kh6 _ _ _ ?_
  refine CW.cond rfl (fun hc1 => ?_) (fun hc1 => ?_)  -- if 12
  ·
    try simp only [decide_eq_true_eq, decide_eq_false_iff_not, Decidable.not_not, Bool.and_eq_true, Bool.or_eq_true, Bool.not_eq_true', Bool.not_eq_false', ne_eq, Int.not_lt, Int.not_le] at hc1
    refine CW.seq fun kK8 kh8 => ?_
    refine CW.region fun kR9 kr9 => ?_  -- region 3
    refine WL.ev (Ev.move rfl) rfl ?_
    refine WL.ev (Ev.move rfl) rfl ?_
    refine WL.boolCase (fun hg2 => ?_) (fun hg2 => ?_)
    ·
      try simp only [decide_eq_true_eq, decide_eq_false_iff_not, Decidable.not_not, Bool.and_eq_true, Bool.or_eq_true, Bool.not_eq_true', Bool.not_eq_false', ne_eq, Int.not_lt, Int.not_le] at hg2
      refine WL.want rfl rfl rfl rfl ?_
      refine WL.ev (Ev.move rfl) rfl ?_
      refine WL.want rfl rfl rfl rfl ?_
      refine WL.ev (Ev.not rfl) rfl ?_
      refine WL.want rfl rfl rfl rfl ?_
      refine WL.ev (Ev.move rfl) rfl ?_
      refine WL.boolCase (fun hg3 => ?_) (fun hg3 => ?_)
      ·
        try simp only [decide_eq_true_eq, decide_eq_false_iff_not, Decidable.not_not, Bool.and_eq_true, Bool.or_eq_true, Bool.not_eq_true', Bool.not_eq_false', ne_eq, Int.not_lt, Int.not_le] at hg3
        refine WL.pass rfl rfl rfl rfl rfl ?_
        refine WL.pass rfl rfl rfl rfl rfl ?_
        refine WL.pass rfl rfl rfl rfl rfl ?_
        refine WL.want rfl rfl rfl rfl ?_
        refine WL.ev (Ev.pickT rfl rfl rfl) rfl ?_
        refine WL.ev (Ev.pickT rfl rfl rfl) rfl ?_
        refine WL.ev (Ev.assign rfl) rfl ?_
        refine WL.nil (kr9 _ _ _ ?_)
        refine kh8 _ _ _ ?_
        refine CW.ret ?_
        refine bodyA.ret1 rfl rfl ?_
        have h0 : mode = 0 := by omega
        refine ⟨?_, rfl⟩
        unfold awayM; rw [if_pos h0, hg2, hg3]; rfl
      ·
        try simp only [decide_eq_true_eq, decide_eq_false_iff_not, Decidable.not_not, Bool.and_eq_true, Bool.or_eq_true, Bool.not_eq_true', Bool.not_eq_false', ne_eq, Int.not_lt, Int.not_le] at hg3
        refine WL.want rfl rfl rfl rfl ?_
        refine WL.ev (Ev.move rfl) rfl ?_
        refine WL.want rfl rfl rfl rfl ?_
        refine WL.ev (Ev.andU (b := 1) rfl rfl rfl (by simp only [IntKind.bits]; omega) (by simp only [IntKind.bits]; omega)) rfl ?_
        rw [Nat.and_one_is_mod]
        refine WL.want rfl rfl rfl rfl ?_
        refine WL.ev (Ev.eql rfl rfl) rfl ?_
        refine WL.want rfl rfl rfl rfl ?_
        refine WL.ev (Ev.pickF rfl rfl rfl) rfl ?_
        refine WL.ev (Ev.pickT rfl rfl rfl) rfl ?_
        refine WL.ev (Ev.assign rfl) rfl ?_
        refine WL.nil (kr9 _ _ _ ?_)
        refine kh8 _ _ _ ?_
        refine CW.ret ?_
        refine bodyA.ret1 rfl rfl ?_
        have h0 : mode = 0 := by omega
        refine ⟨?_, rfl⟩
        unfold awayM; rw [if_pos h0, hg2, hg3]
        congr 1
        simp only [Bool.true_and, Bool.not_true, Bool.false_or]
        refine decide_eq_decide.2 ?_
        omega
    ·
      try simp only [decide_eq_true_eq, decide_eq_false_iff_not, Decidable.not_not, Bool.and_eq_true, Bool.or_eq_true, Bool.not_eq_true', Bool.not_eq_false', ne_eq, Int.not_lt, Int.not_le] at hg2
      refine WL.pass rfl rfl rfl rfl rfl ?_
      refine WL.pass rfl rfl rfl rfl rfl ?_
      refine WL.pass rfl rfl rfl rfl rfl ?_
      refine WL.passU rfl rfl rfl rfl ?_
      refine WL.passU rfl rfl rfl rfl ?_
      refine WL.passU rfl rfl rfl rfl ?_
      refine WL.pass rfl rfl rfl rfl rfl ?_
      refine WL.ev (Ev.pickF rfl rfl rfl) rfl ?_
      refine WL.ev (Ev.assign rfl) rfl ?_
      refine WL.nil (kr9 _ _ _ ?_)
      refine kh8 _ _ _ ?_
      refine CW.ret ?_
      refine bodyA.ret1 rfl rfl ?_
      have h0 : mode = 0 := by omega
      refine ⟨?_, rfl⟩
      unfold awayM; rw [if_pos h0, hg2]; rfl
  ·
    try simp only [decide_eq_true_eq, decide_eq_false_iff_not, Decidable.not_not, Bool.and_eq_true, Bool.or_eq_true, Bool.not_eq_true', Bool.not_eq_false', ne_eq, Int.not_lt, Int.not_le] at hc1
    refine CW.seq fun kK10 kh10 => ?_
    refine CW.region fun kR11 kr11 => ?_  -- region 4
    refine WL.ev (Ev.eql rfl rfl) rfl ?_
    refine WL.ev (Ev.assign rfl) rfl ?_
    refine WL.nil (kr11 _ _ _ ?_)
    refine kh10 _ _ _ ?_
    refine CW.cond rfl (fun hc4 => ?_) (fun hc4 => ?_)  -- if 24
    ·
      try simp only [decide_eq_true_eq, decide_eq_false_iff_not, Decidable.not_not, Bool.and_eq_true, Bool.or_eq_true, Bool.not_eq_true', Bool.not_eq_false', ne_eq, Int.not_lt, Int.not_le] at hc4
      refine CW.seq fun kK12 kh12 => ?_
      refine CW.region fun kR13 kr13 => ?_  -- region 5
      refine WL.ev (Ev.move rfl) rfl ?_
      refine WL.ev (Ev.assign rfl) rfl ?_
      refine WL.nil (kr13 _ _ _ ?_)
      refine kh12 _ _ _ ?_
      refine CW.ret ?_
      refine bodyA.ret1 rfl rfl ?_
      refine ⟨?_, rfl⟩
      unfold awayM; rw [if_neg (by omega), if_pos (by omega)]
    ·
      try simp only [decide_eq_true_eq, decide_eq_false_iff_not, Decidable.not_not, Bool.and_eq_true, Bool.or_eq_true, Bool.not_eq_true', Bool.not_eq_false', ne_eq, Int.not_lt, Int.not_le] at hc4
      refine CW.seq fun kK14 kh14 => ?_
      refine CW.region fun kR15 kr15 => ?_  -- region 6
      refine WL.ev (Ev.eql rfl rfl) rfl ?_
      refine WL.ev (Ev.assign rfl) rfl ?_
      refine WL.nil (kr15 _ _ _ ?_)
      refine kh14 _ _ _ ?_
      refine CW.cond rfl (fun hc5 => ?_) (fun hc5 => ?_)  -- if 27
      ·
        try simp only [decide_eq_true_eq, decide_eq_false_iff_not, Decidable.not_not, Bool.and_eq_true, Bool.or_eq_true, Bool.not_eq_true', Bool.not_eq_false', ne_eq, Int.not_lt, Int.not_le] at hc5
        refine CW.seq fun kK16 kh16 => ?_
        refine CW.region fun kR17 kr17 => ?_  -- region 7
        refine WL.ev (Ev.move rfl) rfl ?_
        refine WL.ev (Ev.not rfl) rfl ?_
        refine WL.ev (Ev.assign rfl) rfl ?_
        refine WL.nil (kr17 _ _ _ ?_)
        refine kh16 _ _ _ ?_
        refine CW.ret ?_
        refine bodyA.ret1 rfl rfl ?_
        refine ⟨?_, rfl⟩
        unfold awayM; rw [if_neg (by omega), if_neg (by omega), if_pos (by omega)]
      ·
        try simp only [decide_eq_true_eq, decide_eq_false_iff_not, Decidable.not_not, Bool.and_eq_true, Bool.or_eq_true, Bool.not_eq_true', Bool.not_eq_false', ne_eq, Int.not_lt, Int.not_le] at hc5
        refine CW.seq fun kK18 kh18 => ?_
        refine CW.region fun kR19 kr19 => ?_  -- region 8
        refine WL.ev (Ev.eql rfl rfl) rfl ?_
        refine WL.ev (Ev.assign rfl) rfl ?_
        refine WL.nil (kr19 _ _ _ ?_)
        refine kh18 _ _ _ ?_
        refine CW.cond rfl (fun hc6 => ?_) (fun hc6 => ?_)  -- if 31
        ·
          try simp only [decide_eq_true_eq, decide_eq_false_iff_not, Decidable.not_not, Bool.and_eq_true, Bool.or_eq_true, Bool.not_eq_true', Bool.not_eq_false', ne_eq, Int.not_lt, Int.not_le] at hc6
          refine CW.seq fun kK20 kh20 => ?_
          refine CW.region fun kR21 kr21 => ?_  -- region 9
          refine WL.ev (Ev.move rfl) rfl ?_
          refine WL.ev (Ev.assign rfl) rfl ?_
          refine WL.nil (kr21 _ _ _ ?_)
          refine kh20 _ _ _ ?_
          refine CW.ret ?_
          refine bodyA.ret1 rfl rfl ?_
          refine ⟨?_, rfl⟩
          unfold awayM; rw [if_neg (by omega), if_neg (by omega), if_neg (by omega), if_pos (by omega)]
        ·
          try simp only [decide_eq_true_eq, decide_eq_false_iff_not, Decidable.not_not, Bool.and_eq_true, Bool.or_eq_true, Bool.not_eq_true', Bool.not_eq_false', ne_eq, Int.not_lt, Int.not_le] at hc6
          refine CW.skip ?_
          refine kh3 _ _ _ ?_
          refine CW.seq fun kK22 kh22 => ?_
          refine CW.region fun kR23 kr23 => ?_  -- region 10
          refine WL.ev (Ev.assign rfl) rfl ?_
          refine WL.nil (kr23 _ _ _ ?_)
          refine kh22 _ _ _ ?_
          refine CW.ret ?_
          refine bodyA.ret1 rfl rfl ?_
          refine ⟨?_, rfl⟩
          unfold awayM; rw [if_neg (by omega), if_neg (by omega), if_neg (by omega), if_neg (by omega)]

theorem on_fits {m : Nat} {e ex : Int} {c : Nat} (h0 : m ≠ 0) (hex : max ((bl m : Int) + e - 53) (-1074) = ex) (ht : (bl m : Int) + e ≤ 1024) (hc : (c : Int) = e - ex) : m * 2 ^ c < 9007199254740992 ∧ ((ex + 1074).toNat = 0 ∨ 4503599627370496 ≤ m * 2 ^ c) ∧ m * 2 ^ c + (ex + 1074).toNat * 4503599627370496 < 9218868437227405312 := by
  have hb := bl_mul_pow h0 c
  have h1 : m * 2 ^ c < 9007199254740992 := bl_le.1 (show bl (m * 2 ^ c) ≤ 53 by omega)
  refine ⟨h1, ?_, by omega⟩
  by_cases hx : ex = -1074
  · left; omega
  · right
    exact lt_bl.1 (show 52 < bl (m * 2 ^ c) by omega)
theorem on_cuts {m : Nat} {e ex : Int} {c : Nat} (h0 : m ≠ 0) (hex : max ((bl m : Int) + e - 53) (-1074) = ex) (ht : (bl m : Int) + e ≤ 1024) (hc : (c : Int) = ex - e) : m / 2 ^ c < 9007199254740992 ∧ ((ex + 1074).toNat = 0 ∨ 4503599627370496 ≤ m / 2 ^ c) ∧ m / 2 ^ c + (ex + 1074).toNat * 4503599627370496 < 9218868437227405312 := by
  have h1 : m / 2 ^ c < 9007199254740992 := by
    rw [Nat.div_lt_iff_lt_mul (Nat.two_pow_pos c), show (9007199254740992 : Nat) = 2 ^ 53 by decide, ← Nat.pow_add]
    exact bl_le.1 (by omega)
  refine ⟨h1, ?_, by omega⟩
  by_cases hx : ex = -1074
  · left; omega
  · right
    rw [Nat.le_div_iff_mul_le (Nat.two_pow_pos c), show (4503599627370496 : Nat) = 2 ^ 52 by decide, ← Nat.pow_add]
    exact lt_bl.1 (by omega)

set_option maxRecDepth 4000 in
theorem beyond_spec (neg : Bool) (mode : Int) (w : World) : Ret Tryd.prog 80 [.agg [.int .i64 53, .int .i64 (-1074), .int .u64 9218868437227405312].toArray, .bool neg, .int .i64 mode] w fun u w' => u = .int .u64 (((if mode = 1 ∨ (mode = 2 ∧ neg = true) ∨ (mode = 3 ∧ neg = false) then 9218868437227405311 else 9218868437227405312) : Nat) : Int) ∧ Chg [] w w' := by
  have hch : Chg [] w w := Chg.refl _ _
  refine Ret.enter Tryd.func80 rfl rfl ?_
  simp only [args0, Nat.zero_add, Nat.reduceAdd]
  refine CW.seq fun kK1 kh1 => ?_
  refine CW.region fun kR2 kr2 => ?_  -- region 0
  refine WL.boxB rfl rfl rfl fun b3 wm3 hb3 hcm3 hge3 => ?_
  have hgehch3 := Nat.le_trans hch.size hge3
  have hch := hch.trans hcm3
  refine WL.ev (Ev.assign rfl) rfl ?_
  refine WL.nil (kr2 _ _ _ ?_)
  refine kh1 _ _ _ ?_
  refine CW.seq fun kK3 kh3 => ?_
  refine CW.seqM 23 (decide (mode = 1 ∨ (mode = 2 ∧ neg = true) ∨ (mode = 3 ∧ neg = false))) ?_ ?_
  ·
    refine CW.region fun kR4 kr4 => ?_  -- region 1
    refine WL.ev (Ev.move rfl) rfl ?_
    refine WL.ev (Ev.eql rfl rfl) rfl ?_
    refine WL.ev (Ev.move rfl) rfl ?_
    refine WL.boolCase (fun hg1 => ?_) (fun hg1 => ?_)
    ·
      try simp only [decide_eq_true_eq, decide_eq_false_iff_not, Decidable.not_not, Bool.and_eq_true, Bool.or_eq_true, Bool.not_eq_true', Bool.not_eq_false', ne_eq, Int.not_lt, Int.not_le] at hg1
      refine WL.pass rfl rfl rfl rfl rfl ?_
      refine WL.pass rfl rfl rfl rfl rfl ?_
      refine WL.pass rfl rfl rfl rfl rfl ?_
      refine WL.passU rfl rfl rfl rfl ?_
      refine WL.pass rfl rfl rfl rfl rfl ?_
      refine WL.ev (Ev.pickT rfl rfl rfl) rfl ?_
      refine WL.ev (Ev.move rfl) rfl ?_
      refine WL.pass rfl rfl rfl rfl rfl ?_
      refine WL.pass rfl rfl rfl rfl rfl ?_
      refine WL.pass rfl rfl rfl rfl rfl ?_
      refine WL.passU rfl rfl rfl rfl ?_
      refine WL.passU rfl rfl rfl rfl ?_
      refine WL.pass rfl rfl rfl rfl rfl ?_
      refine WL.ev (Ev.pickT rfl rfl rfl) rfl ?_
      refine WL.nil (kr4 _ _ _ ?_)
      refine ⟨rfl, rfl, Subs.consB rfl ?_ ?_⟩
      ·
        first | (simp; omega) | (cases neg <;> simp_all <;> omega) | (refine decide_eq_decide.2 ?_; omega) | (cases neg <;> simp_all)
      ·
        first | ((repeat (first | exact Subs.refl | refine Subs.drop1 (by rfl) ?_)); done) | ((repeat (first | exact Subs.nil | refine Subs.cons rfl ?_)); done)
    ·
      try simp only [decide_eq_true_eq, decide_eq_false_iff_not, Decidable.not_not, Bool.and_eq_true, Bool.or_eq_true, Bool.not_eq_true', Bool.not_eq_false', ne_eq, Int.not_lt, Int.not_le] at hg1
      refine WL.want rfl rfl rfl rfl ?_
      refine WL.ev (Ev.move rfl) rfl ?_
      refine WL.want rfl rfl rfl rfl ?_
      refine WL.ev (Ev.eql rfl rfl) rfl ?_
      refine WL.want rfl rfl rfl rfl ?_
      refine WL.ev (Ev.move rfl) rfl ?_
      refine WL.boolCase (fun hg2 => ?_) (fun hg2 => ?_)
      ·
        try simp only [decide_eq_true_eq, decide_eq_false_iff_not, Decidable.not_not, Bool.and_eq_true, Bool.or_eq_true, Bool.not_eq_true', Bool.not_eq_false', ne_eq, Int.not_lt, Int.not_le] at hg2
        refine WL.want rfl rfl rfl rfl ?_
        refine WL.ev (Ev.move rfl) rfl ?_
        refine WL.want rfl rfl rfl rfl ?_
        refine WL.ev (Ev.pickT rfl rfl rfl) rfl ?_
        refine WL.ev (Ev.pickF rfl rfl rfl) rfl ?_
        refine WL.ev (Ev.move rfl) rfl ?_
        refine WL.boolCase (fun hg3 => ?_) (fun hg3 => ?_)
        ·
          try simp only [decide_eq_true_eq, decide_eq_false_iff_not, Decidable.not_not, Bool.and_eq_true, Bool.or_eq_true, Bool.not_eq_true', Bool.not_eq_false', ne_eq, Int.not_lt, Int.not_le] at hg3
          refine WL.pass rfl rfl rfl rfl rfl ?_
          refine WL.pass rfl rfl rfl rfl rfl ?_
          refine WL.pass rfl rfl rfl rfl rfl ?_
          refine WL.passU rfl rfl rfl rfl ?_
          refine WL.passU rfl rfl rfl rfl ?_
          refine WL.pass rfl rfl rfl rfl rfl ?_
          refine WL.ev (Ev.pickT rfl rfl rfl) rfl ?_
          refine WL.nil (kr4 _ _ _ ?_)
          refine ⟨rfl, rfl, Subs.consB rfl ?_ ?_⟩
          ·
            first | (simp; omega) | (cases neg <;> simp_all <;> omega) | (refine decide_eq_decide.2 ?_; omega) | (cases neg <;> simp_all)
          ·
            first | ((repeat (first | exact Subs.refl | refine Subs.drop1 (by rfl) ?_)); done) | ((repeat (first | exact Subs.nil | refine Subs.cons rfl ?_)); done)
        ·
          try simp only [decide_eq_true_eq, decide_eq_false_iff_not, Decidable.not_not, Bool.and_eq_true, Bool.or_eq_true, Bool.not_eq_true', Bool.not_eq_false', ne_eq, Int.not_lt, Int.not_le] at hg3
          refine WL.want rfl rfl rfl rfl ?_
          refine WL.ev (Ev.move rfl) rfl ?_
          refine WL.want rfl rfl rfl rfl ?_
          refine WL.ev (Ev.eql rfl rfl) rfl ?_
          refine WL.want rfl rfl rfl rfl ?_
          refine WL.ev (Ev.move rfl) rfl ?_
          refine WL.boolCase (fun hg4 => ?_) (fun hg4 => ?_)
          ·
            try simp only [decide_eq_true_eq, decide_eq_false_iff_not, Decidable.not_not, Bool.and_eq_true, Bool.or_eq_true, Bool.not_eq_true', Bool.not_eq_false', ne_eq, Int.not_lt, Int.not_le] at hg4
            refine WL.want rfl rfl rfl rfl ?_
            refine WL.ev (Ev.move rfl) rfl ?_
            refine WL.want rfl rfl rfl rfl ?_
            refine WL.ev (Ev.not rfl) rfl ?_
            refine WL.want rfl rfl rfl rfl ?_
            refine WL.ev (Ev.pickT rfl rfl rfl) rfl ?_
            refine WL.ev (Ev.pickF rfl rfl rfl) rfl ?_
            refine WL.nil (kr4 _ _ _ ?_)
            refine ⟨rfl, rfl, Subs.consB rfl ?_ ?_⟩
            ·
              first | (simp; omega) | (cases neg <;> simp_all <;> omega) | (refine decide_eq_decide.2 ?_; omega) | (cases neg <;> simp_all)
            ·
              first | ((repeat (first | exact Subs.refl | refine Subs.drop1 (by rfl) ?_)); done) | ((repeat (first | exact Subs.nil | refine Subs.cons rfl ?_)); done)
          ·
            try simp only [decide_eq_true_eq, decide_eq_false_iff_not, Decidable.not_not, Bool.and_eq_true, Bool.or_eq_true, Bool.not_eq_true', Bool.not_eq_false', ne_eq, Int.not_lt, Int.not_le] at hg4
            refine WL.pass rfl rfl rfl rfl rfl ?_
            refine WL.pass rfl rfl rfl rfl rfl ?_
            refine WL.want rfl rfl rfl rfl ?_
            refine WL.ev (Ev.pickF rfl rfl rfl) rfl ?_
            refine WL.ev (Ev.pickF rfl rfl rfl) rfl ?_
            refine WL.nil (kr4 _ _ _ ?_)
            refine ⟨rfl, rfl, Subs.consB rfl ?_ ?_⟩
            ·
              first | (simp; omega) | (cases neg <;> simp_all <;> omega) | (refine decide_eq_decide.2 ?_; omega) | (cases neg <;> simp_all)
            ·
              first | ((repeat (first | exact Subs.refl | refine Subs.drop1 (by rfl) ?_)); done) | ((repeat (first | exact Subs.nil | refine Subs.cons rfl ?_)); done)
      ·
        try simp only [decide_eq_true_eq, decide_eq_false_iff_not, Decidable.not_not, Bool.and_eq_true, Bool.or_eq_true, Bool.not_eq_true', Bool.not_eq_false', ne_eq, Int.not_lt, Int.not_le] at hg2
        refine WL.pass rfl rfl rfl rfl rfl ?_
        refine WL.want rfl rfl rfl rfl ?_
        refine WL.ev (Ev.pickF rfl rfl rfl) rfl ?_
        refine WL.ev (Ev.pickF rfl rfl rfl) rfl ?_
        refine WL.ev (Ev.move rfl) rfl ?_
        refine WL.want rfl rfl rfl rfl ?_
        refine WL.ev (Ev.move rfl) rfl ?_
        refine WL.want rfl rfl rfl rfl ?_
        refine WL.ev (Ev.eql rfl rfl) rfl ?_
        refine WL.want rfl rfl rfl rfl ?_
        refine WL.ev (Ev.move rfl) rfl ?_
        refine WL.boolCase (fun hg5 => ?_) (fun hg5 => ?_)
        ·
          try simp only [decide_eq_true_eq, decide_eq_false_iff_not, Decidable.not_not, Bool.and_eq_true, Bool.or_eq_true, Bool.not_eq_true', Bool.not_eq_false', ne_eq, Int.not_lt, Int.not_le] at hg5
          refine WL.want rfl rfl rfl rfl ?_
          refine WL.ev (Ev.move rfl) rfl ?_
          refine WL.want rfl rfl rfl rfl ?_
          refine WL.ev (Ev.not rfl) rfl ?_
          refine WL.want rfl rfl rfl rfl ?_
          refine WL.ev (Ev.pickT rfl rfl rfl) rfl ?_
          refine WL.ev (Ev.pickF rfl rfl rfl) rfl ?_
          refine WL.nil (kr4 _ _ _ ?_)
          refine ⟨rfl, rfl, Subs.consB rfl ?_ ?_⟩
          ·
            first | (simp; omega) | (cases neg <;> simp_all <;> omega) | (refine decide_eq_decide.2 ?_; omega) | (cases neg <;> simp_all)
          ·
            first | ((repeat (first | exact Subs.refl | refine Subs.drop1 (by rfl) ?_)); done) | ((repeat (first | exact Subs.nil | refine Subs.cons rfl ?_)); done)
        ·
          try simp only [decide_eq_true_eq, decide_eq_false_iff_not, Decidable.not_not, Bool.and_eq_true, Bool.or_eq_true, Bool.not_eq_true', Bool.not_eq_false', ne_eq, Int.not_lt, Int.not_le] at hg5
          refine WL.pass rfl rfl rfl rfl rfl ?_
          refine WL.pass rfl rfl rfl rfl rfl ?_
          refine WL.want rfl rfl rfl rfl ?_
          refine WL.ev (Ev.pickF rfl rfl rfl) rfl ?_
          refine WL.ev (Ev.pickF rfl rfl rfl) rfl ?_
          refine WL.nil (kr4 _ _ _ ?_)
          refine ⟨rfl, rfl, Subs.consB rfl ?_ ?_⟩
          ·
            first | (simp; omega) | (cases neg <;> simp_all <;> omega) | (refine decide_eq_decide.2 ?_; omega) | (cases neg <;> simp_all)
          ·
            first | ((repeat (first | exact Subs.refl | refine Subs.drop1 (by rfl) ?_)); done) | ((repeat (first | exact Subs.nil | refine Subs.cons rfl ?_)); done)
  ·
    refine CW.cond rfl (fun hc6 => ?_) (fun hc6 => ?_)  -- if 23
    ·
      try simp only [decide_eq_true_eq, decide_eq_false_iff_not, Decidable.not_not, Bool.and_eq_true, Bool.or_eq_true, Bool.not_eq_true', Bool.not_eq_false', ne_eq, Int.not_lt, Int.not_le] at hc6
      refine CW.seq fun kK5 kh5 => ?_
      refine CW.region fun kR6 kr6 => ?_  -- region 2
      refine WL.ev (Ev.fieldAddr rfl) rfl ?_
      refine WL.ev (Ev.load rfl rfl (hb3.at_ rfl)) rfl ?_
      refine WL.ev (Ev.sub64In (a := 9218868437227405312) (b := 1) rfl rfl (by omega) (by omega)) rfl ?_
      refine WL.ev (Ev.assign rfl) rfl ?_
      refine WL.nil (kr6 _ _ _ ?_)
      refine kh5 _ _ _ ?_
      refine CW.ret ?_
      refine bodyA.ret1 rfl rfl ?_
      rw [if_pos hc6]
      exact ⟨rfl, hch⟩
    ·
      try simp only [decide_eq_true_eq, decide_eq_false_iff_not, Decidable.not_not, Bool.and_eq_true, Bool.or_eq_true, Bool.not_eq_true', Bool.not_eq_false', ne_eq, Int.not_lt, Int.not_le] at hc6
      refine CW.skip ?_
      refine kh3 _ _ _ ?_
      refine CW.seq fun kK7 kh7 => ?_
      refine CW.region fun kR8 kr8 => ?_  -- region 3
      refine WL.ev (Ev.fieldAddr rfl) rfl ?_
      refine WL.ev (Ev.load rfl rfl (hb3.at_ rfl)) rfl ?_
      refine WL.ev (Ev.assign rfl) rfl ?_
      refine WL.nil (kr8 _ _ _ ?_)
      refine kh7 _ _ _ ?_
      refine CW.ret ?_
      refine bodyA.ret1 rfl rfl ?_
      rw [if_neg hc6]
      exact ⟨rfl, hch⟩

end Go.Proofs.YtkkklaodligpdaaDoor

/- Package dyad: on, told, Round. No condition. -/
namespace Go.Proofs.YtkkklaodligpdaaDoor
open Go Sx Wd
set_option linter.unusedVariables false
set_option linter.unusedSimpArgs false

set_option maxRecDepth 4000 in
set_option maxHeartbeats 1000000 in
theorem on_spec (neg : Bool) (v : Value) (m : Nat) (e mode : Int) (w : World) (hv : NU w v (wd m)) (hok : (Dy.mk neg m e).ok) (hm : 0 ≤ mode ∧ mode ≤ 4) : Ret Tryd.prog 69 [.agg [.int .i64 53, .int .i64 (-1074), .int .u64 9218868437227405312].toArray, .agg [.bool neg, v, .int .i64 e].toArray, .int .i64 mode] w fun u w' => ∃ r : Nat, u = .int .u64 (r : Int) ∧ IsNear (dyA m e) (dyB e) neg mode r ∧ r ≤ 9218868437227405312 ∧ Chg [] w w' := by
  have hch : Chg [] w w := Chg.refl _ _
  have hov := hv.one
  have he : -1048576 ≤ e ∧ e ≤ 1048576 := hok.e
  have hl : (wd m).length ≤ 8192 := hok.len
  have hbz := bl_eq_zero (n := m)
  have hbl : bl m ≤ 262144 := bl_words.2 hl
  refine Ret.enter Tryd.func69 rfl rfl ?_
  simp only [args0, Nat.zero_add, Nat.reduceAdd]
  refine CW.seq fun kK1 kh1 => ?_
  refine CW.region fun kR2 kr2 => ?_  -- region 0
  refine WL.boxB rfl rfl rfl fun b3 wm3 hb3 hcm3 hge3 => ?_
  have hgehch3 := Nat.le_trans hch.size hge3
  have hch := hch.trans hcm3
  have hv := hv.keep0 hcm3
  refine WL.boxB rfl rfl rfl fun b4 wm4 hb4 hcm4 hge4 => ?_
  have hgehch4 := Nat.le_trans hch.size hge4
  have hch := hch.trans hcm4
  have hv := hv.keep0 hcm4
  have hneb34 : b3 ≠ b4 := by have := hb3.lt; omega
  have hb3 := hb3.keep0 hcm4
  refine WL.ev (Ev.assign rfl) rfl ?_
  refine WL.nil (kr2 _ _ _ ?_)
  refine kh1 _ _ _ ?_
  refine CW.seq fun kK3 kh3 => ?_
  refine CW.region fun kR4 kr4 => ?_  -- region 1
  refine WL.ev (Ev.fieldAddr rfl) rfl ?_
  refine WL.ev (Ev.load rfl rfl (hb4.at_ rfl)) rfl ?_
  refine WL.call hasF44 rfl rfl (Len_spec _ _ _ hv) fun v w1 h' => ?_
  obtain ⟨rfl, rfl⟩ := h'
  rw [val_wd]
  refine WL.ev (Ev.assign rfl) rfl ?_
  refine WL.nil (kr4 _ _ _ ?_)
  refine kh3 _ _ _ ?_
  refine CW.seq fun kK5 kh5 => ?_
  refine CW.seq fun kK6 kh6 => ?_
  refine CW.region fun kR7 kr7 => ?_  -- region 2
  refine WL.ev (Ev.move rfl) rfl ?_
  refine WL.ev (Ev.eql rfl rfl) rfl ?_
  refine WL.nil (kr7 _ _ _ ?_)
  refine kh6 _ _ _ ?_
  refine CW.cond rfl (fun hc1 => ?_) (fun hc1 => ?_)  -- if 18
  ·
    try simp only [decide_eq_true_eq, decide_eq_false_iff_not, Decidable.not_not, Bool.and_eq_true, Bool.or_eq_true, Bool.not_eq_true', Bool.not_eq_false', ne_eq, Int.not_lt, Int.not_le] at hc1
    refine CW.seq fun kK8 kh8 => ?_
    refine CW.region fun kR9 kr9 => ?_  -- region 3
    refine WL.ev (Ev.assign rfl) rfl ?_
    refine WL.nil (kr9 _ _ _ ?_)
    refine kh8 _ _ _ ?_
    refine CW.ret ?_
    refine bodyA.ret1 rfl rfl ?_
    have h0 : m = 0 := by omega
    subst h0
    exact ⟨0, rfl, by unfold dyA; rw [Nat.zero_mul]; exact near_zero (dyB_pos e) neg mode, by omega, hch⟩
  ·
    try simp only [decide_eq_true_eq, decide_eq_false_iff_not, Decidable.not_not, Bool.and_eq_true, Bool.or_eq_true, Bool.not_eq_true', Bool.not_eq_false', ne_eq, Int.not_lt, Int.not_le] at hc1
    have h0 : m ≠ 0 := by omega
    refine CW.skip ?_
    refine kh5 _ _ _ ?_
    refine CW.seq fun kK10 kh10 => ?_
    refine CW.regionSC hmix (by kernel_rfl) fun kR11 kr11 hdr => ?_  -- region 4
    have hch := hch.trans hdr
    have hb3 := hb3.keep0 hdr
    have hb4 := hb4.keep0 hdr
    have hv := hv.keep0 hdr
    refine WS.ev (Ev.fieldAddr rfl) rfl ?_
    refine WS.ev (Ev.load rfl rfl (hb3.at_ rfl)) rfl ?_
    refine WS.ev (Ev.fieldAddr rfl) rfl ?_
    refine WS.ev (Ev.load rfl rfl (hb3.at_ rfl)) rfl ?_
    refine WS.ev (Ev.fieldAddr rfl) rfl ?_
    refine WS.ev (Ev.load rfl rfl (hb3.at_ rfl)) rfl ?_
    first | refine WS.ev (Ev.subIn rfl rfl (by omega)) rfl ?_ | refine WS.ev (Ev.sub rfl rfl) rfl ?_
    refine WS.ev (Ev.shrU (a := 9218868437227405312) (b := 52) rfl rfl (by decide)) rfl ?_
    refine WS.ev (Ev.convIn rfl rfl (in_i64 (by omega))) rfl ?_
    first | refine WS.ev (Ev.addIn rfl rfl (by omega)) rfl ?_ | refine WS.ev (Ev.add rfl rfl) rfl ?_
    first | refine WS.ev (Ev.subIn rfl rfl (by omega)) rfl ?_ | refine WS.ev (Ev.sub rfl rfl) rfl ?_
    refine WS.ev (Ev.fieldAddr rfl) rfl ?_
    refine WS.ev (Ev.load rfl rfl (hb3.at_ rfl)) rfl ?_
    first | refine WS.ev (Ev.addIn rfl rfl (by omega)) rfl ?_ | refine WS.ev (Ev.add rfl rfl) rfl ?_
    refine WS.ev (Ev.subIn rfl rfl (by omega)) rfl ?_
    rw [show (-1074 : Int) + ((9218868437227405312 / 2 ^ 52 : Nat) : Int) - 1 + 53 - 1 = 1024 by omega]
    refine WS.ev (Ev.assign rfl) rfl ?_
    refine WS.nil (kr11 _ _ ?_)
    refine kh10 _ _ _ ?_
    refine CW.seq fun kK12 kh12 => ?_
    refine CW.region fun kR13 kr13 => ?_  -- region 5
    refine WL.ev (Ev.move rfl) rfl ?_
    refine WL.ev (Ev.fieldAddr rfl) rfl ?_
    refine WL.ev (Ev.load rfl rfl (hb4.at_ rfl)) rfl ?_
    first | refine WL.ev (Ev.addIn rfl rfl (by omega)) rfl ?_ | refine WL.ev (Ev.add rfl rfl) rfl ?_
    refine WL.ev (Ev.fieldAddr rfl) rfl ?_
    refine WL.ev (Ev.load rfl rfl (hb3.at_ rfl)) rfl ?_
    first | refine WL.ev (Ev.subIn rfl rfl (by omega)) rfl ?_ | refine WL.ev (Ev.sub rfl rfl) rfl ?_
    refine WL.ev (Ev.fieldAddr rfl) rfl ?_
    refine WL.ev (Ev.load rfl rfl (hb3.at_ rfl)) rfl ?_
    refine WL.ev (Ev.maxI rfl rfl) rfl ?_
    generalize hex : max ((bl m : Int) + e - 53) (-1074) = ex
    refine WL.ev (Ev.assign rfl) rfl ?_
    refine WL.nil (kr13 _ _ _ ?_)
    refine kh12 _ _ _ ?_
    refine CW.seq fun kK14 kh14 => ?_
    refine CW.seq fun kK15 kh15 => ?_
    refine CW.region fun kR16 kr16 => ?_  -- region 6
    refine WL.ev (Ev.move rfl) rfl ?_
    refine WL.ev (Ev.fieldAddr rfl) rfl ?_
    refine WL.ev (Ev.load rfl rfl (hb4.at_ rfl)) rfl ?_
    first | refine WL.ev (Ev.addIn rfl rfl (by omega)) rfl ?_ | refine WL.ev (Ev.add rfl rfl) rfl ?_
    refine WL.ev (Ev.move rfl) rfl ?_
    refine WL.ev (Ev.gtr rfl rfl) rfl ?_
    refine WL.nil (kr16 _ _ _ ?_)
    refine kh15 _ _ _ ?_
    refine CW.cond rfl (fun hc2 => ?_) (fun hc2 => ?_)  -- if 49
    ·
      try simp only [decide_eq_true_eq, decide_eq_false_iff_not, Decidable.not_not, Bool.and_eq_true, Bool.or_eq_true, Bool.not_eq_true', Bool.not_eq_false', ne_eq, Int.not_lt, Int.not_le] at hc2
      refine CW.seq fun kK17 kh17 => ?_
      refine CW.region fun kR18 kr18 => ?_  -- region 7
      refine WL.ev (Ev.loadA rfl rfl hb3 rfl) rfl ?_
      refine WL.ev (Ev.fieldAddr rfl) rfl ?_
      refine WL.ev (Ev.load rfl rfl (hb4.at_ rfl)) rfl ?_
      refine WL.ev (Ev.move rfl) rfl ?_
      refine WL.call hasF80 rfl rfl (beyond_spec neg mode _) fun v w2 h' => ?_
      obtain ⟨rfl, hC54⟩ := h'
      have hch := hch.trans hC54
      have hb3 := hb3.keep0 hC54
      have hb4 := hb4.keep0 hC54
      have hv := hv.keep0 hC54
      refine WL.ev (Ev.assign rfl) rfl ?_
      refine WL.nil (kr18 _ _ _ ?_)
      refine kh17 _ _ _ ?_
      refine CW.ret ?_
      refine bodyA.ret1 rfl rfl ?_
      exact ⟨_, rfl, near_beyond h0 (by omega) hm, by split <;> omega, hch⟩
    ·
      try simp only [decide_eq_true_eq, decide_eq_false_iff_not, Decidable.not_not, Bool.and_eq_true, Bool.or_eq_true, Bool.not_eq_true', Bool.not_eq_false', ne_eq, Int.not_lt, Int.not_le] at hc2
      refine CW.skip ?_
      refine kh14 _ _ _ ?_
      refine CW.seq fun kK19 kh19 => ?_
      refine CW.region fun kR20 kr20 => ?_  -- region 8
      refine WL.ev (Ev.move rfl) rfl ?_
      refine WL.ev (Ev.fieldAddr rfl) rfl ?_
      refine WL.ev (Ev.load rfl rfl (hb4.at_ rfl)) rfl ?_
      first | refine WL.ev (Ev.subIn rfl rfl (by omega)) rfl ?_ | refine WL.ev (Ev.sub rfl rfl) rfl ?_
      refine WL.ev (Ev.assign rfl) rfl ?_
      refine WL.nil (kr20 _ _ _ ?_)
      refine kh19 _ _ _ ?_
      refine CW.seq fun kK21 kh21 => ?_
      refine CW.region fun kR22 kr22 => ?_  -- region 9
      refine WL.ev (Ev.assign rfl) rfl ?_
      refine WL.nil (kr22 _ _ _ ?_)
      refine kh21 _ _ _ ?_
      refine CW.seq fun kK23 kh23 => ?_
      refine CW.seq fun kK24 kh24 => ?_
      refine CW.region fun kR25 kr25 => ?_  -- region 10
      refine WL.ev (Ev.move rfl) rfl ?_
      refine WL.ev (Ev.leq rfl rfl) rfl ?_
      refine WL.nil (kr25 _ _ _ ?_)
      refine kh24 _ _ _ ?_
      refine CW.cond rfl (fun hc3 => ?_) (fun hc3 => ?_)  -- if 60
      ·
        try simp only [decide_eq_true_eq, decide_eq_false_iff_not, Decidable.not_not, Bool.and_eq_true, Bool.or_eq_true, Bool.not_eq_true', Bool.not_eq_false', ne_eq, Int.not_lt, Int.not_le] at hc3
        obtain ⟨c, hcc⟩ : ∃ c : Nat, (c : Int) = e - ex := ⟨(e - ex).toNat, by omega⟩
        obtain ⟨f1, f2, f3⟩ := on_fits h0 hex (by omega) hcc
        have hm64 : m < 18446744073709551616 := Nat.lt_of_le_of_lt (Nat.le_mul_of_pos_right m (Nat.two_pow_pos c)) (by omega)
        have hd15 : decide (0 < ex - e) = false := decide_eq_false (by omega)
        refine CW.seq fun kK26 kh26 => ?_
        refine CW.region fun kR27 kr27 => ?_  -- region 11
        refine WL.ev (Ev.fieldAddr rfl) rfl ?_
        refine WL.ev (Ev.load rfl rfl (hb4.at_ rfl)) rfl ?_
        refine WL.call hasF81 rfl rfl (Small_spec _ _ _ hv) fun v w3 h' => ?_
        obtain ⟨rfl, rfl⟩ := h'
        rw [val_wd, if_pos hm64, if_pos hm64]
        refine WL.ev (Ev.move rfl) rfl ?_
        refine WL.ev (Ev.extract rfl rfl) rfl ?_
        refine WL.ev (Ev.extract rfl rfl) rfl ?_
        refine WL.ev (Ev.assign rfl) rfl ?_
        refine WL.nil (kr27 _ _ _ ?_)
        refine kh26 _ _ _ ?_
        refine CW.region fun kR28 kr28 => ?_  -- region 12
        refine WL.ev (Ev.move rfl) rfl ?_
        refine WL.ev (Ev.move rfl) rfl ?_
        refine WL.ev (Ev.negIn rfl (by omega)) rfl ?_
        rw [show -(ex - e) = ((c : Nat) : Int) by omega]
        refine WL.ev (Ev.shlU64 rfl rfl) rfl ?_
        rw [Nat.mod_eq_of_lt (show m * 2 ^ c < 18446744073709551616 by omega)]
        refine WL.ev (Ev.assign rfl) rfl ?_
        refine WL.nil (kr28 _ _ _ ?_)
        refine kh23 _ _ _ ?_
        refine CW.seq fun kK29 kh29 => ?_
        refine CW.seq fun kK30 kh30 => ?_
        refine CW.regionSC hmix (by kernel_rfl) fun kR31 kr31 hdr => ?_  -- region 15
        have hch := hch.trans hdr
        have hb3 := hb3.keep0 hdr
        have hb4 := hb4.keep0 hdr
        have hv := hv.keep0 hdr
        refine WS.ev (Ev.move rfl) rfl ?_
        refine WS.ev (Ev.gtr rfl rfl) rfl ?_
        refine WS.ev (Ev.move rfl) rfl ?_
        refine WS.pass rfl rfl rfl (by rw [hd15]; rfl) rfl ?_
        refine WS.pass rfl rfl rfl (by rw [hd15]; rfl) rfl ?_
        refine WS.pass rfl rfl rfl (by rw [hd15]; rfl) rfl ?_
        refine WS.pass rfl rfl rfl (by rw [hd15]; rfl) rfl ?_
        refine WS.pass rfl rfl rfl (by rw [hd15]; rfl) rfl ?_
        refine WS.pass rfl rfl rfl (by rw [hd15]; rfl) rfl ?_
        refine WS.pass rfl rfl rfl (by rw [hd15]; rfl) rfl ?_
        refine WS.pass rfl rfl rfl (by rw [hd15]; rfl) rfl ?_
        refine WS.pass rfl rfl rfl (by rw [hd15]; rfl) rfl ?_
        refine WS.pass rfl rfl rfl (by rw [hd15]; rfl) rfl ?_
        refine WS.pass rfl rfl rfl (by rw [hd15]; rfl) rfl ?_
        refine WS.pass rfl rfl rfl (by rw [hd15]; rfl) rfl ?_
        refine WS.ev (Ev.pickF rfl hd15 rfl) rfl ?_
        refine WS.nil (kr31 _ _ ?_)
        refine kh30 _ _ _ ?_
        refine CW.condF rfl ?_
        refine CW.skip ?_
        refine kh29 _ _ _ ?_
        refine CW.seq fun kK32 kh32 => ?_
        refine CW.region fun kR33 kr33 => ?_  -- region 17
        refine WL.ev (Ev.move rfl) rfl ?_
        refine WL.ev (Ev.move rfl) rfl ?_
        refine WL.ev (Ev.fieldAddr rfl) rfl ?_
        refine WL.ev (Ev.load rfl rfl (hb3.at_ rfl)) rfl ?_
        first | refine WL.ev (Ev.subIn rfl rfl (by omega)) rfl ?_ | refine WL.ev (Ev.sub rfl rfl) rfl ?_
        refine WL.ev (Ev.conv rfl rfl) rfl ?_
        rw [wrap_u64i, show (ex - -1074) % 18446744073709551616 = ((((ex + 1074).toNat) : Nat) : Int) by omega]
        refine WL.ev (Ev.fieldAddr rfl) rfl ?_
        refine WL.ev (Ev.load rfl rfl (hb3.at_ rfl)) rfl ?_
        refine WL.ev (Ev.subIn rfl rfl (by omega)) rfl ?_
        rw [show (53 : Int) - 1 = ((52 : Nat) : Int) by omega]
        refine WL.ev (Ev.shlU64 (b := 52) rfl rfl) rfl ?_
        rw [Nat.mod_eq_of_lt (show ((ex + 1074).toNat) * 2 ^ 52 < 18446744073709551616 by omega)]
        refine WL.ev (Ev.add64In rfl rfl (by omega)) rfl ?_
        refine WL.ev (Ev.assign rfl) rfl ?_
        refine WL.nil (kr33 _ _ _ ?_)
        refine kh32 _ _ _ ?_
        refine CW.ret ?_
        refine bodyA.ret1 rfl rfl ?_
        exact ⟨_, rfl, near_exact f1 f2 f3 rfl (by omega), by omega, hch⟩
      ·
        try simp only [decide_eq_true_eq, decide_eq_false_iff_not, Decidable.not_not, Bool.and_eq_true, Bool.or_eq_true, Bool.not_eq_true', Bool.not_eq_false', ne_eq, Int.not_lt, Int.not_le] at hc3
        obtain ⟨c, hcc⟩ : ∃ c : Nat, (c : Int) = ex - e := ⟨(ex - e).toNat, by omega⟩
        obtain ⟨f1, f2, f3⟩ := on_cuts h0 hex (by omega) hcc
        have hd15 : decide (0 < ex - e) = true := decide_eq_true (by omega)
        have hodd : m % 2 = 1 := hok.odd h0
        refine CW.seq fun kK34 kh34 => ?_
        refine CW.region fun kR35 kr35 => ?_  -- region 13
        refine WL.ev (Ev.fieldAddr rfl) rfl ?_
        refine WL.ev (Ev.load rfl rfl (hb4.at_ rfl)) rfl ?_
        refine WL.ev (Ev.move rfl) rfl ?_
        refine WL.ev (Ev.negIn rfl (by omega)) rfl ?_
        refine WL.call hasF82 rfl rfl (Shift_spec _ _ _ _ hv (by omega)) fun v w4 h' => ?_
        obtain ⟨hD76, hC76⟩ := h'
        rw [val_wd, show -(ex - e) = -((c : Nat) : Int) by omega, shiftN_neg _ _ (by omega)] at hD76
        rcases hD76 with ⟨_, rk, rfl, hNk⟩ | ⟨hno, _⟩
        rotate_left
        · exfalso; exact hno ⟨hl, .inr (by omega)⟩
        have hch := hch.trans hC76
        have hb3 := hb3.keep0 hC76
        have hb4 := hb4.keep0 hC76
        have hv := hv.keep0 hC76
        refine WL.ev (Ev.move rfl) rfl ?_
        refine WL.ev (Ev.extract rfl rfl) rfl ?_
        refine WL.ev (Ev.extract rfl rfl) rfl ?_
        refine WL.ev (Ev.assign rfl) rfl ?_
        refine WL.ev (Ev.assign rfl) rfl ?_
        refine WL.nil (kr35 _ _ _ ?_)
        refine kh34 _ _ _ ?_
        refine CW.region fun kR36 kr36 => ?_  -- region 14
        refine WL.ev (Ev.move rfl) rfl ?_
        refine WL.call hasF81 rfl rfl (Small_spec _ _ _ hNk) fun v w5 h' => ?_
        obtain ⟨rfl, rfl⟩ := h'
        rw [val_wd, if_pos (by omega), if_pos (by omega)]
        refine WL.ev (Ev.move rfl) rfl ?_
        refine WL.ev (Ev.extract rfl rfl) rfl ?_
        refine WL.ev (Ev.extract rfl rfl) rfl ?_
        refine WL.ev (Ev.assign rfl) rfl ?_
        refine WL.nil (kr36 _ _ _ ?_)
        refine kh23 _ _ _ ?_
        refine CW.seq fun kK37 kh37 => ?_
        refine CW.seq fun kK38 kh38 => ?_
        refine CW.regionSC hmix (by kernel_rfl) fun kR39 kr39 hdr => ?_  -- region 15
        have hch := hch.trans hdr
        have hb3 := hb3.keep0 hdr
        have hb4 := hb4.keep0 hdr
        have hv := hv.keep0 hdr
        have hNk := hNk.keep0 hdr
        refine WS.ev (Ev.move rfl) rfl ?_
        refine WS.ev (Ev.gtr rfl rfl) rfl ?_
        refine WS.ev (Ev.move rfl) rfl ?_
        refine WS.want rfl rfl rfl (by rw [hd15]; rfl) ?_
        refine WS.ev (Ev.move rfl) rfl ?_
        refine WS.want rfl rfl rfl (by rw [hd15]; rfl) ?_
        refine WS.ev (Ev.fieldAddr rfl) rfl ?_
        refine WS.want rfl rfl rfl (by rw [hd15]; rfl) ?_
        refine WS.ev (Ev.load rfl rfl (hb4.at_ rfl)) rfl ?_
        refine WS.want rfl rfl rfl (by rw [hd15]; rfl) ?_
        refine WS.ev (Ev.move rfl) rfl ?_
        refine WS.want rfl rfl rfl (by rw [hd15]; rfl) ?_
        refine WS.ev (Ev.fieldAddr rfl) rfl ?_
        refine WS.want rfl rfl rfl (by rw [hd15]; rfl) ?_
        refine WS.ev (Ev.load rfl rfl (hb4.at_ rfl)) rfl ?_
        refine WS.want rfl rfl rfl (by rw [hd15]; rfl) ?_
        refine WS.ev (Ev.move rfl) rfl ?_
        refine WS.want rfl rfl rfl (by rw [hd15]; rfl) ?_
        first | refine WS.ev (Ev.subIn rfl rfl (by omega)) rfl ?_ | refine WS.ev (Ev.sub rfl rfl) rfl ?_
        refine WS.want rfl rfl rfl (by rw [hd15]; rfl) ?_
        refine WS.call hasF84 rfl rfl (Bit_spec _ _ _ _ hv (by omega)) ?_
        refine WS.want rfl rfl rfl (by rw [hd15]; rfl) ?_
        refine WS.ev (Ev.move rfl) rfl ?_
        refine WS.want rfl rfl rfl (by rw [hd15]; rfl) ?_
        refine WS.ev (Ev.eql rfl rfl) rfl ?_
        refine WS.want rfl rfl rfl (by rw [hd15]; rfl) ?_
        refine WS.call hasF83 rfl rfl (away_spec mode neg (m / 2 ^ c) _ _ _ (by omega)) ?_
        refine WS.ev (Ev.pickT rfl hd15 rfl) rfl ?_
        refine WS.nil (kr39 _ _ ?_)
        refine kh38 _ _ _ ?_
        refine CW.cond rfl (fun hc4 => ?_) (fun hc4 => ?_)  -- if 99
        ·
          try simp only [decide_eq_true_eq, decide_eq_false_iff_not, Decidable.not_not, Bool.and_eq_true, Bool.or_eq_true, Bool.not_eq_true', Bool.not_eq_false', ne_eq, Int.not_lt, Int.not_le] at hc4
          rw [val_wd, decide_eq_true (show (0 : Int) ≤ ex - e - 1 by omega), Bool.true_and, show (ex - e - 1).toNat = c - 1 by omega, show decide (ex - e = 1) = decide (c = 1) from decide_eq_decide.2 (by omega)] at hc4
          have hAW := hc4
          refine CW.region fun kR40 kr40 => ?_  -- region 16
          refine WL.ev (Ev.move rfl) rfl ?_
          refine WL.ev (Ev.add64In (b := 1) rfl rfl (by omega)) rfl ?_
          refine WL.ev (Ev.assign rfl) rfl ?_
          refine WL.nil (kr40 _ _ _ ?_)
          refine kh37 _ _ _ ?_
          refine CW.seq fun kK41 kh41 => ?_
          refine CW.region fun kR42 kr42 => ?_  -- region 17
          refine WL.ev (Ev.move rfl) rfl ?_
          refine WL.ev (Ev.move rfl) rfl ?_
          refine WL.ev (Ev.fieldAddr rfl) rfl ?_
          refine WL.ev (Ev.load rfl rfl (hb3.at_ rfl)) rfl ?_
          first | refine WL.ev (Ev.subIn rfl rfl (by omega)) rfl ?_ | refine WL.ev (Ev.sub rfl rfl) rfl ?_
          refine WL.ev (Ev.conv rfl rfl) rfl ?_
          rw [wrap_u64i, show (ex - -1074) % 18446744073709551616 = ((((ex + 1074).toNat) : Nat) : Int) by omega]
          refine WL.ev (Ev.fieldAddr rfl) rfl ?_
          refine WL.ev (Ev.load rfl rfl (hb3.at_ rfl)) rfl ?_
          refine WL.ev (Ev.subIn rfl rfl (by omega)) rfl ?_
          rw [show (53 : Int) - 1 = ((52 : Nat) : Int) by omega]
          refine WL.ev (Ev.shlU64 (b := 52) rfl rfl) rfl ?_
          rw [Nat.mod_eq_of_lt (show ((ex + 1074).toNat) * 2 ^ 52 < 18446744073709551616 by omega)]
          refine WL.ev (Ev.add64In rfl rfl (by omega)) rfl ?_
          refine WL.ev (Ev.assign rfl) rfl ?_
          refine WL.nil (kr42 _ _ _ ?_)
          refine kh41 _ _ _ ?_
          refine CW.ret ?_
          refine bodyA.ret1 rfl rfl ?_
          have hN := near_cut (e := e) f1 f2 f3 (neg := neg) (mode := mode) (half := m.testBit (c - 1)) (up := awayM mode neg (m / 2 ^ c) (m.testBit (c - 1)) (decide (c = 1))) (by omega) hodd rfl (by omega) rfl rfl
          rw [hAW, if_pos rfl] at hN
          exact ⟨_, rfl, by rw [show m / 2 ^ c + 1 + ((ex + 1074).toNat) * 2 ^ 52 = m / 2 ^ c + 1 + ((ex + 1074).toNat) * 4503599627370496 by omega]; exact hN, by omega, hch⟩
        ·
          try simp only [decide_eq_true_eq, decide_eq_false_iff_not, Decidable.not_not, Bool.and_eq_true, Bool.or_eq_true, Bool.not_eq_true', Bool.not_eq_false', ne_eq, Int.not_lt, Int.not_le] at hc4
          rw [val_wd, decide_eq_true (show (0 : Int) ≤ ex - e - 1 by omega), Bool.true_and, show (ex - e - 1).toNat = c - 1 by omega, show decide (ex - e = 1) = decide (c = 1) from decide_eq_decide.2 (by omega)] at hc4
          have hAW := hc4
          refine CW.skip ?_
          refine kh37 _ _ _ ?_
          refine CW.seq fun kK43 kh43 => ?_
          refine CW.region fun kR44 kr44 => ?_  -- region 17
          refine WL.ev (Ev.move rfl) rfl ?_
          refine WL.ev (Ev.move rfl) rfl ?_
          refine WL.ev (Ev.fieldAddr rfl) rfl ?_
          refine WL.ev (Ev.load rfl rfl (hb3.at_ rfl)) rfl ?_
          first | refine WL.ev (Ev.subIn rfl rfl (by omega)) rfl ?_ | refine WL.ev (Ev.sub rfl rfl) rfl ?_
          refine WL.ev (Ev.conv rfl rfl) rfl ?_
          rw [wrap_u64i, show (ex - -1074) % 18446744073709551616 = ((((ex + 1074).toNat) : Nat) : Int) by omega]
          refine WL.ev (Ev.fieldAddr rfl) rfl ?_
          refine WL.ev (Ev.load rfl rfl (hb3.at_ rfl)) rfl ?_
          refine WL.ev (Ev.subIn rfl rfl (by omega)) rfl ?_
          rw [show (53 : Int) - 1 = ((52 : Nat) : Int) by omega]
          refine WL.ev (Ev.shlU64 (b := 52) rfl rfl) rfl ?_
          rw [Nat.mod_eq_of_lt (show ((ex + 1074).toNat) * 2 ^ 52 < 18446744073709551616 by omega)]
          refine WL.ev (Ev.add64In rfl rfl (by omega)) rfl ?_
          refine WL.ev (Ev.assign rfl) rfl ?_
          refine WL.nil (kr44 _ _ _ ?_)
          refine kh43 _ _ _ ?_
          refine CW.ret ?_
          refine bodyA.ret1 rfl rfl ?_
          have hN := near_cut (e := e) f1 f2 f3 (neg := neg) (mode := mode) (half := m.testBit (c - 1)) (up := awayM mode neg (m / 2 ^ c) (m.testBit (c - 1)) (decide (c = 1))) (by omega) hodd rfl (by omega) rfl rfl
          rw [hAW] at hN
          exact ⟨_, rfl, hN, by omega, hch⟩

end Go.Proofs.YtkkklaodligpdaaDoor

/- Package dyad: told, Round. No condition. -/
namespace Go.Proofs.YtkkklaodligpdaaDoor
open Go Sx Wd
set_option linter.unusedVariables false
set_option linter.unusedSimpArgs false

theorem negF {x : Nat} (h : x < 9223372036854775808) : Op.negFloat .f64 x = x + 9223372036854775808 := by
  show x ^^^ 2 ^ 63 = _
  have e1 : x ^^^ 2 ^ 63 = x ||| 2 ^ 63 := by
    apply Nat.eq_of_testBit_eq
    intro j
    rw [Nat.testBit_xor, Nat.testBit_or, Nat.testBit_two_pow]
    by_cases hj : 63 = j
    · subst hj
      rw [Nat.testBit_lt_two_pow (show x < 2 ^ 63 from h)]
      simp
    · simp [hj]
  have := or_of_mul (x := x) (y := 1) (s := 63) h
  rw [Nat.one_mul] at this
  rw [e1, this]

set_option maxRecDepth 4000 in
theorem dtold_spec (na : Bool) (va : Value) (la : List Nat) (ea mode : Int) (w : World) (ha : NU w va la) (hg : GW w) (hea : -9223372036854775808 ≤ ea ∧ ea ≤ 9223372036854775807) : Ret Tryd.prog 68 [.agg [.bool na, va, .int .i64 ea].toArray, .int .i64 mode] w fun u w' => ((¬ (0 ≤ mode ∧ mode ≤ 4) ∧ u = .tuple [.agg [.bool false, .slice none 0 0, .int .i64 0].toArray, .int .i64 1].toArray) ∨ ((0 ≤ mode ∧ mode ≤ 4) ∧ DR w' u (formD na (val la) ea))) ∧ Chg [] w w' := by
  have hch : Chg [] w w := Chg.refl _ _
  have hoa := ha.one
  refine Ret.enter Tryd.func68 rfl rfl ?_
  simp only [args0, Nat.zero_add, Nat.reduceAdd]
  refine CW.seq fun kK1 kh1 => ?_
  refine CW.region fun kR2 kr2 => ?_  -- region 0
  refine WL.boxB rfl rfl rfl fun b2 wm2 hb2 hcm2 hge2 => ?_
  have hgehch2 := Nat.le_trans hch.size hge2
  have hch := hch.trans hcm2
  have ha := ha.keep0 hcm2
  refine WL.allocB (l := [.bool false, .slice none 0 0, .int .i64 0]) rfl rfl fun b4 wm4 hb4 hcm4 hge4 => ?_
  have hgehch4 := Nat.le_trans hch.size hge4
  have hch := hch.trans hcm4
  have ha := ha.keep0 hcm4
  have hneb24 : b2 ≠ b4 := by have := hb2.lt; omega
  have hb2 := hb2.keep0 hcm4
  refine WL.ev (Ev.assign rfl) rfl ?_
  refine WL.nil (kr2 _ _ _ ?_)
  refine kh1 _ _ _ ?_
  refine CW.seq fun kK3 kh3 => ?_
  refine CW.seqM 11 (decide (mode < 0 ∨ 4 < mode)) ?_ ?_
  ·
    refine CW.region fun kR4 kr4 => ?_  -- region 1
    refine WL.ev (Ev.move rfl) rfl ?_
    refine WL.ev (Ev.lss rfl rfl) rfl ?_
    refine WL.ev (Ev.move rfl) rfl ?_
    refine WL.boolCase (fun hg1 => ?_) (fun hg1 => ?_)
    ·
      try simp only [decide_eq_true_eq, decide_eq_false_iff_not, Decidable.not_not, Bool.and_eq_true, Bool.or_eq_true, Bool.not_eq_true', Bool.not_eq_false', ne_eq, Int.not_lt, Int.not_le] at hg1
      refine WL.pass rfl rfl rfl rfl rfl ?_
      refine WL.pass rfl rfl rfl rfl rfl ?_
      refine WL.ev (Ev.pickT rfl rfl rfl) rfl ?_
      refine WL.nil (kr4 _ _ _ ?_)
      refine ⟨rfl, rfl, Subs.consB rfl ?_ ?_⟩
      ·
        first | (simp; omega) | (refine decide_eq_decide.2 ?_; omega)
      ·
        first | ((repeat (first | exact Subs.refl | refine Subs.drop1 (by rfl) ?_)); done) | ((repeat (first | exact Subs.nil | refine Subs.cons rfl ?_)); done)
    ·
      try simp only [decide_eq_true_eq, decide_eq_false_iff_not, Decidable.not_not, Bool.and_eq_true, Bool.or_eq_true, Bool.not_eq_true', Bool.not_eq_false', ne_eq, Int.not_lt, Int.not_le] at hg1
      refine WL.want rfl rfl rfl rfl ?_
      refine WL.ev (Ev.move rfl) rfl ?_
      refine WL.want rfl rfl rfl rfl ?_
      refine WL.ev (Ev.gtr rfl rfl) rfl ?_
      refine WL.ev (Ev.pickF rfl rfl rfl) rfl ?_
      refine WL.nil (kr4 _ _ _ ?_)
      refine ⟨rfl, rfl, Subs.consB rfl ?_ ?_⟩
      ·
        first | (simp; omega) | (refine decide_eq_decide.2 ?_; omega)
      ·
        first | ((repeat (first | exact Subs.refl | refine Subs.drop1 (by rfl) ?_)); done) | ((repeat (first | exact Subs.nil | refine Subs.cons rfl ?_)); done)
  ·
    refine CW.cond rfl (fun hc2 => ?_) (fun hc2 => ?_)  -- if 11
    ·
      try simp only [decide_eq_true_eq, decide_eq_false_iff_not, Decidable.not_not, Bool.and_eq_true, Bool.or_eq_true, Bool.not_eq_true', Bool.not_eq_false', ne_eq, Int.not_lt, Int.not_le] at hc2
      refine CW.seq fun kK5 kh5 => ?_
      refine CW.region fun kR6 kr6 => ?_  -- region 2
      refine WL.ev (Ev.build (vs := _) (cs := [_, _, _]) rfl rfl) rfl ?_
      refine WL.storeB rfl rfl rfl (by intro v hv; simp only [List.mem_cons, List.not_mem_nil, or_false] at hv; rcases hv with rfl | rfl | rfl <;> first | rfl | assumption | exact NU.one (by assumption)) hb4 (by simp) rfl fun ws57 hb4_ hcs57 => ?_
      try simp only [Sx.splice, List.set_cons_zero, List.set_cons_succ, Nat.zero_add] at hb4_
      have hch := hch.step hcs57 (fun y hy => .inr (by simp only [List.mem_singleton] at hy; subst hy; first | assumption | omega))
      have hb2 := hb2.keep hcs57 (by simp; omega)
      have ha := ha.keepBK hb4 hcs57 (by intro v hv; simp only [List.mem_cons, List.not_mem_nil, or_false] at hv; rcases hv with rfl | rfl | rfl <;> first | rfl | exact NU.notU (by assumption))
      have hb4 := hb4_
      refine WL.ev (Ev.assign rfl) rfl ?_
      refine WL.nil (kr6 _ _ _ ?_)
      refine kh5 _ _ _ ?_
      refine CW.ret ?_
      refine bodyA.retR2 rfl (RVal.cell rfl (hb4.varA rfl rfl)) (RVal.tmp rfl) ?_
      exact ⟨.inl ⟨by omega, rfl⟩, hch⟩
    ·
      try simp only [decide_eq_true_eq, decide_eq_false_iff_not, Decidable.not_not, Bool.and_eq_true, Bool.or_eq_true, Bool.not_eq_true', Bool.not_eq_false', ne_eq, Int.not_lt, Int.not_le] at hc2
      refine CW.skip ?_
      refine kh3 _ _ _ ?_
      refine CW.seq fun kK7 kh7 => ?_
      refine CW.region fun kR8 kr8 => ?_  -- region 3
      refine WL.ev (Ev.fieldAddr rfl) rfl ?_
      refine WL.ev (Ev.load rfl rfl (hb2.at_ rfl)) rfl ?_
      refine WL.ev (Ev.fieldAddr rfl) rfl ?_
      refine WL.ev (Ev.load rfl rfl (hb2.at_ rfl)) rfl ?_
      refine WL.ev (Ev.fieldAddr rfl) rfl ?_
      refine WL.ev (Ev.load rfl rfl (hb2.at_ rfl)) rfl ?_
      refine WL.call hasF45 rfl rfl (form_spec _ _ _ _ _ ha (hg.keep0 hch) hea) fun v w1 h' => ?_
      obtain ⟨hD, hC19⟩ := h'
      have hch := hch.trans hC19
      have hb2 := hb2.keep0 hC19
      have hb4 := hb4.keep0 hC19
      have ha := ha.keep0 hC19
      rcases hD with ⟨r, d, hd, rfl, hNr⟩ | ⟨hd, rfl⟩
      ·
        refine WL.ev (Ev.extract rfl rfl) rfl ?_
        refine WL.ev (Ev.extract rfl rfl) rfl ?_
        refine WL.storeB rfl rfl rfl (by intro v hv; simp only [List.mem_cons, List.not_mem_nil, or_false] at hv; rcases hv with rfl | rfl | rfl <;> first | rfl | assumption | exact NU.one (by assumption)) hb4 (by simp) rfl fun ws58 hb4_ hcs58 => ?_
        try simp only [Sx.splice, List.set_cons_zero, List.set_cons_succ, Nat.zero_add] at hb4_
        have hch := hch.step hcs58 (fun y hy => .inr (by simp only [List.mem_singleton] at hy; subst hy; first | assumption | omega))
        have hb2 := hb2.keep hcs58 (by simp; omega)
        have ha := ha.keepBK hb4 hcs58 (by intro v hv; simp only [List.mem_cons, List.not_mem_nil, or_false] at hv; rcases hv with rfl | rfl | rfl <;> first | rfl | exact NU.notU (by assumption))
        have hNr := hNr.keepBK hb4 hcs58 (by intro v hv; simp only [List.mem_cons, List.not_mem_nil, or_false] at hv; rcases hv with rfl | rfl | rfl <;> first | rfl | exact NU.notU (by assumption))
        have hb4 := hb4_
        refine WL.ev (Ev.assign rfl) rfl ?_
        refine WL.nil (kr8 _ _ _ ?_)
        refine kh7 _ _ _ ?_
        refine CW.ret ?_
        refine bodyA.retR2 rfl (RVal.cell rfl (hb4.varA rfl rfl)) (RVal.tmp rfl) ?_
        exact ⟨.inr ⟨by omega, .inl ⟨r, d, hd, rfl, hNr⟩⟩, hch⟩
      ·
        refine WL.ev (Ev.extract rfl rfl) rfl ?_
        refine WL.ev (Ev.extract rfl rfl) rfl ?_
        refine WL.storeB rfl rfl rfl (by intro v hv; simp only [List.mem_cons, List.not_mem_nil, or_false] at hv; rcases hv with rfl | rfl | rfl <;> first | rfl | assumption | exact NU.one (by assumption)) hb4 (by simp) rfl fun ws59 hb4_ hcs59 => ?_
        try simp only [Sx.splice, List.set_cons_zero, List.set_cons_succ, Nat.zero_add] at hb4_
        have hch := hch.step hcs59 (fun y hy => .inr (by simp only [List.mem_singleton] at hy; subst hy; first | assumption | omega))
        have hb2 := hb2.keep hcs59 (by simp; omega)
        have ha := ha.keepBK hb4 hcs59 (by intro v hv; simp only [List.mem_cons, List.not_mem_nil, or_false] at hv; rcases hv with rfl | rfl | rfl <;> first | rfl | exact NU.notU (by assumption))
        have hb4 := hb4_
        refine WL.ev (Ev.assign rfl) rfl ?_
        refine WL.nil (kr8 _ _ _ ?_)
        refine kh7 _ _ _ ?_
        refine CW.ret ?_
        refine bodyA.retR2 rfl (RVal.cell rfl (hb4.varA rfl rfl)) (RVal.tmp rfl) ?_
        exact ⟨.inr ⟨by omega, .inr ⟨hd, rfl⟩⟩, hch⟩

/-- What Round answers: bits and an error. -/
def RoundR (x : Option Dy) (mode : Int) (bits : Nat) (e : Int) : Prop :=
  (¬ (0 ≤ mode ∧ mode ≤ 4) ∧ bits = 0 ∧ e = 1) ∨ ((0 ≤ mode ∧ mode ≤ 4) ∧ ((x = none ∧ bits = 0 ∧ e = 2) ∨ ∃ d r, x = some d ∧ IsNear (dyA d.m d.e) (dyB d.e) d.neg mode r ∧ r ≤ 9218868437227405312 ∧ bits = (if d.neg then r + 9223372036854775808 else r) ∧ e = 0))

set_option maxRecDepth 4000 in
theorem Round_dspec (na : Bool) (va : Value) (la : List Nat) (ea mode : Int) (w : World) (ha : NU w va la) (hg : GW w) (hea : -9223372036854775808 ≤ ea ∧ ea ≤ 9223372036854775807) : Ret Tryd.prog 47 [.agg [.bool na, va, .int .i64 ea].toArray, .int .i64 mode] w fun u w' => (∃ bits e, u = .tuple [.float .f64 bits, .int .i64 e].toArray ∧ RoundR (formD na (val la) ea) mode bits e) ∧ Chg [] w w' := by
  have hch : Chg [] w w := Chg.refl _ _
  have hoa := ha.one
  refine Ret.enter Tryd.func47 rfl rfl ?_
  simp only [args0, Nat.zero_add, Nat.reduceAdd]
  refine CW.seq fun kK1 kh1 => ?_
  refine CW.region fun kR2 kr2 => ?_  -- region 0
  refine WL.boxB rfl rfl rfl fun b2 wm2 hb2 hcm2 hge2 => ?_
  have hgehch2 := Nat.le_trans hch.size hge2
  have hch := hch.trans hcm2
  have ha := ha.keep0 hcm2
  refine WL.ev (Ev.assign rfl) rfl ?_
  refine WL.ev (Ev.assign rfl) rfl ?_
  refine WL.nil (kr2 _ _ _ ?_)
  refine kh1 _ _ _ ?_
  refine CW.seq fun kK3 kh3 => ?_
  refine CW.region fun kR4 kr4 => ?_  -- region 1
  refine WL.ev (Ev.loadA rfl rfl hb2 rfl) rfl ?_
  refine WL.ev (Ev.move rfl) rfl ?_
  refine WL.call hasF68 rfl rfl (dtold_spec _ _ _ _ mode _ ha (hg.keep0 hch) hea) fun v w1 h' => ?_
  obtain ⟨hD, hC12⟩ := h'
  have hch := hch.trans hC12
  have hb2 := hb2.keep0 hC12
  have ha := ha.keep0 hC12
  rcases hD with ⟨hm, rfl⟩ | ⟨hm, ⟨r, d, hd, rfl, hNr⟩ | ⟨hd, rfl⟩⟩
  ·
    refine WL.ev (Ev.move rfl) rfl ?_
    refine WL.ev (Ev.extract rfl rfl) rfl ?_
    refine WL.ev (Ev.extract rfl rfl) rfl ?_
    refine WL.allocB (l := [.bool false, .slice none 0 0, .int .i64 0]) rfl rfl fun b6 wm6 hb6 hcm6 hge6 => ?_
    have hgehch6 := Nat.le_trans hch.size hge6
    have hch := hch.trans hcm6
    have ha := ha.keep0 hcm6
    have hneb26 : b2 ≠ b6 := by have := hb2.lt; omega
    have hb2 := hb2.keep0 hcm6
    refine WL.storeB rfl rfl rfl (by intro v hv; simp only [List.mem_cons, List.not_mem_nil, or_false] at hv; rcases hv with rfl | rfl | rfl <;> first | rfl | assumption | exact NU.one (by assumption)) hb6 (by simp) rfl fun ws60 hb6_ hcs60 => ?_
    try simp only [Sx.splice, List.set_cons_zero, List.set_cons_succ, Nat.zero_add] at hb6_
    have hch := hch.step hcs60 (fun y hy => .inr (by simp only [List.mem_singleton] at hy; subst hy; first | assumption | omega))
    have hb2 := hb2.keep hcs60 (by simp; omega)
    have ha := ha.keepBK hb6 hcs60 (by intro v hv; simp only [List.mem_cons, List.not_mem_nil, or_false] at hv; rcases hv with rfl | rfl | rfl <;> first | rfl | exact NU.notU (by assumption))
    have hb6 := hb6_
    refine WL.ev (Ev.assign rfl) rfl ?_
    refine WL.nil (kr4 _ _ _ ?_)
    refine kh3 _ _ _ ?_
    refine CW.seq fun kK5 kh5 => ?_
    refine CW.seq fun kK6 kh6 => ?_
    refine CW.region fun kR7 kr7 => ?_  -- region 2
    refine WL.ev (Ev.move rfl) rfl ?_
    refine WL.ev (Ev.neq rfl rfl) rfl ?_
    refine WL.nil (kr7 _ _ _ ?_)
    refine kh6 _ _ _ ?_
    refine CW.condT rfl ?_
    refine CW.seq fun kK8 kh8 => ?_
    refine CW.region fun kR9 kr9 => ?_  -- region 3
    refine WL.ev (Ev.move rfl) rfl ?_
    refine WL.ev (Ev.assign rfl) rfl ?_
    refine WL.ev (Ev.assign rfl) rfl ?_
    refine WL.nil (kr9 _ _ _ ?_)
    refine kh8 _ _ _ ?_
    refine CW.ret ?_
    refine bodyA.ret2 rfl rfl rfl ?_
    exact ⟨⟨_, _, rfl, .inl ⟨hm, rfl, rfl⟩⟩, hch⟩
  ·
    have hok := formD_ok hd
    refine WL.ev (Ev.move rfl) rfl ?_
    refine WL.ev (Ev.extract rfl rfl) rfl ?_
    refine WL.ev (Ev.extract rfl rfl) rfl ?_
    refine WL.allocB (l := [.bool false, .slice none 0 0, .int .i64 0]) rfl rfl fun b6 wm6 hb6 hcm6 hge6 => ?_
    have hgehch6 := Nat.le_trans hch.size hge6
    have hch := hch.trans hcm6
    have ha := ha.keep0 hcm6
    have hNr := hNr.keep0 hcm6
    have hneb26 : b2 ≠ b6 := by have := hb2.lt; omega
    have hb2 := hb2.keep0 hcm6
    refine WL.storeB rfl rfl rfl (by intro v hv; simp only [List.mem_cons, List.not_mem_nil, or_false] at hv; rcases hv with rfl | rfl | rfl <;> first | rfl | assumption | exact NU.one (by assumption)) hb6 (by simp) rfl fun ws61 hb6_ hcs61 => ?_
    try simp only [Sx.splice, List.set_cons_zero, List.set_cons_succ, Nat.zero_add] at hb6_
    have hch := hch.step hcs61 (fun y hy => .inr (by simp only [List.mem_singleton] at hy; subst hy; first | assumption | omega))
    have hb2 := hb2.keep hcs61 (by simp; omega)
    have ha := ha.keepBK hb6 hcs61 (by intro v hv; simp only [List.mem_cons, List.not_mem_nil, or_false] at hv; rcases hv with rfl | rfl | rfl <;> first | rfl | exact NU.notU (by assumption))
    have hNr := hNr.keepBK hb6 hcs61 (by intro v hv; simp only [List.mem_cons, List.not_mem_nil, or_false] at hv; rcases hv with rfl | rfl | rfl <;> first | rfl | exact NU.notU (by assumption))
    have hb6 := hb6_
    refine WL.ev (Ev.assign rfl) rfl ?_
    refine WL.nil (kr4 _ _ _ ?_)
    refine kh3 _ _ _ ?_
    refine CW.seq fun kK10 kh10 => ?_
    refine CW.seq fun kK11 kh11 => ?_
    refine CW.region fun kR12 kr12 => ?_  -- region 2
    refine WL.ev (Ev.move rfl) rfl ?_
    refine WL.ev (Ev.neq rfl rfl) rfl ?_
    refine WL.nil (kr12 _ _ _ ?_)
    refine kh11 _ _ _ ?_
    refine CW.condF rfl ?_
    refine CW.skip ?_
    refine kh10 _ _ _ ?_
    refine CW.seq fun kK13 kh13 => ?_
    refine CW.region fun kR14 kr14 => ?_  -- region 4
    refine WL.ev (Ev.build (vs := _) (cs := [_, _, _]) rfl rfl) rfl ?_
    refine WL.ev (Ev.loadA rfl rfl hb6 rfl) rfl ?_
    refine WL.ev (Ev.move rfl) rfl ?_
    refine WL.call hasF69 rfl rfl (on_spec d.neg r d.m d.e mode _ hNr hok hm) fun v w2 h' => ?_
    obtain ⟨q, rfl, hN, hq, hC21⟩ := h'
    have hch := hch.trans hC21
    have hb2 := hb2.keep0 hC21
    have hb6 := hb6.keep0 hC21
    have ha := ha.keep0 hC21
    have hNr := hNr.keep0 hC21
    refine WL.ev (Ev.ext rfl (ext50 _ _)) rfl ?_
    rw [show ((q : Nat) : Int).toNat = q by omega]
    refine WL.ev (Ev.assign rfl) rfl ?_
    refine WL.nil (kr14 _ _ _ ?_)
    refine kh13 _ _ _ ?_
    refine CW.seq fun kK15 kh15 => ?_
    refine CW.seq fun kK16 kh16 => ?_
    refine CW.region fun kR17 kr17 => ?_  -- region 5
    refine WL.ev (Ev.fieldAddr rfl) rfl ?_
    refine WL.ev (Ev.load rfl rfl (hb6.at_ rfl)) rfl ?_
    refine WL.nil (kr17 _ _ _ ?_)
    refine kh16 _ _ _ ?_
    refine CW.cond rfl (fun hc1 => ?_) (fun hc1 => ?_)  -- if 24
    ·
      try simp only [decide_eq_true_eq, decide_eq_false_iff_not, Decidable.not_not, Bool.and_eq_true, Bool.or_eq_true, Bool.not_eq_true', Bool.not_eq_false', ne_eq, Int.not_lt, Int.not_le] at hc1
      have hneg := hc1
      refine CW.region fun kR18 kr18 => ?_  -- region 6
      refine WL.ev (Ev.move rfl) rfl ?_
      refine WL.ev (Ev.fneg rfl) rfl ?_
      rw [negF (by omega)]
      refine WL.ev (Ev.assign rfl) rfl ?_
      refine WL.nil (kr18 _ _ _ ?_)
      refine kh15 _ _ _ ?_
      refine CW.seq fun kK19 kh19 => ?_
      refine CW.region fun kR20 kr20 => ?_  -- region 7
      refine WL.ev (Ev.move rfl) rfl ?_
      refine WL.ev (Ev.assign rfl) rfl ?_
      refine WL.ev (Ev.assign rfl) rfl ?_
      refine WL.nil (kr20 _ _ _ ?_)
      refine kh19 _ _ _ ?_
      refine CW.ret ?_
      refine bodyA.ret2 rfl rfl rfl ?_
      exact ⟨⟨_, _, rfl, .inr ⟨hm, .inr ⟨d, q, hd, hN, hq, by rw [if_pos hneg], rfl⟩⟩⟩, hch⟩
    ·
      try simp only [decide_eq_true_eq, decide_eq_false_iff_not, Decidable.not_not, Bool.and_eq_true, Bool.or_eq_true, Bool.not_eq_true', Bool.not_eq_false', ne_eq, Int.not_lt, Int.not_le] at hc1
      have hneg := hc1
      refine CW.skip ?_
      refine kh15 _ _ _ ?_
      refine CW.seq fun kK21 kh21 => ?_
      refine CW.region fun kR22 kr22 => ?_  -- region 7
      refine WL.ev (Ev.move rfl) rfl ?_
      refine WL.ev (Ev.assign rfl) rfl ?_
      refine WL.ev (Ev.assign rfl) rfl ?_
      refine WL.nil (kr22 _ _ _ ?_)
      refine kh21 _ _ _ ?_
      refine CW.ret ?_
      refine bodyA.ret2 rfl rfl rfl ?_
      exact ⟨⟨_, _, rfl, .inr ⟨hm, .inr ⟨d, q, hd, hN, hq, by rw [if_neg (by rw [hneg]; decide)], rfl⟩⟩⟩, hch⟩
  ·
    refine WL.ev (Ev.move rfl) rfl ?_
    refine WL.ev (Ev.extract rfl rfl) rfl ?_
    refine WL.ev (Ev.extract rfl rfl) rfl ?_
    refine WL.allocB (l := [.bool false, .slice none 0 0, .int .i64 0]) rfl rfl fun b6 wm6 hb6 hcm6 hge6 => ?_
    have hgehch6 := Nat.le_trans hch.size hge6
    have hch := hch.trans hcm6
    have ha := ha.keep0 hcm6
    have hneb26 : b2 ≠ b6 := by have := hb2.lt; omega
    have hb2 := hb2.keep0 hcm6
    refine WL.storeB rfl rfl rfl (by intro v hv; simp only [List.mem_cons, List.not_mem_nil, or_false] at hv; rcases hv with rfl | rfl | rfl <;> first | rfl | assumption | exact NU.one (by assumption)) hb6 (by simp) rfl fun ws62 hb6_ hcs62 => ?_
    try simp only [Sx.splice, List.set_cons_zero, List.set_cons_succ, Nat.zero_add] at hb6_
    have hch := hch.step hcs62 (fun y hy => .inr (by simp only [List.mem_singleton] at hy; subst hy; first | assumption | omega))
    have hb2 := hb2.keep hcs62 (by simp; omega)
    have ha := ha.keepBK hb6 hcs62 (by intro v hv; simp only [List.mem_cons, List.not_mem_nil, or_false] at hv; rcases hv with rfl | rfl | rfl <;> first | rfl | exact NU.notU (by assumption))
    have hb6 := hb6_
    refine WL.ev (Ev.assign rfl) rfl ?_
    refine WL.nil (kr4 _ _ _ ?_)
    refine kh3 _ _ _ ?_
    refine CW.seq fun kK23 kh23 => ?_
    refine CW.seq fun kK24 kh24 => ?_
    refine CW.region fun kR25 kr25 => ?_  -- region 2
    refine WL.ev (Ev.move rfl) rfl ?_
    refine WL.ev (Ev.neq rfl rfl) rfl ?_
    refine WL.nil (kr25 _ _ _ ?_)
    refine kh24 _ _ _ ?_
    refine CW.condT rfl ?_
    refine CW.seq fun kK26 kh26 => ?_
    refine CW.region fun kR27 kr27 => ?_  -- region 3
    refine WL.ev (Ev.move rfl) rfl ?_
    refine WL.ev (Ev.assign rfl) rfl ?_
    refine WL.ev (Ev.assign rfl) rfl ?_
    refine WL.nil (kr27 _ _ _ ?_)
    refine kh26 _ _ _ ?_
    refine CW.ret ?_
    refine bodyA.ret2 rfl rfl rfl ?_
    exact ⟨⟨_, _, rfl, .inr ⟨hm, .inl ⟨hd, rfl, rfl⟩⟩⟩, hch⟩

end Go.Proofs.YtkkklaodligpdaaDoor

/- Package bits: a number's parts. No condition. -/
namespace Go.Proofs.YtkkklaodligpdaaDoor
open Go Sx Wd
set_option linter.unusedVariables false
set_option linter.unusedSimpArgs false

/-- A number's parts. -/
structure PP where
  neg : Bool
  cls : Nat
  exp : Int
  frac : Nat
def splitP (x : Nat) : PP :=
  if x / 4503599627370496 % 2048 = 2047 ∧ x % 4503599627370496 ≠ 0 then ⟨false, 4, 0, 0⟩
  else if x / 4503599627370496 % 2048 = 2047 then ⟨decide (x / 9223372036854775808 % 2 = 1), 3, 0, 0⟩
  else if 0 < x / 4503599627370496 % 2048 then ⟨decide (x / 9223372036854775808 % 2 = 1), 2, -1074 + ((x / 4503599627370496 % 2048 : Nat) : Int) - 1, x % 4503599627370496 + 4503599627370496⟩
  else if 0 < x % 4503599627370496 then ⟨decide (x / 9223372036854775808 % 2 = 1), 1, -1074, x % 4503599627370496⟩
  else ⟨decide (x / 9223372036854775808 % 2 = 1), 0, -1074, 0⟩

set_option maxRecDepth 4000 in
theorem parts_spec (x : Nat) (w : World) (hx : x < 18446744073709551616) : Ret Tryd.prog 71 [.agg [.int .i64 11, .int .i64 52, .int .i64 (-1074)].toArray, .int .u64 (x : Int)] w fun u w' => u = .agg [.bool (splitP x).neg, .int .i64 ((splitP x).cls : Int), .int .i64 (splitP x).exp, .int .u64 ((splitP x).frac : Int)].toArray ∧ Chg [] w w' := by
  have hch : Chg [] w w := Chg.refl _ _
  refine Ret.enter Tryd.func71 rfl rfl ?_
  simp only [args0, Nat.zero_add, Nat.reduceAdd]
  refine CW.seq fun kK1 kh1 => ?_
  refine CW.region fun kR2 kr2 => ?_  -- region 0
  refine WL.boxB rfl rfl rfl fun b2 wm2 hb2 hcm2 hge2 => ?_
  have hgehch2 := Nat.le_trans hch.size hge2
  have hch := hch.trans (Chg.any hcm2)
  refine WL.allocB (l := [.bool false, .int .i64 0, .int .i64 0, .int .u64 0]) rfl rfl fun b4 wm4 hb4 hcm4 hge4 => ?_
  have hgehch4 := Nat.le_trans hch.size hge4
  have hch := hch.trans (Chg.any hcm4)
  have hneb24 : b2 ≠ b4 := by have := hb2.lt; omega
  have hb2 := hb2.keep0 hcm4
  refine WL.nil (kr2 _ _ _ ?_)
  refine kh1 _ _ _ ?_
  refine CW.seq fun kK3 kh3 => ?_
  refine CW.region fun kR4 kr4 => ?_  -- region 1
  refine WL.ev (Ev.move rfl) rfl ?_
  refine WL.ev (Ev.fieldAddr rfl) rfl ?_
  refine WL.ev (Ev.load rfl rfl (hb2.at_ rfl)) rfl ?_
  refine WL.ev (Ev.shlU64 (a := 1) (b := 52) rfl rfl) rfl ?_
  rw [show 1 * 2 ^ 52 % 18446744073709551616 = 4503599627370496 by omega]
  refine WL.ev (Ev.sub64In (b := 1) rfl rfl (by omega) (by omega)) rfl ?_
  refine WL.ev (Ev.andU rfl rfl rfl (by simp only [IntKind.bits]; omega) (by simp only [IntKind.bits]; omega)) rfl ?_
  rw [show x &&& (4503599627370496 - 1) = x % 4503599627370496 from Nat.and_two_pow_sub_one_eq_mod x 52]
  refine WL.ev (Ev.assign rfl) rfl ?_
  refine WL.nil (kr4 _ _ _ ?_)
  refine kh3 _ _ _ ?_
  refine CW.seq fun kK5 kh5 => ?_
  refine CW.regionSC hmix (by kernel_rfl) fun kR6 kr6 hdr => ?_  -- region 2
  have hch := hch.trans (Chg.any hdr)
  have hb2 := hb2.keep0 hdr
  have hb4 := hb4.keep0 hdr
  refine WS.ev (Ev.move rfl) rfl ?_
  refine WS.ev (Ev.fieldAddr rfl) rfl ?_
  refine WS.ev (Ev.load rfl rfl (hb2.at_ rfl)) rfl ?_
  refine WS.ev (Ev.shrU (b := 52) rfl rfl (by simp only [IntKind.bits]; omega)) rfl ?_
  rw [show x / 2 ^ 52 = x / 4503599627370496 by omega]
  refine WS.ev (Ev.convIn rfl rfl (in_i64 (by omega))) rfl ?_
  refine WS.ev (Ev.fieldAddr rfl) rfl ?_
  refine WS.ev (Ev.load rfl rfl (hb2.at_ rfl)) rfl ?_
  refine WS.ev (Ev.shlI (a := 1) (b := 11) (c := 2048) rfl rfl (by decide) (by decide)) rfl ?_
  first | refine WS.ev (Ev.subIn rfl rfl (by omega)) rfl ?_ | refine WS.ev (Ev.sub rfl rfl) rfl ?_
  refine WS.ev (Ev.andI (b := 2047) rfl rfl (by omega) (by omega)) rfl ?_
  rw [show x / 4503599627370496 &&& 2047 = x / 4503599627370496 % 2048 from Nat.and_two_pow_sub_one_eq_mod _ 11]
  refine WS.ev (Ev.assign rfl) rfl ?_
  refine WS.nil (kr6 _ _ ?_)
  refine kh5 _ _ _ ?_
  refine CW.seq fun kK7 kh7 => ?_
  refine CW.region fun kR8 kr8 => ?_  -- region 3
  refine WL.ev (Ev.move rfl) rfl ?_
  refine WL.ev (Ev.fieldAddr rfl) rfl ?_
  refine WL.ev (Ev.load rfl rfl (hb2.at_ rfl)) rfl ?_
  refine WL.ev (Ev.fieldAddr rfl) rfl ?_
  refine WL.ev (Ev.load rfl rfl (hb2.at_ rfl)) rfl ?_
  first | refine WL.ev (Ev.addIn rfl rfl (by omega)) rfl ?_ | refine WL.ev (Ev.add rfl rfl) rfl ?_
  refine WL.ev (Ev.shrU (b := 63) rfl rfl (by simp only [IntKind.bits]; omega)) rfl ?_
  rw [show x / 2 ^ 63 = x / 9223372036854775808 by omega]
  refine WL.ev (Ev.andU (b := 1) rfl rfl rfl (by simp only [IntKind.bits]; omega) (by simp only [IntKind.bits]; omega)) rfl ?_
  rw [Nat.and_one_is_mod]
  refine WL.ev (Ev.eql rfl rfl) rfl ?_
  have hng : decide (((x / 9223372036854775808 % 2 : Nat) : Int) = 1) = decide (x / 9223372036854775808 % 2 = 1) := decide_eq_decide.2 (by omega)
  rw [hng]
  refine WL.ev (Ev.assign rfl) rfl ?_
  refine WL.nil (kr8 _ _ _ ?_)
  refine kh7 _ _ _ ?_
  refine CW.seq fun kK9 kh9 => ?_
  refine CW.block ?_
  refine CW.seqM 33 (decide (x / 4503599627370496 % 2048 = 2047 ∧ x % 4503599627370496 ≠ 0)) ?_ ?_
  ·
    refine CW.region fun kR10 kr10 => ?_  -- region 4
    refine WL.ev (Ev.move rfl) rfl ?_
    refine WL.ev (Ev.fieldAddr rfl) rfl ?_
    refine WL.ev (Ev.load rfl rfl (hb2.at_ rfl)) rfl ?_
    refine WL.ev (Ev.shlI (a := 1) (b := 11) (c := 2048) rfl rfl (by decide) (by decide)) rfl ?_
    first | refine WL.ev (Ev.subIn rfl rfl (by omega)) rfl ?_ | refine WL.ev (Ev.sub rfl rfl) rfl ?_
    refine WL.ev (Ev.eql rfl rfl) rfl ?_
    refine WL.ev (Ev.move rfl) rfl ?_
    refine WL.boolCase (fun hg1 => ?_) (fun hg1 => ?_)
    ·
      try simp only [decide_eq_true_eq, decide_eq_false_iff_not, Decidable.not_not, Bool.and_eq_true, Bool.or_eq_true, Bool.not_eq_true', Bool.not_eq_false', ne_eq, Int.not_lt, Int.not_le] at hg1
      refine WL.want rfl rfl rfl rfl ?_
      refine WL.ev (Ev.move rfl) rfl ?_
      refine WL.want rfl rfl rfl rfl ?_
      refine WL.ev (Ev.neq rfl rfl) rfl ?_
      refine WL.ev (Ev.pickT rfl rfl rfl) rfl ?_
      refine WL.ev (Ev.assign rfl) rfl ?_
      refine WL.nil (kr10 _ _ _ ?_)
      refine ⟨rfl, rfl, Subs.consB rfl ?_ ?_⟩
      ·
        first | (simp; omega) | (refine decide_eq_decide.2 ?_; omega)
      ·
        first | ((repeat (first | exact Subs.refl | refine Subs.drop1 (by rfl) ?_)); done) | ((repeat (first | exact Subs.nil | refine Subs.cons rfl ?_)); done)
    ·
      try simp only [decide_eq_true_eq, decide_eq_false_iff_not, Decidable.not_not, Bool.and_eq_true, Bool.or_eq_true, Bool.not_eq_true', Bool.not_eq_false', ne_eq, Int.not_lt, Int.not_le] at hg1
      refine WL.pass rfl rfl rfl rfl rfl ?_
      refine WL.pass rfl rfl rfl rfl rfl ?_
      refine WL.ev (Ev.pickF rfl rfl rfl) rfl ?_
      refine WL.ev (Ev.assign rfl) rfl ?_
      refine WL.nil (kr10 _ _ _ ?_)
      refine ⟨rfl, rfl, Subs.consB rfl ?_ ?_⟩
      ·
        first | (simp; omega) | (refine decide_eq_decide.2 ?_; omega)
      ·
        first | ((repeat (first | exact Subs.refl | refine Subs.drop1 (by rfl) ?_)); done) | ((repeat (first | exact Subs.nil | refine Subs.cons rfl ?_)); done)
  ·
    refine CW.cond rfl (fun hc2 => ?_) (fun hc2 => ?_)  -- if 33
    ·
      try simp only [decide_eq_true_eq, decide_eq_false_iff_not, Decidable.not_not, Bool.and_eq_true, Bool.or_eq_true, Bool.not_eq_true', Bool.not_eq_false', ne_eq, Int.not_lt, Int.not_le] at hc2
      refine CW.seq fun kK11 kh11 => ?_
      refine CW.region fun kR12 kr12 => ?_  -- region 5
      refine WL.ev (Ev.build (vs := _) (cs := [_, _, _, _]) rfl rfl) rfl ?_
      refine WL.storeB rfl rfl rfl (by intro v hv; simp only [List.mem_cons, List.not_mem_nil, or_false] at hv; rcases hv with rfl | rfl | rfl | rfl <;> first | rfl | assumption | exact NU.one (by assumption)) hb4 (by simp) rfl fun ws1 hb4_ hcs1 => ?_
      try simp only [Sx.splice, List.set_cons_zero, List.set_cons_succ, Nat.zero_add] at hb4_
      have hch := hch.step hcs1 (fun y hy => by simp only [List.mem_singleton] at hy; subst hy; first | exact .inr (by first | assumption | omega) | exact .inl (by simp))
      have hb2 := hb2.keep hcs1 (by simp; omega)
      have hb4 := hb4_
      refine WL.nil (kr12 _ _ _ ?_)
      refine kh11 _ _ _ ?_
      refine CW.ret ?_
      refine bodyA.retR1 rfl (RVal.cell rfl (hb4.varA rfl rfl)) ?_
      unfold splitP; rw [if_pos (by omega)]
      exact ⟨rfl, hch⟩
    ·
      try simp only [decide_eq_true_eq, decide_eq_false_iff_not, Decidable.not_not, Bool.and_eq_true, Bool.or_eq_true, Bool.not_eq_true', Bool.not_eq_false', ne_eq, Int.not_lt, Int.not_le] at hc2
      refine CW.seq fun kK13 kh13 => ?_
      refine CW.region fun kR14 kr14 => ?_  -- region 6
      refine WL.ev (Ev.move rfl) rfl ?_
      refine WL.ev (Ev.fieldAddr rfl) rfl ?_
      refine WL.ev (Ev.load rfl rfl (hb2.at_ rfl)) rfl ?_
      refine WL.ev (Ev.shlI (a := 1) (b := 11) (c := 2048) rfl rfl (by decide) (by decide)) rfl ?_
      first | refine WL.ev (Ev.subIn rfl rfl (by omega)) rfl ?_ | refine WL.ev (Ev.sub rfl rfl) rfl ?_
      refine WL.ev (Ev.eql rfl rfl) rfl ?_
      refine WL.ev (Ev.assign rfl) rfl ?_
      refine WL.nil (kr14 _ _ _ ?_)
      refine kh13 _ _ _ ?_
      refine CW.cond rfl (fun hc3 => ?_) (fun hc3 => ?_)  -- if 45
      ·
        try simp only [decide_eq_true_eq, decide_eq_false_iff_not, Decidable.not_not, Bool.and_eq_true, Bool.or_eq_true, Bool.not_eq_true', Bool.not_eq_false', ne_eq, Int.not_lt, Int.not_le] at hc3
        refine CW.seq fun kK15 kh15 => ?_
        refine CW.region fun kR16 kr16 => ?_  -- region 7
        refine WL.ev (Ev.move rfl) rfl ?_
        refine WL.ev (Ev.build (vs := _) (cs := [_, _, _, _]) rfl rfl) rfl ?_
        refine WL.storeB rfl rfl rfl (by intro v hv; simp only [List.mem_cons, List.not_mem_nil, or_false] at hv; rcases hv with rfl | rfl | rfl | rfl <;> first | rfl | assumption | exact NU.one (by assumption)) hb4 (by simp) rfl fun ws2 hb4_ hcs2 => ?_
        try simp only [Sx.splice, List.set_cons_zero, List.set_cons_succ, Nat.zero_add] at hb4_
        have hch := hch.step hcs2 (fun y hy => by simp only [List.mem_singleton] at hy; subst hy; first | exact .inr (by first | assumption | omega) | exact .inl (by simp))
        have hb2 := hb2.keep hcs2 (by simp; omega)
        have hb4 := hb4_
        refine WL.nil (kr16 _ _ _ ?_)
        refine kh15 _ _ _ ?_
        refine CW.ret ?_
        refine bodyA.retR1 rfl (RVal.cell rfl (hb4.varA rfl rfl)) ?_
        unfold splitP; rw [if_neg (by omega), if_pos (by omega)]
        exact ⟨rfl, hch⟩
      ·
        try simp only [decide_eq_true_eq, decide_eq_false_iff_not, Decidable.not_not, Bool.and_eq_true, Bool.or_eq_true, Bool.not_eq_true', Bool.not_eq_false', ne_eq, Int.not_lt, Int.not_le] at hc3
        refine CW.seq fun kK17 kh17 => ?_
        refine CW.region fun kR18 kr18 => ?_  -- region 8
        refine WL.ev (Ev.move rfl) rfl ?_
        refine WL.ev (Ev.gtr rfl rfl) rfl ?_
        refine WL.ev (Ev.assign rfl) rfl ?_
        refine WL.nil (kr18 _ _ _ ?_)
        refine kh17 _ _ _ ?_
        refine CW.cond rfl (fun hc4 => ?_) (fun hc4 => ?_)  -- if 54
        ·
          try simp only [decide_eq_true_eq, decide_eq_false_iff_not, Decidable.not_not, Bool.and_eq_true, Bool.or_eq_true, Bool.not_eq_true', Bool.not_eq_false', ne_eq, Int.not_lt, Int.not_le] at hc4
          refine CW.seq fun kK19 kh19 => ?_
          refine CW.regionKC 12 13 rfl hmix fun kR20 kr20 hS hdr => ?_  -- region 9
          have hch := hch.trans (Chg.any hdr)
          have hb2 := hb2.keep0 hdr
          have hb4 := hb4.keep0 hdr
          have hch_r := hch
          have hb2_r := hb2
          have hb4_r := hb4
          refine WK.take 0 rfl (by kernel_rfl) (by kernel_rfl) (by kernel_rfl) (by kernel_rfl) (by kernel_rfl) (by kernel_rfl) hS (fun w' hw' => Ev.move rfl) rfl ?_
          refine WK.take 1 rfl (by kernel_rfl) (by kernel_rfl) (by kernel_rfl) (by kernel_rfl) (by kernel_rfl) (by kernel_rfl) hS (fun w' hw' => Ev.fieldAddr rfl) rfl ?_
          refine WK.take 2 rfl (by kernel_rfl) (by kernel_rfl) (by kernel_rfl) (by kernel_rfl) (by kernel_rfl) (by kernel_rfl) hS (fun w' hw' => Ev.load rfl rfl ((hb2_r.keep0 hw').at_ rfl)) rfl ?_
          refine WK.take 3 rfl (by kernel_rfl) (by kernel_rfl) (by kernel_rfl) (by kernel_rfl) (by kernel_rfl) (by kernel_rfl) hS (fun w' hw' => Ev.move rfl) rfl ?_
          refine WK.take 4 rfl (by kernel_rfl) (by kernel_rfl) (by kernel_rfl) (by kernel_rfl) (by kernel_rfl) (by kernel_rfl) hS (fun w' hw' => Ev.addIn rfl rfl (by omega)) rfl ?_
          refine WK.take 5 rfl (by kernel_rfl) (by kernel_rfl) (by kernel_rfl) (by kernel_rfl) (by kernel_rfl) (by kernel_rfl) hS (fun w' hw' => Ev.subIn rfl rfl (by omega)) rfl ?_
          refine WK.take 6 rfl (by kernel_rfl) (by kernel_rfl) (by kernel_rfl) (by kernel_rfl) (by kernel_rfl) (by kernel_rfl) hS (fun w' hw' => Ev.move rfl) rfl ?_
          refine WK.take 7 rfl (by kernel_rfl) (by kernel_rfl) (by kernel_rfl) (by kernel_rfl) (by kernel_rfl) (by kernel_rfl) hS (fun w' hw' => Ev.fieldAddr rfl) rfl ?_
          refine WK.take 8 rfl (by kernel_rfl) (by kernel_rfl) (by kernel_rfl) (by kernel_rfl) (by kernel_rfl) (by kernel_rfl) hS (fun w' hw' => Ev.load rfl rfl ((hb2_r.keep0 hw').at_ rfl)) rfl ?_
          refine WK.take 9 rfl (by kernel_rfl) (by kernel_rfl) (by kernel_rfl) (by kernel_rfl) (by kernel_rfl) (by kernel_rfl) hS (fun w' hw' => Ev.shlU64 (a := 1) (b := 52) rfl rfl) rfl ?_
          rw [show 1 * 2 ^ 52 % 18446744073709551616 = 4503599627370496 by omega]
          refine WK.take 10 rfl (by kernel_rfl) (by kernel_rfl) (by kernel_rfl) (by kernel_rfl) (by kernel_rfl) (by kernel_rfl) hS (fun w' hw' => Ev.orU rfl rfl rfl (by simp only [IntKind.bits]; omega) (by simp only [IntKind.bits]; omega)) rfl ?_
          rw [show x % 4503599627370496 ||| 4503599627370496 = x % 4503599627370496 + 4503599627370496 from or_of_mul (s := 52) (y := 1) (Nat.mod_lt _ (by decide))]
          refine WK.take 11 rfl (by kernel_rfl) (by kernel_rfl) (by kernel_rfl) (by kernel_rfl) (by kernel_rfl) (by kernel_rfl) hS (fun w' hw' => Ev.build (vs := _) (cs := [_, _, _, _]) rfl rfl) rfl ?_
          refine WK.storeB 12 rfl (by kernel_rfl) (by kernel_rfl) rfl rfl rfl (by intro v hv; simp only [List.mem_cons, List.not_mem_nil, or_false] at hv; rcases hv with rfl | rfl | rfl | rfl <;> first | rfl | assumption | exact NU.one (by assumption)) hb4 (by simp) rfl fun ws3 hb4_ hcs3 => ?_
          try simp only [Sx.splice, List.set_cons_zero, List.set_cons_succ, Nat.zero_add] at hb4_
          have hch := hch.step hcs3 (fun y hy => by simp only [List.mem_singleton] at hy; subst hy; first | exact .inr (by first | assumption | omega) | exact .inl (by simp))
          have hb2 := hb2.keep hcs3 (by simp; omega)
          have hb4 := hb4_
          refine WK.done (by kernel_rfl) (kr20 _ _ _ ?_)
          refine kh19 _ _ _ ?_
          refine CW.ret ?_
          refine bodyA.retR1 rfl (RVal.cell rfl (hb4.varA rfl rfl)) ?_
          unfold splitP; rw [if_neg (by omega), if_neg (by omega), if_pos (by omega)]
          exact ⟨rfl, hch⟩
        ·
          try simp only [decide_eq_true_eq, decide_eq_false_iff_not, Decidable.not_not, Bool.and_eq_true, Bool.or_eq_true, Bool.not_eq_true', Bool.not_eq_false', ne_eq, Int.not_lt, Int.not_le] at hc4
          refine CW.seq fun kK21 kh21 => ?_
          refine CW.region fun kR22 kr22 => ?_  -- region 10
          refine WL.ev (Ev.move rfl) rfl ?_
          refine WL.ev (Ev.gtr rfl rfl) rfl ?_
          refine WL.ev (Ev.assign rfl) rfl ?_
          refine WL.nil (kr22 _ _ _ ?_)
          refine kh21 _ _ _ ?_
          refine CW.cond rfl (fun hc5 => ?_) (fun hc5 => ?_)  -- if 69
          ·
            try simp only [decide_eq_true_eq, decide_eq_false_iff_not, Decidable.not_not, Bool.and_eq_true, Bool.or_eq_true, Bool.not_eq_true', Bool.not_eq_false', ne_eq, Int.not_lt, Int.not_le] at hc5
            refine CW.seq fun kK23 kh23 => ?_
            refine CW.region fun kR24 kr24 => ?_  -- region 11
            refine WL.ev (Ev.move rfl) rfl ?_
            refine WL.ev (Ev.fieldAddr rfl) rfl ?_
            refine WL.ev (Ev.load rfl rfl (hb2.at_ rfl)) rfl ?_
            refine WL.ev (Ev.move rfl) rfl ?_
            refine WL.ev (Ev.build (vs := _) (cs := [_, _, _, _]) rfl rfl) rfl ?_
            refine WL.storeB rfl rfl rfl (by intro v hv; simp only [List.mem_cons, List.not_mem_nil, or_false] at hv; rcases hv with rfl | rfl | rfl | rfl <;> first | rfl | assumption | exact NU.one (by assumption)) hb4 (by simp) rfl fun ws4 hb4_ hcs4 => ?_
            try simp only [Sx.splice, List.set_cons_zero, List.set_cons_succ, Nat.zero_add] at hb4_
            have hch := hch.step hcs4 (fun y hy => by simp only [List.mem_singleton] at hy; subst hy; first | exact .inr (by first | assumption | omega) | exact .inl (by simp))
            have hb2 := hb2.keep hcs4 (by simp; omega)
            have hb4 := hb4_
            refine WL.nil (kr24 _ _ _ ?_)
            refine kh23 _ _ _ ?_
            refine CW.ret ?_
            refine bodyA.retR1 rfl (RVal.cell rfl (hb4.varA rfl rfl)) ?_
            unfold splitP; rw [if_neg (by omega), if_neg (by omega), if_neg (by omega), if_pos (by omega)]
            exact ⟨rfl, hch⟩
          ·
            try simp only [decide_eq_true_eq, decide_eq_false_iff_not, Decidable.not_not, Bool.and_eq_true, Bool.or_eq_true, Bool.not_eq_true', Bool.not_eq_false', ne_eq, Int.not_lt, Int.not_le] at hc5
            refine CW.skip ?_
            refine kh9 _ _ _ ?_
            refine CW.seq fun kK25 kh25 => ?_
            refine CW.region fun kR26 kr26 => ?_  -- region 12
            refine WL.ev (Ev.move rfl) rfl ?_
            refine WL.ev (Ev.fieldAddr rfl) rfl ?_
            refine WL.ev (Ev.load rfl rfl (hb2.at_ rfl)) rfl ?_
            refine WL.ev (Ev.build (vs := _) (cs := [_, _, _, _]) rfl rfl) rfl ?_
            refine WL.storeB rfl rfl rfl (by intro v hv; simp only [List.mem_cons, List.not_mem_nil, or_false] at hv; rcases hv with rfl | rfl | rfl | rfl <;> first | rfl | assumption | exact NU.one (by assumption)) hb4 (by simp) rfl fun ws5 hb4_ hcs5 => ?_
            try simp only [Sx.splice, List.set_cons_zero, List.set_cons_succ, Nat.zero_add] at hb4_
            have hch := hch.step hcs5 (fun y hy => by simp only [List.mem_singleton] at hy; subst hy; first | exact .inr (by first | assumption | omega) | exact .inl (by simp))
            have hb2 := hb2.keep hcs5 (by simp; omega)
            have hb4 := hb4_
            refine WL.nil (kr26 _ _ _ ?_)
            refine kh25 _ _ _ ?_
            refine CW.ret ?_
            refine bodyA.retR1 rfl (RVal.cell rfl (hb4.varA rfl rfl)) ?_
            unfold splitP; rw [if_neg (by omega), if_neg (by omega), if_neg (by omega), if_neg (by omega)]
            exact ⟨rfl, hch⟩

end Go.Proofs.YtkkklaodligpdaaDoor

/- Package bits: Split, Class; package policy: kinds, counts. No condition. -/
namespace Go.Proofs.YtkkklaodligpdaaDoor
open Go Sx Wd
set_option linter.unusedVariables false
set_option linter.unusedSimpArgs false

theorem long_spec (w : World) : Ret Tryd.prog 70 [] w fun u w' => u = .agg [.int .i64 11, .int .i64 52, .int .i64 (-1074)].toArray ∧ Chg [] w w' := by
  have hch : Chg [] w w := Chg.refl _ _
  refine Ret.enter Tryd.func70 rfl rfl ?_
  simp only [args0, Nat.zero_add, Nat.reduceAdd]
  refine CW.seq fun kK1 kh1 => ?_
  refine CW.region fun kR2 kr2 => ?_  -- region 0
  refine WL.allocB (l := [.int .i64 0, .int .i64 0, .int .i64 0]) rfl rfl fun b0 wm0 hb0 hcm0 hge0 => ?_
  have hgehch0 := Nat.le_trans hch.size hge0
  have hch := hch.trans (Chg.any hcm0)
  refine WL.nil (kr2 _ _ _ ?_)
  refine kh1 _ _ _ ?_
  refine CW.seq fun kK3 kh3 => ?_
  refine CW.region fun kR4 kr4 => ?_  -- region 1
  refine WL.ev (Ev.build (vs := _) (cs := [_, _, _]) rfl rfl) rfl ?_
  refine WL.storeB rfl rfl rfl (by intro v hv; simp only [List.mem_cons, List.not_mem_nil, or_false] at hv; rcases hv with rfl | rfl | rfl <;> first | rfl | assumption | exact NU.one (by assumption)) hb0 (by simp) rfl fun ws6 hb0_ hcs6 => ?_
  try simp only [Sx.splice, List.set_cons_zero, List.set_cons_succ, Nat.zero_add] at hb0_
  have hch := hch.step hcs6 (fun y hy => by simp only [List.mem_singleton] at hy; subst hy; first | exact .inr (by first | assumption | omega) | exact .inl (by simp))
  have hb0 := hb0_
  refine WL.nil (kr4 _ _ _ ?_)
  refine kh3 _ _ _ ?_
  refine CW.ret ?_
  refine bodyA.retR1 rfl (RVal.cell rfl (hb0.varA rfl rfl)) ?_
  exact ⟨rfl, hch⟩

set_option maxRecDepth 4000 in
theorem Split_spec (x : Nat) (w : World) (hx : x < 18446744073709551616) : Ret Tryd.prog 48 [.float .f64 x] w fun u w' => u = .agg [.bool (splitP x).neg, .int .i64 ((splitP x).cls : Int), .int .i64 (splitP x).exp, .int .u64 ((splitP x).frac : Int)].toArray ∧ Chg [] w w' := by
  have hch : Chg [] w w := Chg.refl _ _
  refine Ret.enter Tryd.func48 rfl rfl ?_
  simp only [args0, Nat.zero_add, Nat.reduceAdd]
  refine CW.seq fun kK1 kh1 => ?_
  refine CW.region fun kR2 kr2 => ?_  -- region 0
  refine WL.allocB (l := [.bool false, .int .i64 0, .int .i64 0, .int .u64 0]) rfl rfl fun b2 wm2 hb2 hcm2 hge2 => ?_
  have hgehch2 := Nat.le_trans hch.size hge2
  have hch := hch.trans (Chg.any hcm2)
  refine WL.nil (kr2 _ _ _ ?_)
  refine kh1 _ _ _ ?_
  refine CW.seq fun kK3 kh3 => ?_
  refine CW.region fun kR4 kr4 => ?_  -- region 1
  refine WL.call hasF70 rfl rfl (long_spec _) fun v w1 h' => ?_
  obtain ⟨rfl, hC3⟩ := h'
  have hch := hch.trans (Chg.any hC3)
  have hb2 := hb2.keep0 hC3
  refine WL.ev (Ev.move rfl) rfl ?_
  refine WL.ev (Ev.ext rfl (ext19 _ _)) rfl ?_
  refine WL.call hasF71 rfl rfl (parts_spec x _ hx) fun v w2 h' => ?_
  obtain ⟨rfl, hC6⟩ := h'
  have hch := hch.trans (Chg.any hC6)
  have hb2 := hb2.keep0 hC6
  refine WL.storeB rfl rfl rfl (by intro v hv; simp only [List.mem_cons, List.not_mem_nil, or_false] at hv; rcases hv with rfl | rfl | rfl | rfl <;> first | rfl | assumption | exact NU.one (by assumption)) hb2 (by simp) rfl fun ws7 hb2_ hcs7 => ?_
  try simp only [Sx.splice, List.set_cons_zero, List.set_cons_succ, Nat.zero_add] at hb2_
  have hch := hch.step hcs7 (fun y hy => by simp only [List.mem_singleton] at hy; subst hy; first | exact .inr (by first | assumption | omega) | exact .inl (by simp))
  have hb2 := hb2_
  refine WL.nil (kr4 _ _ _ ?_)
  refine kh3 _ _ _ ?_
  refine CW.ret ?_
  refine bodyA.retR1 rfl (RVal.cell rfl (hb2.varA rfl rfl)) ?_
  exact ⟨rfl, hch⟩

set_option maxRecDepth 4000 in
theorem Class_spec (x : Nat) (w : World) (hx : x < 18446744073709551616) : Ret Tryd.prog 26 [.float .f64 x] w fun u w' => u = .int .i64 ((splitP x).cls : Int) ∧ Chg [] w w' := by
  have hch : Chg [] w w := Chg.refl _ _
  refine Ret.enter Tryd.func26 rfl rfl ?_
  simp only [args0, Nat.zero_add, Nat.reduceAdd]
  refine CW.seq fun kK1 kh1 => ?_
  refine CW.region fun kR2 kr2 => ?_  -- region 0
  refine WL.ev (Ev.assign rfl) rfl ?_
  refine WL.nil (kr2 _ _ _ ?_)
  refine kh1 _ _ _ ?_
  refine CW.seq fun kK3 kh3 => ?_
  refine CW.region fun kR4 kr4 => ?_  -- region 1
  refine WL.ev (Ev.move rfl) rfl ?_
  refine WL.call hasF48 rfl rfl (Split_spec x _ hx) fun v w1 h' => ?_
  obtain ⟨rfl, hC4⟩ := h'
  have hch := hch.trans (Chg.any hC4)
  refine WL.ev (Ev.field (ft := 3) rfl rfl rfl rfl rfl) rfl ?_
  refine WL.ev (Ev.assign rfl) rfl ?_
  refine WL.nil (kr4 _ _ _ ?_)
  refine kh3 _ _ _ ?_
  refine CW.ret ?_
  refine bodyA.ret1 rfl rfl ?_
  exact ⟨rfl, hch⟩

/-- A number's kind: finite, -0, +0, +Inf, -Inf, NaN. -/
def kindP (x : Nat) : Nat :=
  if (splitP x).cls = 4 then 5 else if (splitP x).cls = 3 ∧ (splitP x).neg = true then 4 else if (splitP x).cls = 3 then 3
  else if (splitP x).cls = 0 ∧ (splitP x).neg = true then 1 else if (splitP x).cls = 0 then 2 else 0

set_option maxRecDepth 4000 in
theorem kind_spec (x : Nat) (w : World) (hx : x < 18446744073709551616) : Ret Tryd.prog 29 [.float .f64 x] w fun u w' => u = .int .i64 (kindP x : Int) ∧ Chg [] w w' := by
  have hch : Chg [] w w := Chg.refl _ _
  refine Ret.enter Tryd.func29 rfl rfl ?_
  simp only [args0, Nat.zero_add, Nat.reduceAdd]
  refine CW.seq fun kK1 kh1 => ?_
  refine CW.region fun kR2 kr2 => ?_  -- region 0
  refine WL.ev (Ev.assign rfl) rfl ?_
  refine WL.nil (kr2 _ _ _ ?_)
  refine kh1 _ _ _ ?_
  refine CW.seq fun kK3 kh3 => ?_
  refine CW.region fun kR4 kr4 => ?_  -- region 1
  refine WL.ev (Ev.move rfl) rfl ?_
  refine WL.call hasF48 rfl rfl (Split_spec x _ hx) fun v w1 h' => ?_
  obtain ⟨rfl, hC5⟩ := h'
  have hch := hch.trans (Chg.any hC5)
  refine WL.allocB (l := [.bool false, .int .i64 0, .int .i64 0, .int .u64 0]) rfl rfl fun b3 wm3 hb3 hcm3 hge3 => ?_
  have hgehch3 := Nat.le_trans hch.size hge3
  have hch := hch.trans (Chg.any hcm3)
  refine WL.storeB rfl rfl rfl (by intro v hv; simp only [List.mem_cons, List.not_mem_nil, or_false] at hv; rcases hv with rfl | rfl | rfl | rfl <;> first | rfl | assumption | exact NU.one (by assumption)) hb3 (by simp) rfl fun ws8 hb3_ hcs8 => ?_
  try simp only [Sx.splice, List.set_cons_zero, List.set_cons_succ, Nat.zero_add] at hb3_
  have hch := hch.step hcs8 (fun y hy => by simp only [List.mem_singleton] at hy; subst hy; first | exact .inr (by first | assumption | omega) | exact .inl (by simp))
  have hb3 := hb3_
  refine WL.nil (kr4 _ _ _ ?_)
  refine kh3 _ _ _ ?_
  refine CW.seq fun kK5 kh5 => ?_
  refine CW.block ?_
  refine CW.seq fun kK6 kh6 => ?_
  refine CW.region fun kR7 kr7 => ?_  -- region 2
  refine WL.ev (Ev.fieldAddr rfl) rfl ?_
  refine WL.ev (Ev.load rfl rfl (hb3.at_ rfl)) rfl ?_
  refine WL.ev (Ev.eql rfl rfl) rfl ?_
  refine WL.ev (Ev.assign rfl) rfl ?_
  refine WL.nil (kr7 _ _ _ ?_)
  refine kh6 _ _ _ ?_
  refine CW.cond rfl (fun hc1 => ?_) (fun hc1 => ?_)  -- if 6
  ·
    try simp only [decide_eq_true_eq, decide_eq_false_iff_not, Decidable.not_not, Bool.and_eq_true, Bool.or_eq_true, Bool.not_eq_true', Bool.not_eq_false', ne_eq, Int.not_lt, Int.not_le] at hc1
    refine CW.seq fun kK8 kh8 => ?_
    refine CW.region fun kR9 kr9 => ?_  -- region 3
    refine WL.ev (Ev.assign rfl) rfl ?_
    refine WL.nil (kr9 _ _ _ ?_)
    refine kh8 _ _ _ ?_
    refine CW.ret ?_
    refine bodyA.ret1 rfl rfl ?_
    unfold kindP; rw [if_pos (by omega)]
    exact ⟨rfl, hch⟩
  ·
    try simp only [decide_eq_true_eq, decide_eq_false_iff_not, Decidable.not_not, Bool.and_eq_true, Bool.or_eq_true, Bool.not_eq_true', Bool.not_eq_false', ne_eq, Int.not_lt, Int.not_le] at hc1
    refine CW.seqM 10 (decide ((splitP x).cls = 3 ∧ (splitP x).neg = true)) ?_ ?_
    ·
      refine CW.region fun kR10 kr10 => ?_  -- region 4
      refine WL.ev (Ev.fieldAddr rfl) rfl ?_
      refine WL.ev (Ev.load rfl rfl (hb3.at_ rfl)) rfl ?_
      refine WL.ev (Ev.eql rfl rfl) rfl ?_
      refine WL.ev (Ev.move rfl) rfl ?_
      refine WL.boolCase (fun hg2 => ?_) (fun hg2 => ?_)
      ·
        try simp only [decide_eq_true_eq, decide_eq_false_iff_not, Decidable.not_not, Bool.and_eq_true, Bool.or_eq_true, Bool.not_eq_true', Bool.not_eq_false', ne_eq, Int.not_lt, Int.not_le] at hg2
        refine WL.want rfl rfl rfl rfl ?_
        refine WL.ev (Ev.fieldAddr rfl) rfl ?_
        refine WL.want rfl rfl rfl rfl ?_
        refine WL.ev (Ev.load rfl rfl (hb3.at_ rfl)) rfl ?_
        refine WL.ev (Ev.pickT rfl rfl rfl) rfl ?_
        refine WL.ev (Ev.assign rfl) rfl ?_
        refine WL.nil (kr10 _ _ _ ?_)
        refine ⟨rfl, rfl, Subs.consB rfl ?_ ?_⟩
        ·
          first | (simp_all; done) | (simp; omega) | (cases hnn : (splitP x).neg <;> simp_all <;> omega)
        ·
          first | ((repeat (first | exact Subs.refl | refine Subs.drop1 (by rfl) ?_)); done) | ((repeat (first | exact Subs.nil | refine Subs.cons rfl ?_)); done)
      ·
        try simp only [decide_eq_true_eq, decide_eq_false_iff_not, Decidable.not_not, Bool.and_eq_true, Bool.or_eq_true, Bool.not_eq_true', Bool.not_eq_false', ne_eq, Int.not_lt, Int.not_le] at hg2
        refine WL.pass rfl rfl rfl rfl rfl ?_
        refine WL.pass rfl rfl rfl rfl rfl ?_
        refine WL.ev (Ev.pickF rfl rfl rfl) rfl ?_
        refine WL.ev (Ev.assign rfl) rfl ?_
        refine WL.nil (kr10 _ _ _ ?_)
        refine ⟨rfl, rfl, Subs.consB rfl ?_ ?_⟩
        ·
          first | (simp_all; done) | (simp; omega) | (cases hnn : (splitP x).neg <;> simp_all <;> omega)
        ·
          first | ((repeat (first | exact Subs.refl | refine Subs.drop1 (by rfl) ?_)); done) | ((repeat (first | exact Subs.nil | refine Subs.cons rfl ?_)); done)
    ·
      refine CW.cond rfl (fun hc3 => ?_) (fun hc3 => ?_)  -- if 10
      ·
        try simp only [decide_eq_true_eq, decide_eq_false_iff_not, Decidable.not_not, Bool.and_eq_true, Bool.or_eq_true, Bool.not_eq_true', Bool.not_eq_false', ne_eq, Int.not_lt, Int.not_le] at hc3
        have hK10 := hc3
        refine CW.seq fun kK11 kh11 => ?_
        refine CW.region fun kR12 kr12 => ?_  -- region 5
        refine WL.ev (Ev.assign rfl) rfl ?_
        refine WL.nil (kr12 _ _ _ ?_)
        refine kh11 _ _ _ ?_
        refine CW.ret ?_
        refine bodyA.ret1 rfl rfl ?_
        unfold kindP; rw [if_neg (by omega), if_pos hK10]
        exact ⟨rfl, hch⟩
      ·
        try simp only [decide_eq_true_eq, decide_eq_false_iff_not, Decidable.not_not, Bool.and_eq_true, Bool.or_eq_true, Bool.not_eq_true', Bool.not_eq_false', ne_eq, Int.not_lt, Int.not_le] at hc3
        have hK10 := hc3
        refine CW.seq fun kK13 kh13 => ?_
        refine CW.region fun kR14 kr14 => ?_  -- region 6
        refine WL.ev (Ev.fieldAddr rfl) rfl ?_
        refine WL.ev (Ev.load rfl rfl (hb3.at_ rfl)) rfl ?_
        refine WL.ev (Ev.eql rfl rfl) rfl ?_
        refine WL.ev (Ev.assign rfl) rfl ?_
        refine WL.nil (kr14 _ _ _ ?_)
        refine kh13 _ _ _ ?_
        refine CW.cond rfl (fun hc4 => ?_) (fun hc4 => ?_)  -- if 18
        ·
          try simp only [decide_eq_true_eq, decide_eq_false_iff_not, Decidable.not_not, Bool.and_eq_true, Bool.or_eq_true, Bool.not_eq_true', Bool.not_eq_false', ne_eq, Int.not_lt, Int.not_le] at hc4
          refine CW.seq fun kK15 kh15 => ?_
          refine CW.region fun kR16 kr16 => ?_  -- region 7
          refine WL.ev (Ev.assign rfl) rfl ?_
          refine WL.nil (kr16 _ _ _ ?_)
          refine kh15 _ _ _ ?_
          refine CW.ret ?_
          refine bodyA.ret1 rfl rfl ?_
          unfold kindP; rw [if_neg (by omega), if_neg hK10, if_pos (by omega)]
          exact ⟨rfl, hch⟩
        ·
          try simp only [decide_eq_true_eq, decide_eq_false_iff_not, Decidable.not_not, Bool.and_eq_true, Bool.or_eq_true, Bool.not_eq_true', Bool.not_eq_false', ne_eq, Int.not_lt, Int.not_le] at hc4
          refine CW.seqM 22 (decide ((splitP x).cls = 0 ∧ (splitP x).neg = true)) ?_ ?_
          ·
            refine CW.region fun kR17 kr17 => ?_  -- region 8
            refine WL.ev (Ev.fieldAddr rfl) rfl ?_
            refine WL.ev (Ev.load rfl rfl (hb3.at_ rfl)) rfl ?_
            refine WL.ev (Ev.eql rfl rfl) rfl ?_
            refine WL.ev (Ev.move rfl) rfl ?_
            refine WL.boolCase (fun hg5 => ?_) (fun hg5 => ?_)
            ·
              try simp only [decide_eq_true_eq, decide_eq_false_iff_not, Decidable.not_not, Bool.and_eq_true, Bool.or_eq_true, Bool.not_eq_true', Bool.not_eq_false', ne_eq, Int.not_lt, Int.not_le] at hg5
              refine WL.want rfl rfl rfl rfl ?_
              refine WL.ev (Ev.fieldAddr rfl) rfl ?_
              refine WL.want rfl rfl rfl rfl ?_
              refine WL.ev (Ev.load rfl rfl (hb3.at_ rfl)) rfl ?_
              refine WL.ev (Ev.pickT rfl rfl rfl) rfl ?_
              refine WL.ev (Ev.assign rfl) rfl ?_
              refine WL.nil (kr17 _ _ _ ?_)
              refine ⟨rfl, rfl, Subs.consB rfl ?_ ?_⟩
              ·
                first | (simp_all; done) | (simp; omega) | (cases hnn : (splitP x).neg <;> simp_all <;> omega)
              ·
                first | ((repeat (first | exact Subs.refl | refine Subs.drop1 (by rfl) ?_)); done) | ((repeat (first | exact Subs.nil | refine Subs.cons rfl ?_)); done)
            ·
              try simp only [decide_eq_true_eq, decide_eq_false_iff_not, Decidable.not_not, Bool.and_eq_true, Bool.or_eq_true, Bool.not_eq_true', Bool.not_eq_false', ne_eq, Int.not_lt, Int.not_le] at hg5
              refine WL.pass rfl rfl rfl rfl rfl ?_
              refine WL.pass rfl rfl rfl rfl rfl ?_
              refine WL.ev (Ev.pickF rfl rfl rfl) rfl ?_
              refine WL.ev (Ev.assign rfl) rfl ?_
              refine WL.nil (kr17 _ _ _ ?_)
              refine ⟨rfl, rfl, Subs.consB rfl ?_ ?_⟩
              ·
                first | (simp_all; done) | (simp; omega) | (cases hnn : (splitP x).neg <;> simp_all <;> omega)
              ·
                first | ((repeat (first | exact Subs.refl | refine Subs.drop1 (by rfl) ?_)); done) | ((repeat (first | exact Subs.nil | refine Subs.cons rfl ?_)); done)
          ·
            refine CW.cond rfl (fun hc6 => ?_) (fun hc6 => ?_)  -- if 22
            ·
              try simp only [decide_eq_true_eq, decide_eq_false_iff_not, Decidable.not_not, Bool.and_eq_true, Bool.or_eq_true, Bool.not_eq_true', Bool.not_eq_false', ne_eq, Int.not_lt, Int.not_le] at hc6
              have hK22 := hc6
              refine CW.seq fun kK18 kh18 => ?_
              refine CW.region fun kR19 kr19 => ?_  -- region 9
              refine WL.ev (Ev.assign rfl) rfl ?_
              refine WL.nil (kr19 _ _ _ ?_)
              refine kh18 _ _ _ ?_
              refine CW.ret ?_
              refine bodyA.ret1 rfl rfl ?_
              unfold kindP; rw [if_neg (by omega), if_neg hK10, if_neg (by omega), if_pos hK22]
              exact ⟨rfl, hch⟩
            ·
              try simp only [decide_eq_true_eq, decide_eq_false_iff_not, Decidable.not_not, Bool.and_eq_true, Bool.or_eq_true, Bool.not_eq_true', Bool.not_eq_false', ne_eq, Int.not_lt, Int.not_le] at hc6
              have hK22 := hc6
              refine CW.seq fun kK20 kh20 => ?_
              refine CW.region fun kR21 kr21 => ?_  -- region 10
              refine WL.ev (Ev.fieldAddr rfl) rfl ?_
              refine WL.ev (Ev.load rfl rfl (hb3.at_ rfl)) rfl ?_
              refine WL.ev (Ev.eql rfl rfl) rfl ?_
              refine WL.ev (Ev.assign rfl) rfl ?_
              refine WL.nil (kr21 _ _ _ ?_)
              refine kh20 _ _ _ ?_
              refine CW.cond rfl (fun hc7 => ?_) (fun hc7 => ?_)  -- if 30
              ·
                try simp only [decide_eq_true_eq, decide_eq_false_iff_not, Decidable.not_not, Bool.and_eq_true, Bool.or_eq_true, Bool.not_eq_true', Bool.not_eq_false', ne_eq, Int.not_lt, Int.not_le] at hc7
                refine CW.seq fun kK22 kh22 => ?_
                refine CW.region fun kR23 kr23 => ?_  -- region 11
                refine WL.ev (Ev.assign rfl) rfl ?_
                refine WL.nil (kr23 _ _ _ ?_)
                refine kh22 _ _ _ ?_
                refine CW.ret ?_
                refine bodyA.ret1 rfl rfl ?_
                unfold kindP; rw [if_neg (by omega), if_neg hK10, if_neg (by omega), if_neg hK22, if_pos (by omega)]
                exact ⟨rfl, hch⟩
              ·
                try simp only [decide_eq_true_eq, decide_eq_false_iff_not, Decidable.not_not, Bool.and_eq_true, Bool.or_eq_true, Bool.not_eq_true', Bool.not_eq_false', ne_eq, Int.not_lt, Int.not_le] at hc7
                refine CW.skip ?_
                refine kh5 _ _ _ ?_
                refine CW.seq fun kK24 kh24 => ?_
                refine CW.region fun kR25 kr25 => ?_  -- region 12
                refine WL.ev (Ev.assign rfl) rfl ?_
                refine WL.nil (kr25 _ _ _ ?_)
                refine kh24 _ _ _ ?_
                refine CW.ret ?_
                refine bodyA.ret1 rfl rfl ?_
                unfold kindP; rw [if_neg (by omega), if_neg hK10, if_neg (by omega), if_neg hK22, if_neg (by omega)]
                exact ⟨rfl, hch⟩

theorem choice_spec (n : Int) (w : World) : Ret Tryd.prog 49 [.int .i64 n] w fun u w' => u = .bool (decide (0 ≤ n ∧ n ≤ 2)) ∧ w = w' := by
  refine Ret.enter Tryd.func49 rfl rfl ?_
  simp only [args0, Nat.zero_add, Nat.reduceAdd]
  refine CW.seq fun kK1 kh1 => ?_
  refine CW.region fun kR2 kr2 => ?_  -- region 0
  refine WL.ev (Ev.assign rfl) rfl ?_
  refine WL.nil (kr2 _ _ _ ?_)
  refine kh1 _ _ _ ?_
  refine CW.seq fun kK3 kh3 => ?_
  refine CW.region fun kR4 kr4 => ?_  -- region 1
  refine WL.ev (Ev.move rfl) rfl ?_
  refine WL.ev (Ev.geq rfl rfl) rfl ?_
  refine WL.ev (Ev.move rfl) rfl ?_
  refine WL.boolCase (fun hg1 => ?_) (fun hg1 => ?_)
  ·
    try simp only [decide_eq_true_eq, decide_eq_false_iff_not, Decidable.not_not, Bool.and_eq_true, Bool.or_eq_true, Bool.not_eq_true', Bool.not_eq_false', ne_eq, Int.not_lt, Int.not_le] at hg1
    refine WL.want rfl rfl rfl rfl ?_
    refine WL.ev (Ev.move rfl) rfl ?_
    refine WL.want rfl rfl rfl rfl ?_
    refine WL.ev (Ev.leq rfl rfl) rfl ?_
    refine WL.ev (Ev.pickT rfl rfl rfl) rfl ?_
    refine WL.ev (Ev.assign rfl) rfl ?_
    refine WL.nil (kr4 _ _ _ ?_)
    refine kh3 _ _ _ ?_
    refine CW.ret ?_
    refine bodyA.ret1 rfl rfl ?_
    refine ⟨congrArg Value.bool (decide_eq_decide.2 (by omega)), rfl⟩
  ·
    try simp only [decide_eq_true_eq, decide_eq_false_iff_not, Decidable.not_not, Bool.and_eq_true, Bool.or_eq_true, Bool.not_eq_true', Bool.not_eq_false', ne_eq, Int.not_lt, Int.not_le] at hg1
    refine WL.pass rfl rfl rfl rfl rfl ?_
    refine WL.pass rfl rfl rfl rfl rfl ?_
    refine WL.ev (Ev.pickF rfl rfl rfl) rfl ?_
    refine WL.ev (Ev.assign rfl) rfl ?_
    refine WL.nil (kr4 _ _ _ ?_)
    refine kh3 _ _ _ ?_
    refine CW.ret ?_
    refine bodyA.ret1 rfl rfl ?_
    refine ⟨?_, rfl⟩
    rw [decide_eq_false (by omega)]

def mayQ (a b : Int) : Prop := (0 ≤ a ∧ a ≤ 2) ∧ (0 ≤ b ∧ b ≤ 2)
instance (a b : Int) : Decidable (mayQ a b) := by unfold mayQ; exact inferInstance

set_option maxRecDepth 4000 in
theorem May_spec (pn pi : Int) (w : World) : Ret Tryd.prog 28 [.agg [.int .i64 pn, .int .i64 pi].toArray] w fun u w' => u = .bool (decide (mayQ pn pi)) ∧ Chg [] w w' := by
  have hch : Chg [] w w := Chg.refl _ _
  refine Ret.enter Tryd.func28 rfl rfl ?_
  simp only [args0, Nat.zero_add, Nat.reduceAdd]
  refine CW.seq fun kK1 kh1 => ?_
  refine CW.region fun kR2 kr2 => ?_  -- region 0
  refine WL.boxB rfl rfl rfl fun b1 wm1 hb1 hcm1 hge1 => ?_
  have hgehch1 := Nat.le_trans hch.size hge1
  have hch := hch.trans (Chg.any hcm1)
  refine WL.ev (Ev.assign rfl) rfl ?_
  refine WL.nil (kr2 _ _ _ ?_)
  refine kh1 _ _ _ ?_
  refine CW.seq fun kK3 kh3 => ?_
  refine CW.region fun kR4 kr4 => ?_  -- region 1
  refine WL.ev (Ev.fieldAddr rfl) rfl ?_
  refine WL.ev (Ev.load rfl rfl (hb1.at_ rfl)) rfl ?_
  refine WL.call hasF49 rfl rfl (choice_spec pn _) fun v w1 h' => ?_
  obtain ⟨rfl, rfl⟩ := h'
  refine WL.ev (Ev.move rfl) rfl ?_
  refine WL.boolCase (fun hg1 => ?_) (fun hg1 => ?_)
  ·
    try simp only [decide_eq_true_eq, decide_eq_false_iff_not, Decidable.not_not, Bool.and_eq_true, Bool.or_eq_true, Bool.not_eq_true', Bool.not_eq_false', ne_eq, Int.not_lt, Int.not_le] at hg1
    refine WL.want rfl rfl rfl rfl ?_
    refine WL.ev (Ev.fieldAddr rfl) rfl ?_
    refine WL.want rfl rfl rfl rfl ?_
    refine WL.ev (Ev.load rfl rfl (hb1.at_ rfl)) rfl ?_
    refine WL.want rfl rfl rfl rfl ?_
    refine WL.call hasF49 rfl rfl (choice_spec pi _) fun v w2 h' => ?_
    obtain ⟨rfl, rfl⟩ := h'
    refine WL.ev (Ev.pickT rfl rfl rfl) rfl ?_
    refine WL.ev (Ev.assign rfl) rfl ?_
    refine WL.nil (kr4 _ _ _ ?_)
    refine kh3 _ _ _ ?_
    refine CW.ret ?_
    refine bodyA.ret1 rfl rfl ?_
    refine ⟨congrArg Value.bool (decide_eq_decide.2 (by unfold mayQ; omega)), hch⟩
  ·
    try simp only [decide_eq_true_eq, decide_eq_false_iff_not, Decidable.not_not, Bool.and_eq_true, Bool.or_eq_true, Bool.not_eq_true', Bool.not_eq_false', ne_eq, Int.not_lt, Int.not_le] at hg1
    refine WL.pass rfl rfl rfl rfl rfl ?_
    refine WL.pass rfl rfl rfl rfl rfl ?_
    refine WL.pass rfl rfl rfl rfl rfl ?_
    refine WL.ev (Ev.pickF rfl rfl rfl) rfl ?_
    refine WL.ev (Ev.assign rfl) rfl ?_
    refine WL.nil (kr4 _ _ _ ?_)
    refine kh3 _ _ _ ?_
    refine CW.ret ?_
    refine bodyA.ret1 rfl rfl ?_
    refine ⟨?_, hch⟩
    rw [decide_eq_false (by unfold mayQ; omega)]

end Go.Proofs.YtkkklaodligpdaaDoor

/- Package policy: counts of kinds. No condition. -/
namespace Go.Proofs.YtkkklaodligpdaaDoor
open Go Sx Wd
set_option linter.unusedVariables false
set_option linter.unusedSimpArgs false

/-- Counts of kinds. -/
structure SP where
  na : Nat
  up : Nat
  dn : Nat
  mi : Nat
  pl : Nat
  al : Nat
def SP.cells (s : SP) : List Value := [.int .i64 (s.na : Int), .int .i64 (s.up : Int), .int .i64 (s.dn : Int), .int .i64 (s.mi : Int), .int .i64 (s.pl : Int), .int .i64 (s.al : Int)]
def SP.le (s : SP) (n : Nat) : Prop := s.na ≤ n ∧ s.up ≤ n ∧ s.dn ≤ n ∧ s.mi ≤ n ∧ s.pl ≤ n ∧ s.al ≤ n
def SP.zero : SP := ⟨0, 0, 0, 0, 0, 0⟩
def countP (s : SP) (k : Nat) : SP :=
  ⟨s.na + (if k = 5 then 1 else 0), s.up + (if k = 3 then 1 else 0), s.dn + (if k = 4 then 1 else 0), s.mi + (if k = 1 then 1 else 0), s.pl + (if k = 2 then 1 else 0), s.al + 1⟩
theorem countP.le {s : SP} {k n : Nat} (h : s.le n) : (countP s k).le (n + 1) := by
  obtain ⟨a, b, c, d, e, f⟩ := h
  refine ⟨?_, ?_, ?_, ?_, ?_, ?_⟩ <;> (simp only [countP]; try split) <;> omega
def mayBeP (s : SP) : Prop := s.na + s.up + s.dn + s.mi + s.pl ≤ s.al ∧ s.al ≤ 1099511627776
instance (s : SP) : Decidable (mayBeP s) := by unfold mayBeP; exact inferInstance
def SP.five (s : SP) : List Nat := [s.na, s.up, s.dn, s.mi, s.pl]
theorem take_sum {l : List Nat} : ∀ {i : Nat}, i < l.length → (l.take (i + 1)).sum = (l.take i).sum + l.getD i 0 := by
  induction l with
  | nil => intro i h; simp at h
  | cons a l ih =>
    intro i h
    cases i with
    | zero => simp
    | succ i =>
      have := ih (i := i) (by simpa using h)
      simp only [List.take_succ_cons, List.sum_cons, this, List.getD_cons_succ]; omega
theorem five_le (s : SP) (i : Nat) : s.five.getD i 0 ≤ s.na + s.up + s.dn + s.mi + s.pl := by
  unfold SP.five
  match i with
  | 0 => simp; omega
  | 1 => simp; omega
  | 2 => simp; omega
  | 3 => simp; omega
  | 4 => simp
  | n + 5 => simp
theorem five_sum (s : SP) : (s.five.take 5).sum = s.na + s.up + s.dn + s.mi + s.pl := by
  simp [SP.five]; omega

set_option maxRecDepth 4000 in
theorem count_spec (b k : Nat) (s : SP) (w : World) (hB : BK w b 41 s.cells) (hs : s.le 1000000000000000) : Ret Tryd.prog 30 [.pointer (some ⟨b, 0, none⟩), .int .i64 (k : Int)] w fun u w' => BK w' b 41 (countP s k).cells ∧ Chg [b] w w' := by
  obtain ⟨hs1, hs2, hs3, hs4, hs5, hs6⟩ := hs
  unfold SP.cells at hB
  have hch : Chg [b] w w := Chg.refl _ _
  refine Ret.enter Tryd.func30 rfl rfl ?_
  simp only [args0, Nat.zero_add, Nat.reduceAdd]
  refine CW.seq fun kK1 kh1 => ?_
  refine CW.region fun kR2 kr2 => ?_  -- region 0
  refine WL.ev (Ev.move rfl) rfl ?_
  refine WL.ev (Ev.nilPtr rfl) rfl ?_
  refine WL.ev (Ev.fieldAddr rfl) rfl ?_
  refine WL.ev (Ev.load rfl rfl (hB.at_ rfl)) rfl ?_
  first | refine WL.ev (Ev.addIn rfl rfl (by omega)) rfl ?_ | refine WL.ev (Ev.add rfl rfl) rfl ?_
  refine WL.ev (Ev.nilPtr rfl) rfl ?_
  refine WL.ev (Ev.fieldAddr rfl) rfl ?_
  refine WL.storeC rfl rfl (by first | rfl | assumption | exact NU.one (by assumption)) hB (by simp) rfl fun ws9 hB_ hcs9 => ?_
  try simp only [Sx.splice, List.set_cons_zero, List.set_cons_succ, Nat.zero_add] at hB_
  have hch := hch.step hcs9 (fun y hy => by simp only [List.mem_singleton] at hy; subst hy; first | exact .inr (by first | assumption | omega) | exact .inl (by simp))
  have hB := hB_
  refine WL.nil (kr2 _ _ _ ?_)
  refine kh1 _ _ _ ?_
  refine CW.seq fun kK3 kh3 => ?_
  refine CW.region fun kR4 kr4 => ?_  -- region 1
  refine WL.ev (Ev.move rfl) rfl ?_
  refine WL.nil (kr4 _ _ _ ?_)
  refine kh3 _ _ _ ?_
  refine CW.block ?_
  refine CW.seq fun kK5 kh5 => ?_
  refine CW.region fun kR6 kr6 => ?_  -- region 2
  refine WL.ev (Ev.eql rfl rfl) rfl ?_
  refine WL.ev (Ev.assign rfl) rfl ?_
  refine WL.nil (kr6 _ _ _ ?_)
  refine kh5 _ _ _ ?_
  refine CW.cond rfl (fun hc1 => ?_) (fun hc1 => ?_)  -- if 12
  ·
    try simp only [decide_eq_true_eq, decide_eq_false_iff_not, Decidable.not_not, Bool.and_eq_true, Bool.or_eq_true, Bool.not_eq_true', Bool.not_eq_false', ne_eq, Int.not_lt, Int.not_le] at hc1
    refine CW.region fun kR7 kr7 => ?_  -- region 3
    refine WL.ev (Ev.move rfl) rfl ?_
    refine WL.ev (Ev.nilPtr rfl) rfl ?_
    refine WL.ev (Ev.fieldAddr rfl) rfl ?_
    refine WL.ev (Ev.load rfl rfl (hB.at_ rfl)) rfl ?_
    first | refine WL.ev (Ev.addIn rfl rfl (by omega)) rfl ?_ | refine WL.ev (Ev.add rfl rfl) rfl ?_
    refine WL.ev (Ev.nilPtr rfl) rfl ?_
    refine WL.ev (Ev.fieldAddr rfl) rfl ?_
    refine WL.storeC rfl rfl (by first | rfl | assumption | exact NU.one (by assumption)) hB (by simp) rfl fun ws10 hB_ hcs10 => ?_
    try simp only [Sx.splice, List.set_cons_zero, List.set_cons_succ, Nat.zero_add] at hB_
    have hch := hch.step hcs10 (fun y hy => by simp only [List.mem_singleton] at hy; subst hy; first | exact .inr (by first | assumption | omega) | exact .inl (by simp))
    have hB := hB_
    refine WL.nil (kr7 _ _ _ ?_)
    refine bodyA.norm0 rfl ?_
    refine ⟨?_, hch⟩
    have hk : k = 5 := by omega
    subst hk
    simpa [SP.cells, countP] using hB
  ·
    try simp only [decide_eq_true_eq, decide_eq_false_iff_not, Decidable.not_not, Bool.and_eq_true, Bool.or_eq_true, Bool.not_eq_true', Bool.not_eq_false', ne_eq, Int.not_lt, Int.not_le] at hc1
    refine CW.seq fun kK8 kh8 => ?_
    refine CW.region fun kR9 kr9 => ?_  -- region 4
    refine WL.ev (Ev.eql rfl rfl) rfl ?_
    refine WL.ev (Ev.assign rfl) rfl ?_
    refine WL.nil (kr9 _ _ _ ?_)
    refine kh8 _ _ _ ?_
    refine CW.cond rfl (fun hc2 => ?_) (fun hc2 => ?_)  -- if 21
    ·
      try simp only [decide_eq_true_eq, decide_eq_false_iff_not, Decidable.not_not, Bool.and_eq_true, Bool.or_eq_true, Bool.not_eq_true', Bool.not_eq_false', ne_eq, Int.not_lt, Int.not_le] at hc2
      refine CW.region fun kR10 kr10 => ?_  -- region 5
      refine WL.ev (Ev.move rfl) rfl ?_
      refine WL.ev (Ev.nilPtr rfl) rfl ?_
      refine WL.ev (Ev.fieldAddr rfl) rfl ?_
      refine WL.ev (Ev.load rfl rfl (hB.at_ rfl)) rfl ?_
      first | refine WL.ev (Ev.addIn rfl rfl (by omega)) rfl ?_ | refine WL.ev (Ev.add rfl rfl) rfl ?_
      refine WL.ev (Ev.nilPtr rfl) rfl ?_
      refine WL.ev (Ev.fieldAddr rfl) rfl ?_
      refine WL.storeC rfl rfl (by first | rfl | assumption | exact NU.one (by assumption)) hB (by simp) rfl fun ws11 hB_ hcs11 => ?_
      try simp only [Sx.splice, List.set_cons_zero, List.set_cons_succ, Nat.zero_add] at hB_
      have hch := hch.step hcs11 (fun y hy => by simp only [List.mem_singleton] at hy; subst hy; first | exact .inr (by first | assumption | omega) | exact .inl (by simp))
      have hB := hB_
      refine WL.nil (kr10 _ _ _ ?_)
      refine bodyA.norm0 rfl ?_
      refine ⟨?_, hch⟩
      have hk : k = 3 := by omega
      subst hk
      simpa [SP.cells, countP] using hB
    ·
      try simp only [decide_eq_true_eq, decide_eq_false_iff_not, Decidable.not_not, Bool.and_eq_true, Bool.or_eq_true, Bool.not_eq_true', Bool.not_eq_false', ne_eq, Int.not_lt, Int.not_le] at hc2
      refine CW.seq fun kK11 kh11 => ?_
      refine CW.region fun kR12 kr12 => ?_  -- region 6
      refine WL.ev (Ev.eql rfl rfl) rfl ?_
      refine WL.ev (Ev.assign rfl) rfl ?_
      refine WL.nil (kr12 _ _ _ ?_)
      refine kh11 _ _ _ ?_
      refine CW.cond rfl (fun hc3 => ?_) (fun hc3 => ?_)  -- if 30
      ·
        try simp only [decide_eq_true_eq, decide_eq_false_iff_not, Decidable.not_not, Bool.and_eq_true, Bool.or_eq_true, Bool.not_eq_true', Bool.not_eq_false', ne_eq, Int.not_lt, Int.not_le] at hc3
        refine CW.region fun kR13 kr13 => ?_  -- region 7
        refine WL.ev (Ev.move rfl) rfl ?_
        refine WL.ev (Ev.nilPtr rfl) rfl ?_
        refine WL.ev (Ev.fieldAddr rfl) rfl ?_
        refine WL.ev (Ev.load rfl rfl (hB.at_ rfl)) rfl ?_
        first | refine WL.ev (Ev.addIn rfl rfl (by omega)) rfl ?_ | refine WL.ev (Ev.add rfl rfl) rfl ?_
        refine WL.ev (Ev.nilPtr rfl) rfl ?_
        refine WL.ev (Ev.fieldAddr rfl) rfl ?_
        refine WL.storeC rfl rfl (by first | rfl | assumption | exact NU.one (by assumption)) hB (by simp) rfl fun ws12 hB_ hcs12 => ?_
        try simp only [Sx.splice, List.set_cons_zero, List.set_cons_succ, Nat.zero_add] at hB_
        have hch := hch.step hcs12 (fun y hy => by simp only [List.mem_singleton] at hy; subst hy; first | exact .inr (by first | assumption | omega) | exact .inl (by simp))
        have hB := hB_
        refine WL.nil (kr13 _ _ _ ?_)
        refine bodyA.norm0 rfl ?_
        refine ⟨?_, hch⟩
        have hk : k = 4 := by omega
        subst hk
        simpa [SP.cells, countP] using hB
      ·
        try simp only [decide_eq_true_eq, decide_eq_false_iff_not, Decidable.not_not, Bool.and_eq_true, Bool.or_eq_true, Bool.not_eq_true', Bool.not_eq_false', ne_eq, Int.not_lt, Int.not_le] at hc3
        refine CW.seq fun kK14 kh14 => ?_
        refine CW.region fun kR15 kr15 => ?_  -- region 8
        refine WL.ev (Ev.eql rfl rfl) rfl ?_
        refine WL.ev (Ev.assign rfl) rfl ?_
        refine WL.nil (kr15 _ _ _ ?_)
        refine kh14 _ _ _ ?_
        refine CW.cond rfl (fun hc4 => ?_) (fun hc4 => ?_)  -- if 39
        ·
          try simp only [decide_eq_true_eq, decide_eq_false_iff_not, Decidable.not_not, Bool.and_eq_true, Bool.or_eq_true, Bool.not_eq_true', Bool.not_eq_false', ne_eq, Int.not_lt, Int.not_le] at hc4
          refine CW.region fun kR16 kr16 => ?_  -- region 9
          refine WL.ev (Ev.move rfl) rfl ?_
          refine WL.ev (Ev.nilPtr rfl) rfl ?_
          refine WL.ev (Ev.fieldAddr rfl) rfl ?_
          refine WL.ev (Ev.load rfl rfl (hB.at_ rfl)) rfl ?_
          first | refine WL.ev (Ev.addIn rfl rfl (by omega)) rfl ?_ | refine WL.ev (Ev.add rfl rfl) rfl ?_
          refine WL.ev (Ev.nilPtr rfl) rfl ?_
          refine WL.ev (Ev.fieldAddr rfl) rfl ?_
          refine WL.storeC rfl rfl (by first | rfl | assumption | exact NU.one (by assumption)) hB (by simp) rfl fun ws13 hB_ hcs13 => ?_
          try simp only [Sx.splice, List.set_cons_zero, List.set_cons_succ, Nat.zero_add] at hB_
          have hch := hch.step hcs13 (fun y hy => by simp only [List.mem_singleton] at hy; subst hy; first | exact .inr (by first | assumption | omega) | exact .inl (by simp))
          have hB := hB_
          refine WL.nil (kr16 _ _ _ ?_)
          refine bodyA.norm0 rfl ?_
          refine ⟨?_, hch⟩
          have hk : k = 1 := by omega
          subst hk
          simpa [SP.cells, countP] using hB
        ·
          try simp only [decide_eq_true_eq, decide_eq_false_iff_not, Decidable.not_not, Bool.and_eq_true, Bool.or_eq_true, Bool.not_eq_true', Bool.not_eq_false', ne_eq, Int.not_lt, Int.not_le] at hc4
          refine CW.seq fun kK17 kh17 => ?_
          refine CW.region fun kR18 kr18 => ?_  -- region 10
          refine WL.ev (Ev.eql rfl rfl) rfl ?_
          refine WL.ev (Ev.assign rfl) rfl ?_
          refine WL.nil (kr18 _ _ _ ?_)
          refine kh17 _ _ _ ?_
          refine CW.cond rfl (fun hc5 => ?_) (fun hc5 => ?_)  -- if 48
          ·
            try simp only [decide_eq_true_eq, decide_eq_false_iff_not, Decidable.not_not, Bool.and_eq_true, Bool.or_eq_true, Bool.not_eq_true', Bool.not_eq_false', ne_eq, Int.not_lt, Int.not_le] at hc5
            refine CW.region fun kR19 kr19 => ?_  -- region 11
            refine WL.ev (Ev.move rfl) rfl ?_
            refine WL.ev (Ev.nilPtr rfl) rfl ?_
            refine WL.ev (Ev.fieldAddr rfl) rfl ?_
            refine WL.ev (Ev.load rfl rfl (hB.at_ rfl)) rfl ?_
            first | refine WL.ev (Ev.addIn rfl rfl (by omega)) rfl ?_ | refine WL.ev (Ev.add rfl rfl) rfl ?_
            refine WL.ev (Ev.nilPtr rfl) rfl ?_
            refine WL.ev (Ev.fieldAddr rfl) rfl ?_
            refine WL.storeC rfl rfl (by first | rfl | assumption | exact NU.one (by assumption)) hB (by simp) rfl fun ws14 hB_ hcs14 => ?_
            try simp only [Sx.splice, List.set_cons_zero, List.set_cons_succ, Nat.zero_add] at hB_
            have hch := hch.step hcs14 (fun y hy => by simp only [List.mem_singleton] at hy; subst hy; first | exact .inr (by first | assumption | omega) | exact .inl (by simp))
            have hB := hB_
            refine WL.nil (kr19 _ _ _ ?_)
            refine bodyA.norm0 rfl ?_
            refine ⟨?_, hch⟩
            have hk : k = 2 := by omega
            subst hk
            simpa [SP.cells, countP] using hB
          ·
            try simp only [decide_eq_true_eq, decide_eq_false_iff_not, Decidable.not_not, Bool.and_eq_true, Bool.or_eq_true, Bool.not_eq_true', Bool.not_eq_false', ne_eq, Int.not_lt, Int.not_le] at hc5
            refine CW.skip ?_
            refine bodyA.norm0 rfl ?_
            refine ⟨?_, hch⟩
            have k1 : ¬ k = 5 := by omega
            have k2 : ¬ k = 3 := by omega
            have k3 : ¬ k = 4 := by omega
            have k4 : ¬ k = 1 := by omega
            have k5 : ¬ k = 2 := by omega
            simpa [SP.cells, countP, k1, k2, k3, k4, k5] using hB

def KMb (s : SP) (b : Nat) (w0 : World) (g : Nat × Nat) (w : World) : Prop := g.1 ≤ 5 ∧ g.2 = (s.five.take g.1).sum ∧ g.2 ≤ g.1 * 1099511627776 ∧ BK w b 41 s.cells ∧ Chg [] w0 w

set_option maxRecDepth 4000 in
theorem mayBe_spec (s : SP) (w : World) (hs : s.le 1000000000000000) : Ret Tryd.prog 31 [.agg [.int .i64 (s.na : Int), .int .i64 (s.up : Int), .int .i64 (s.dn : Int), .int .i64 (s.mi : Int), .int .i64 (s.pl : Int), .int .i64 (s.al : Int)].toArray] w fun u w' => u = .bool (decide (mayBeP s)) ∧ Chg [] w w' := by
  obtain ⟨hs1, hs2, hs3, hs4, hs5, hs6⟩ := hs
  have hch : Chg [] w w := Chg.refl _ _
  refine Ret.enter Tryd.func31 rfl rfl ?_
  simp only [args0, Nat.zero_add, Nat.reduceAdd]
  refine CW.seq fun kK1 kh1 => ?_
  refine CW.region fun kR2 kr2 => ?_  -- region 0
  refine WL.boxB rfl rfl rfl fun b1 wm1 hb1 hcm1 hge1 => ?_
  have hgehch1 := Nat.le_trans hch.size hge1
  have hch := hch.trans (Chg.any hcm1)
  refine WL.ev (Ev.assign rfl) rfl ?_
  refine WL.nil (kr2 _ _ _ ?_)
  refine kh1 _ _ _ ?_
  refine CW.seq fun kK3 kh3 => ?_
  refine CW.region fun kR4 kr4 => ?_  -- region 1
  refine WL.ev (Ev.assign rfl) rfl ?_
  refine WL.nil (kr4 _ _ _ ?_)
  refine kh3 _ _ _ ?_
  refine CW.seq fun kK5 kh5 => ?_
  refine CW.seq fun kK6 kh6 => ?_
  refine CW.region fun kR7 kr7 => ?_  -- region 2
  refine WL.ev (Ev.fieldAddr rfl) rfl ?_
  refine WL.ev (Ev.load rfl rfl (hb1.at_ rfl)) rfl ?_
  refine WL.ev (Ev.fieldAddr rfl) rfl ?_
  refine WL.ev (Ev.load rfl rfl (hb1.at_ rfl)) rfl ?_
  refine WL.ev (Ev.fieldAddr rfl) rfl ?_
  refine WL.ev (Ev.load rfl rfl (hb1.at_ rfl)) rfl ?_
  refine WL.ev (Ev.fieldAddr rfl) rfl ?_
  refine WL.ev (Ev.load rfl rfl (hb1.at_ rfl)) rfl ?_
  refine WL.ev (Ev.fieldAddr rfl) rfl ?_
  refine WL.ev (Ev.load rfl rfl (hb1.at_ rfl)) rfl ?_
  refine WL.ev (Ev.buildA (vs := _) (cs := [_, _, _, _, _]) rfl rfl) rfl ?_
  refine WL.ev (Ev.move rfl) rfl ?_
  refine WL.nil (kr7 _ _ _ ?_)
  refine kh6 _ _ _ ?_
  refine CW.block ?_
  refine CW.loop (S := fun g : Nat × Nat => [(1, .pointer (some ⟨b1, 0, none⟩)), (2, .bool false), (3, .int .i64 (g.2 : Int)), (16, .agg (s.five.map fun n : Nat => Value.int .i64 (n : Int)).toArray), (17, .int .i64 (g.1 : Int))]) (Inv := KMb s b1 w) (mu := fun g => 5 - g.1) ((0, 0)) ?_ ?_ ?_
  ·
    exact ⟨by omega, rfl, by omega, hb1, hch⟩
  ·
    repeat (first | exact Subs.nil | refine Subs.cons rfl ?_ | refine Subs.consI rfl (by omega) ?_)
  ·
    rintro ⟨i, m⟩ wr ⟨hi5, hm, hmx, hb1, hch⟩
    dsimp only at hi5 hm hmx hb1 hch
    unfold SP.cells at hb1
    have hmv := five_le s i
    refine CW.seq fun kK8 kh8 => ?_
    refine CW.region fun kR9 kr9 => ?_  -- region 3
    refine WL.ev (Ev.lss rfl rfl) rfl ?_
    refine WL.nil (kr9 _ _ _ ?_)
    refine kh8 _ _ _ ?_
    refine CW.seq fun kK10 kh10 => ?_
    refine CW.cond rfl (fun hc1 => ?_) (fun hc1 => ?_)  -- if 18
    ·
      try simp only [decide_eq_true_eq, decide_eq_false_iff_not, Decidable.not_not, Bool.and_eq_true, Bool.or_eq_true, Bool.not_eq_true', Bool.not_eq_false', ne_eq, Int.not_lt, Int.not_le] at hc1
      refine CW.skip ?_
      refine kh10 _ _ _ ?_
      refine CW.seq fun kK11 kh11 => ?_
      refine CW.block ?_
      refine CW.seq fun kK12 kh12 => ?_
      refine CW.region fun kR13 kr13 => ?_  -- region 4
      refine WL.ev (Ev.indexAr (i := i) (v := .int .i64 ((s.five.getD i 0 : Nat) : Int)) rfl rfl (by omega) rfl ?_) rfl ?_
      · have : i < s.five.length := by show i < 5; omega
        rw [List.getElem?_map, List.getD_eq_getElem?_getD, List.getElem?_eq_getElem this]; rfl
      refine WL.ev (Ev.assign rfl) rfl ?_
      refine WL.nil (kr13 _ _ _ ?_)
      refine kh12 _ _ _ ?_
      refine CW.seq fun kK14 kh14 => ?_
      refine CW.seqM 25 (decide (1099511627776 < s.five.getD i 0)) ?_ ?_
      ·
        refine CW.region fun kR15 kr15 => ?_  -- region 5
        refine WL.ev (Ev.move rfl) rfl ?_
        refine WL.ev (Ev.lss rfl rfl) rfl ?_
        refine WL.ev (Ev.move rfl) rfl ?_
        refine WL.boolCase (fun hg2 => ?_) (fun hg2 => ?_)
        ·
          try simp only [decide_eq_true_eq, decide_eq_false_iff_not, Decidable.not_not, Bool.and_eq_true, Bool.or_eq_true, Bool.not_eq_true', Bool.not_eq_false', ne_eq, Int.not_lt, Int.not_le] at hg2
          refine WL.pass rfl rfl rfl rfl rfl ?_
          refine WL.pass rfl rfl rfl rfl rfl ?_
          refine WL.ev (Ev.pickT rfl rfl rfl) rfl ?_
          refine WL.nil (kr15 _ _ _ ?_)
          refine ⟨rfl, rfl, Subs.consB rfl ?_ ?_⟩
          ·
            first | (simp; omega) | (refine decide_eq_decide.2 ?_; omega)
          ·
            first | ((repeat (first | exact Subs.refl | refine Subs.drop1 (by rfl) ?_)); done) | ((repeat (first | exact Subs.nil | refine Subs.cons rfl ?_)); done)
        ·
          try simp only [decide_eq_true_eq, decide_eq_false_iff_not, Decidable.not_not, Bool.and_eq_true, Bool.or_eq_true, Bool.not_eq_true', Bool.not_eq_false', ne_eq, Int.not_lt, Int.not_le] at hg2
          refine WL.want rfl rfl rfl rfl ?_
          refine WL.ev (Ev.move rfl) rfl ?_
          refine WL.want rfl rfl rfl rfl ?_
          refine WL.ev (Ev.gtr rfl rfl) rfl ?_
          refine WL.ev (Ev.pickF rfl rfl rfl) rfl ?_
          refine WL.nil (kr15 _ _ _ ?_)
          refine ⟨rfl, rfl, Subs.consB rfl ?_ ?_⟩
          ·
            first | (simp; omega) | (refine decide_eq_decide.2 ?_; omega)
          ·
            first | ((repeat (first | exact Subs.refl | refine Subs.drop1 (by rfl) ?_)); done) | ((repeat (first | exact Subs.nil | refine Subs.cons rfl ?_)); done)
      ·
        refine CW.cond rfl (fun hc3 => ?_) (fun hc3 => ?_)  -- if 25
        ·
          try simp only [decide_eq_true_eq, decide_eq_false_iff_not, Decidable.not_not, Bool.and_eq_true, Bool.or_eq_true, Bool.not_eq_true', Bool.not_eq_false', ne_eq, Int.not_lt, Int.not_le] at hc3
          refine CW.seq fun kK16 kh16 => ?_
          refine CW.region fun kR17 kr17 => ?_  -- region 6
          refine WL.ev (Ev.assign rfl) rfl ?_
          refine WL.nil (kr17 _ _ _ ?_)
          refine kh16 _ _ _ ?_
          refine CW.ret ?_
          refine bodyA.ret1 rfl rfl ?_
          refine ⟨?_, hch⟩
          rw [decide_eq_false (by unfold mayBeP; omega)]
        ·
          try simp only [decide_eq_true_eq, decide_eq_false_iff_not, Decidable.not_not, Bool.and_eq_true, Bool.or_eq_true, Bool.not_eq_true', Bool.not_eq_false', ne_eq, Int.not_lt, Int.not_le] at hc3
          refine CW.skip ?_
          refine kh14 _ _ _ ?_
          refine CW.region fun kR18 kr18 => ?_  -- region 7
          refine WL.ev (Ev.move rfl) rfl ?_
          refine WL.ev (Ev.move rfl) rfl ?_
          first | refine WL.ev (Ev.addIn rfl rfl (by omega)) rfl ?_ | refine WL.ev (Ev.add rfl rfl) rfl ?_
          refine WL.ev (Ev.assign rfl) rfl ?_
          refine WL.nil (kr18 _ _ _ ?_)
          refine kh11 _ _ _ ?_
          refine CW.region fun kR19 kr19 => ?_  -- region 8
          first | refine WL.ev (Ev.addIn rfl rfl (by omega)) rfl ?_ | refine WL.ev (Ev.add rfl rfl) rfl ?_
          refine WL.ev (Ev.move rfl) rfl ?_
          refine WL.nil (kr19 _ _ _ ?_)
          refine ⟨rfl, (i + 1, m + s.five.getD i 0), ?_, ?_, ?_⟩
          ·
            repeat (first | exact Subs.nil | refine Subs.cons rfl ?_ | refine Subs.consI rfl (by omega) ?_)
          ·
            exact ⟨by omega, by dsimp only; rw [hm]; exact (take_sum (by show i < 5; omega)).symm, by dsimp only; omega, hb1, hch⟩
          ·
            show 5 - (i + 1) < 5 - i; omega
    ·
      try simp only [decide_eq_true_eq, decide_eq_false_iff_not, Decidable.not_not, Bool.and_eq_true, Bool.or_eq_true, Bool.not_eq_true', Bool.not_eq_false', ne_eq, Int.not_lt, Int.not_le] at hc1
      refine CW.exit ?_  -- exit 0
      refine kh5 _ _ _ ?_
      refine CW.seq fun kK20 kh20 => ?_
      have h5 : i = 5 := by omega
      subst h5
      rw [five_sum] at hm
      refine CW.region fun kR21 kr21 => ?_  -- region 9
      refine WL.ev (Ev.move rfl) rfl ?_
      refine WL.ev (Ev.fieldAddr rfl) rfl ?_
      refine WL.ev (Ev.load rfl rfl (hb1.at_ rfl)) rfl ?_
      refine WL.ev (Ev.leq rfl rfl) rfl ?_
      refine WL.ev (Ev.move rfl) rfl ?_
      refine WL.boolCase (fun hg4 => ?_) (fun hg4 => ?_)
      ·
        try simp only [decide_eq_true_eq, decide_eq_false_iff_not, Decidable.not_not, Bool.and_eq_true, Bool.or_eq_true, Bool.not_eq_true', Bool.not_eq_false', ne_eq, Int.not_lt, Int.not_le] at hg4
        refine WL.want rfl rfl rfl rfl ?_
        refine WL.ev (Ev.fieldAddr rfl) rfl ?_
        refine WL.want rfl rfl rfl rfl ?_
        refine WL.ev (Ev.load rfl rfl (hb1.at_ rfl)) rfl ?_
        refine WL.want rfl rfl rfl rfl ?_
        refine WL.ev (Ev.leq rfl rfl) rfl ?_
        refine WL.ev (Ev.pickT rfl rfl rfl) rfl ?_
        refine WL.ev (Ev.assign rfl) rfl ?_
        refine WL.nil (kr21 _ _ _ ?_)
        refine kh20 _ _ _ ?_
        refine CW.ret ?_
        refine bodyA.ret1 rfl rfl ?_
        refine ⟨congrArg Value.bool (decide_eq_decide.2 (by unfold mayBeP; omega)), hch⟩
      ·
        try simp only [decide_eq_true_eq, decide_eq_false_iff_not, Decidable.not_not, Bool.and_eq_true, Bool.or_eq_true, Bool.not_eq_true', Bool.not_eq_false', ne_eq, Int.not_lt, Int.not_le] at hg4
        refine WL.pass rfl rfl rfl rfl rfl ?_
        refine WL.pass rfl rfl rfl rfl rfl ?_
        refine WL.pass rfl rfl rfl rfl rfl ?_
        refine WL.ev (Ev.pickF rfl rfl rfl) rfl ?_
        refine WL.ev (Ev.assign rfl) rfl ?_
        refine WL.nil (kr21 _ _ _ ?_)
        refine kh20 _ _ _ ?_
        refine CW.ret ?_
        refine bodyA.ret1 rfl rfl ?_
        refine ⟨?_, hch⟩
        rw [decide_eq_false (by unfold mayBeP; omega)]

end Go.Proofs.YtkkklaodligpdaaDoor
