/- Part 5 of what the proof rests on. No condition. -/
import Derived.Test.YtnbipejaidbihaaGreatDoorTt4
import Derived.RangeFuncLeaves
import Derived.RangeFuncRecord
import Derived.TacticsIn
set_option linter.unusedVariables false
set_option linter.unusedSimpArgs false
set_option maxRecDepth 100000
set_option maxHeartbeats 4000000
namespace Go.Proofs.YtnbipejaidbihaaGreatDoor
/- The ends of a shard that is read: ends. No condition. -/
section
open Go Sx Wd Fl

theorem ends_spec21 (b : Nat) (S : Sh) (w : World) (hS : ShM 109 w b S) (hle : S.s.le 1099511627776) (hlo : S.lo < 18446744073709551616) (hhi : S.hi < 18446744073709551616) : Ret Tryz.prog 90 [.pointer (some ⟨b, 0, none⟩)] w fun u w' => u = .bool (decide (endsP S)) ∧ Chg [] w w' := by
 obtain ⟨rv, rq, hb, hNv, hNq⟩ := hS;obtain ⟨hs1, hs2, hs3, hs4, hs5, hs6⟩ := hle;have hch : Chg [] w w := Chg.refl _ _;refine zE1 Tryz.func90 rfl ?_;refine Sr fun _ kh1 => za rfl (zz (kh1 (zc fun _ kh3 => ?_)));refine CW.seqMC 26 (decide (isNaN S.lo = true ∨ isNaN S.hi = true ∨ key S.hi < key S.lo)) ?_ ?_
 ·intro hcM;refine CW.regionHC 24 rfl hmix fun kR4 kr4 hS hdr => ?_;have hcM := hcM.ta hdr;have hb := hb.keep0 hdr;have hb_r := hb;refine wh 0 rfl hS (fun _ _ => Ev.move rfl) (wh 1 rfl hS (fun _ _ => Ev.nilPtr rfl) (wh 2 rfl hS (fun _ _ => Ev.fieldAddr rfl) (wh 3 rfl hS (fun _ hw' => Ev.load rfl rfl ((hb_r.keep0 hw').at_ rfl)) ?_)));refine WH.oneCall 4 rfl (by kernel_rfl) hasF124 rfl rfl (math_IsNaN_spec S.lo _) fun v w1 h' => ?_;obtain ⟨rfl, rfl⟩ := h';refine ⟨hS, ?_⟩;cases hq7 : isNaN S.lo
  ·refine wh 5 rfl hS (fun _ _ => Ev.move rfl) ?_;refine WH.takeG 6 rfl (by kernel_rfl) (by kernel_rfl) (by kernel_rfl) rfl rfl rfl rfl hS (fun w' hw' => Ev.move rfl) rfl ?_;refine WH.takeG 7 rfl (by kernel_rfl) (by kernel_rfl) (by kernel_rfl) rfl rfl rfl rfl hS (fun w' hw' => Ev.nilPtr rfl) rfl ?_;refine WH.takeG 8 rfl (by kernel_rfl) (by kernel_rfl) (by kernel_rfl) rfl rfl rfl rfl hS (fun w' hw' => Ev.fieldAddr rfl) rfl ?_;refine WH.takeG 9 rfl (by kernel_rfl) (by kernel_rfl) (by kernel_rfl) rfl rfl rfl rfl hS (fun w' hw' => Ev.load rfl rfl ((hb_r.keep0 hw').at_ rfl)) rfl ?_;refine WH.oneCallG 10 rfl (by kernel_rfl) rfl rfl rfl rfl hasF124 rfl rfl (math_IsNaN_spec S.hi _) fun v w2 h' => ?_;obtain ⟨rfl, rfl⟩ := h';refine ⟨hS, ?_⟩;cases hq13 : isNaN S.hi
   ·refine wh 11 rfl hS (fun _ _ => Ev.pickF rfl rfl rfl) (wh 12 rfl hS (fun _ _ => Ev.move rfl) ?_);refine WH.takeG 13 rfl (by kernel_rfl) (by kernel_rfl) (by kernel_rfl) rfl rfl rfl rfl hS (fun w' hw' => Ev.move rfl) rfl ?_;refine WH.takeG 14 rfl (by kernel_rfl) (by kernel_rfl) (by kernel_rfl) rfl rfl rfl rfl hS (fun w' hw' => Ev.nilPtr rfl) rfl ?_;refine WH.takeG 15 rfl (by kernel_rfl) (by kernel_rfl) (by kernel_rfl) rfl rfl rfl rfl hS (fun w' hw' => Ev.fieldAddr rfl) rfl ?_;refine WH.takeG 16 rfl (by kernel_rfl) (by kernel_rfl) (by kernel_rfl) rfl rfl rfl rfl hS (fun w' hw' => Ev.load rfl rfl ((hb_r.keep0 hw').at_ rfl)) rfl ?_;refine WH.takeG 17 rfl (by kernel_rfl) (by kernel_rfl) (by kernel_rfl) rfl rfl rfl rfl hS (fun w' hw' => Ev.move rfl) rfl ?_;refine WH.takeG 18 rfl (by kernel_rfl) (by kernel_rfl) (by kernel_rfl) rfl rfl rfl rfl hS (fun w' hw' => Ev.nilPtr rfl) rfl ?_;refine WH.takeG 19 rfl (by kernel_rfl) (by kernel_rfl) (by kernel_rfl) rfl rfl rfl rfl hS (fun w' hw' => Ev.fieldAddr rfl) rfl ?_;refine WH.takeG 20 rfl (by kernel_rfl) (by kernel_rfl) (by kernel_rfl) rfl rfl rfl rfl hS (fun w' hw' => Ev.load rfl rfl ((hb_r.keep0 hw').at_ rfl)) rfl ?_;refine WH.oneCallG 21 rfl (by kernel_rfl) rfl rfl rfl rfl hasF82 rfl rfl (bits_Order_spec S.lo S.hi hlo hhi _) fun v w3 h' => ?_;obtain ⟨rfl, rfl⟩ := h';refine ⟨hS, ?_⟩;refine WH.takeG 22 rfl (by kernel_rfl) (by kernel_rfl) (by kernel_rfl) rfl rfl rfl rfl hS (fun w' hw' => Ev.gtr rfl rfl) rfl ?_;refine wh 23 rfl hS (fun _ _ => Ev.pickF rfl rfl rfl) ?_;refine WH.done (by kernel_rfl) (kr4 _ _ _ ?_);refine ⟨rfl, hcM, Subs.consB rfl ?_ ?_⟩
    ·first | (simp_all; done) | (refine decide_eq_decide.2 ?_; simp_all [cmpI_pos]; done)
    ·exact SMg
   ·refine wh 11 rfl hS (fun _ _ => Ev.pickF rfl rfl rfl) (wh 12 rfl hS (fun _ _ => Ev.move rfl) ?_);refine WH.passG 13 rfl (by kernel_rfl) (by kernel_rfl) (by kernel_rfl) rfl rfl rfl rfl hS rfl ?_;refine WH.passG 14 rfl (by kernel_rfl) (by kernel_rfl) (by kernel_rfl) rfl rfl rfl rfl hS rfl ?_;refine WH.passG 15 rfl (by kernel_rfl) (by kernel_rfl) (by kernel_rfl) rfl rfl rfl rfl hS rfl ?_;refine WH.passG 16 rfl (by kernel_rfl) (by kernel_rfl) (by kernel_rfl) rfl rfl rfl rfl hS rfl ?_;refine WH.passG 17 rfl (by kernel_rfl) (by kernel_rfl) (by kernel_rfl) rfl rfl rfl rfl hS rfl ?_;refine WH.passG 18 rfl (by kernel_rfl) (by kernel_rfl) (by kernel_rfl) rfl rfl rfl rfl hS rfl ?_;refine WH.passG 19 rfl (by kernel_rfl) (by kernel_rfl) (by kernel_rfl) rfl rfl rfl rfl hS rfl ?_;refine WH.passG 20 rfl (by kernel_rfl) (by kernel_rfl) (by kernel_rfl) rfl rfl rfl rfl hS rfl ?_;refine WH.passG1 21 rfl (by kernel_rfl) rfl rfl rfl rfl hS rfl ?_;refine WH.passG 22 rfl (by kernel_rfl) (by kernel_rfl) (by kernel_rfl) rfl rfl rfl rfl hS rfl ?_;refine wh 23 rfl hS (fun _ _ => Ev.pickT rfl rfl rfl) ?_;refine WH.done (by kernel_rfl) (kr4 _ _ _ ?_);refine ⟨rfl, hcM, Subs.consB rfl ?_ ?_⟩
    ·first | (simp_all; done) | (refine decide_eq_decide.2 ?_; simp_all [cmpI_pos]; done)
    ·exact SMg
  ·refine wh 5 rfl hS (fun _ _ => Ev.move rfl) ?_;refine WH.passG 6 rfl (by kernel_rfl) (by kernel_rfl) (by kernel_rfl) rfl rfl rfl rfl hS rfl ?_;refine WH.passG 7 rfl (by kernel_rfl) (by kernel_rfl) (by kernel_rfl) rfl rfl rfl rfl hS rfl ?_;refine WH.passG 8 rfl (by kernel_rfl) (by kernel_rfl) (by kernel_rfl) rfl rfl rfl rfl hS rfl ?_;refine WH.passG 9 rfl (by kernel_rfl) (by kernel_rfl) (by kernel_rfl) rfl rfl rfl rfl hS rfl ?_;refine WH.passG1 10 rfl (by kernel_rfl) rfl rfl rfl rfl hS rfl ?_;refine wh 11 rfl hS (fun _ _ => Ev.pickT rfl rfl rfl) (wh 12 rfl hS (fun _ _ => Ev.move rfl) ?_);refine WH.passG 13 rfl (by kernel_rfl) (by kernel_rfl) (by kernel_rfl) rfl rfl rfl rfl hS rfl ?_;refine WH.passG 14 rfl (by kernel_rfl) (by kernel_rfl) (by kernel_rfl) rfl rfl rfl rfl hS rfl ?_;refine WH.passG 15 rfl (by kernel_rfl) (by kernel_rfl) (by kernel_rfl) rfl rfl rfl rfl hS rfl ?_;refine WH.passG 16 rfl (by kernel_rfl) (by kernel_rfl) (by kernel_rfl) rfl rfl rfl rfl hS rfl ?_;refine WH.passG 17 rfl (by kernel_rfl) (by kernel_rfl) (by kernel_rfl) rfl rfl rfl rfl hS rfl ?_;refine WH.passG 18 rfl (by kernel_rfl) (by kernel_rfl) (by kernel_rfl) rfl rfl rfl rfl hS rfl ?_;refine WH.passG 19 rfl (by kernel_rfl) (by kernel_rfl) (by kernel_rfl) rfl rfl rfl rfl hS rfl ?_;refine WH.passG 20 rfl (by kernel_rfl) (by kernel_rfl) (by kernel_rfl) rfl rfl rfl rfl hS rfl ?_;refine WH.passG1 21 rfl (by kernel_rfl) rfl rfl rfl rfl hS rfl ?_;refine WH.passG 22 rfl (by kernel_rfl) (by kernel_rfl) (by kernel_rfl) rfl rfl rfl rfl hS rfl ?_;refine wh 23 rfl hS (fun _ _ => Ev.pickT rfl rfl rfl) ?_;refine WH.done (by kernel_rfl) (kr4 _ _ _ ?_);refine ⟨rfl, hcM, Subs.consB rfl ?_ ?_⟩
   ·first | (simp_all; done) | (refine decide_eq_decide.2 ?_; simp_all [cmpI_pos]; done)
   ·exact SMg
 ·intro wM hcM;have hch := hch.ta hcM;have hb := hb.keep0 hcM;have hNv := hNv.keep0 hcM;have hNq := hNq.keep0 hcM;refine zy rfl ?_ ?_<;>intro hc1<;>try simp only [qs] at hc1
  ·have hn : isNaN S.lo = true ∨ isNaN S.hi = true ∨ key S.hi < key S.lo := by simpa using hc1
   refine Sr fun _ kh5 => za rfl (zz (kh5 ?_));refine zr (zr1 rfl rfl ?_);refine ⟨congrArg Value.bool (decide_eq_false fun z => z.1 hn).symm, hch⟩
  ·have hn : ¬ (isNaN S.lo = true ∨ isNaN S.hi = true ∨ key S.hi < key S.lo) := by simpa using hc1
   refine zkk ?_;refine kh3 (zc fun _ kh7 => ?_);refine CW.regionHC 45 rfl hmix fun kR8 kr8 hS hdr => ?_;have hch := hch.ta hdr;have hb := hb.keep0 hdr;have hNv := hNv.keep0 hdr;have hNq := hNq.keep0 hdr;have hb_r := hb;refine wh 0 rfl hS (fun _ _ => Ev.move rfl) (wh 1 rfl hS (fun _ _ => Ev.nilPtr rfl) (wh 2 rfl hS (fun _ _ => Ev.fieldAddr rfl) (wh 3 rfl hS (fun _ hw' => Ev.load rfl rfl ((hb_r.keep0 hw').at_ rfl)) (wh 4 rfl hS (fun _ _ => Ev.move rfl) (wh 5 rfl hS (fun _ _ => Ev.nilPtr rfl) (wh 6 rfl hS (fun _ _ => Ev.fieldAddr rfl) (wh 7 rfl hS (fun _ _ => Ev.fieldAddr rfl) (wh 8 rfl hS (fun _ hw' => Ev.load rfl rfl ((hb_r.keep0 hw').at_ rfl)) (wh 9 rfl hS (fun _ _ => Ev.move rfl) (wh 10 rfl hS (fun _ _ => Ev.nilPtr rfl) (wh 11 rfl hS (fun _ _ => Ev.fieldAddr rfl) (wh 12 rfl hS (fun _ _ => Ev.fieldAddr rfl) (wh 13 rfl hS (fun _ hw' => Ev.load rfl rfl ((hb_r.keep0 hw').at_ rfl)) (wh 14 rfl hS (fun _ _ => Ev.move rfl) (wh 15 rfl hS (fun _ _ => Ev.nilPtr rfl) (wh 16 rfl hS (fun _ _ => Ev.fieldAddr rfl) (wh 17 rfl hS (fun _ _ => Ev.fieldAddr rfl) (wh 18 rfl hS (fun _ hw' => Ev.load rfl rfl ((hb_r.keep0 hw').at_ rfl)) (wh 19 rfl hS (fun _ _ => Ev.move rfl) ?_)))))))))))))))))));refine WH.oneCall 20 rfl (by kernel_rfl) hasF181 rfl rfl (shend_spec b S.lo S.s.dn S.s.up S.s.mi (-1) S _ ⟨rv, rq, hb, hNv, hNq⟩ ⟨hs1, hs2, hs3, hs4, hs5, hs6⟩ hlo (by omega)) fun v w4 h' => ?_;obtain ⟨rfl, hC⟩ := h';have hch := hch.ta hC;have hb := hb.keep0 hC;have hNv := hNv.keep0 hC;have hNq := hNq.keep0 hC;have hS := hS.trans hC;refine ⟨hS, ?_⟩
   by_cases hq47 : endP S.lo (-1) S.s.dn S.s.up S.s.mi S
   ·rw [decide_eq_true hq47];refine wh 21 rfl hS (fun _ _ => Ev.move rfl) ?_;refine WH.takeG 22 rfl (by kernel_rfl) (by kernel_rfl) (by kernel_rfl) rfl rfl rfl rfl hS (fun w' hw' => Ev.move rfl) rfl ?_;refine WH.takeG 23 rfl (by kernel_rfl) (by kernel_rfl) (by kernel_rfl) rfl rfl rfl rfl hS (fun w' hw' => Ev.nilPtr rfl) rfl ?_;refine WH.takeG 24 rfl (by kernel_rfl) (by kernel_rfl) (by kernel_rfl) rfl rfl rfl rfl hS (fun w' hw' => Ev.fieldAddr rfl) rfl ?_;refine WH.takeG 25 rfl (by kernel_rfl) (by kernel_rfl) (by kernel_rfl) rfl rfl rfl rfl hS (fun w' hw' => Ev.load rfl rfl ((hb_r.keep0 hw').at_ rfl)) rfl ?_;refine WH.takeG 26 rfl (by kernel_rfl) (by kernel_rfl) (by kernel_rfl) rfl rfl rfl rfl hS (fun w' hw' => Ev.move rfl) rfl ?_;refine WH.takeG 27 rfl (by kernel_rfl) (by kernel_rfl) (by kernel_rfl) rfl rfl rfl rfl hS (fun w' hw' => Ev.nilPtr rfl) rfl ?_;refine WH.takeG 28 rfl (by kernel_rfl) (by kernel_rfl) (by kernel_rfl) rfl rfl rfl rfl hS (fun w' hw' => Ev.fieldAddr rfl) rfl ?_;refine WH.takeG 29 rfl (by kernel_rfl) (by kernel_rfl) (by kernel_rfl) rfl rfl rfl rfl hS (fun w' hw' => Ev.fieldAddr rfl) rfl ?_;refine WH.takeG 30 rfl (by kernel_rfl) (by kernel_rfl) (by kernel_rfl) rfl rfl rfl rfl hS (fun w' hw' => Ev.load rfl rfl ((hb_r.keep0 hw').at_ rfl)) rfl ?_;refine WH.takeG 31 rfl (by kernel_rfl) (by kernel_rfl) (by kernel_rfl) rfl rfl rfl rfl hS (fun w' hw' => Ev.move rfl) rfl ?_;refine WH.takeG 32 rfl (by kernel_rfl) (by kernel_rfl) (by kernel_rfl) rfl rfl rfl rfl hS (fun w' hw' => Ev.nilPtr rfl) rfl ?_;refine WH.takeG 33 rfl (by kernel_rfl) (by kernel_rfl) (by kernel_rfl) rfl rfl rfl rfl hS (fun w' hw' => Ev.fieldAddr rfl) rfl ?_;refine WH.takeG 34 rfl (by kernel_rfl) (by kernel_rfl) (by kernel_rfl) rfl rfl rfl rfl hS (fun w' hw' => Ev.fieldAddr rfl) rfl ?_;refine WH.takeG 35 rfl (by kernel_rfl) (by kernel_rfl) (by kernel_rfl) rfl rfl rfl rfl hS (fun w' hw' => Ev.load rfl rfl ((hb_r.keep0 hw').at_ rfl)) rfl ?_;refine WH.takeG 36 rfl (by kernel_rfl) (by kernel_rfl) (by kernel_rfl) rfl rfl rfl rfl hS (fun w' hw' => Ev.move rfl) rfl ?_;refine WH.takeG 37 rfl (by kernel_rfl) (by kernel_rfl) (by kernel_rfl) rfl rfl rfl rfl hS (fun w' hw' => Ev.nilPtr rfl) rfl ?_;refine WH.takeG 38 rfl (by kernel_rfl) (by kernel_rfl) (by kernel_rfl) rfl rfl rfl rfl hS (fun w' hw' => Ev.fieldAddr rfl) rfl ?_;refine WH.takeG 39 rfl (by kernel_rfl) (by kernel_rfl) (by kernel_rfl) rfl rfl rfl rfl hS (fun w' hw' => Ev.fieldAddr rfl) rfl ?_;refine WH.takeG 40 rfl (by kernel_rfl) (by kernel_rfl) (by kernel_rfl) rfl rfl rfl rfl hS (fun w' hw' => Ev.load rfl rfl ((hb_r.keep0 hw').at_ rfl)) rfl ?_;refine WH.takeG 41 rfl (by kernel_rfl) (by kernel_rfl) (by kernel_rfl) rfl rfl rfl rfl hS (fun w' hw' => Ev.move rfl) rfl ?_;refine WH.oneCallG 42 rfl (by kernel_rfl) rfl rfl rfl rfl hasF181 rfl rfl (shend_spec b S.hi S.s.up S.s.dn S.s.pl 1 S _ ⟨rv, rq, hb, hNv, hNq⟩ ⟨hs1, hs2, hs3, hs4, hs5, hs6⟩ hhi (by omega)) fun v w5 h' => ?_;obtain ⟨rfl, hC⟩ := h';have hch := hch.ta hC
    have hS := hS.trans hC;refine ⟨hS, ?_⟩;refine wh 43 rfl hS (fun _ _ => Ev.pickT rfl rfl rfl) (wh 44 rfl hS (fun _ _ => Ev.assign rfl) ?_);refine WH.done (by kernel_rfl) (kr8 _ _ _ ?_);refine kh7 ?_;refine zr (zr1 rfl rfl ?_);refine ⟨congrArg Value.bool (decide_eq_decide.2 ⟨fun z => ⟨hn, hq47, z⟩, fun z => z.2.2⟩), hch⟩
   ·rw [decide_eq_false hq47];refine wh 21 rfl hS (fun _ _ => Ev.move rfl) ?_;refine WH.passG 22 rfl (by kernel_rfl) (by kernel_rfl) (by kernel_rfl) rfl rfl rfl rfl hS rfl ?_;refine WH.passG 23 rfl (by kernel_rfl) (by kernel_rfl) (by kernel_rfl) rfl rfl rfl rfl hS rfl ?_;refine WH.passG 24 rfl (by kernel_rfl) (by kernel_rfl) (by kernel_rfl) rfl rfl rfl rfl hS rfl ?_;refine WH.passG 25 rfl (by kernel_rfl) (by kernel_rfl) (by kernel_rfl) rfl rfl rfl rfl hS rfl ?_;refine WH.passG 26 rfl (by kernel_rfl) (by kernel_rfl) (by kernel_rfl) rfl rfl rfl rfl hS rfl ?_;refine WH.passG 27 rfl (by kernel_rfl) (by kernel_rfl) (by kernel_rfl) rfl rfl rfl rfl hS rfl ?_;refine WH.passG 28 rfl (by kernel_rfl) (by kernel_rfl) (by kernel_rfl) rfl rfl rfl rfl hS rfl ?_;refine WH.passG 29 rfl (by kernel_rfl) (by kernel_rfl) (by kernel_rfl) rfl rfl rfl rfl hS rfl ?_;refine WH.passG 30 rfl (by kernel_rfl) (by kernel_rfl) (by kernel_rfl) rfl rfl rfl rfl hS rfl ?_;refine WH.passG 31 rfl (by kernel_rfl) (by kernel_rfl) (by kernel_rfl) rfl rfl rfl rfl hS rfl ?_;refine WH.passG 32 rfl (by kernel_rfl) (by kernel_rfl) (by kernel_rfl) rfl rfl rfl rfl hS rfl ?_;refine WH.passG 33 rfl (by kernel_rfl) (by kernel_rfl) (by kernel_rfl) rfl rfl rfl rfl hS rfl ?_;refine WH.passG 34 rfl (by kernel_rfl) (by kernel_rfl) (by kernel_rfl) rfl rfl rfl rfl hS rfl ?_;refine WH.passG 35 rfl (by kernel_rfl) (by kernel_rfl) (by kernel_rfl) rfl rfl rfl rfl hS rfl ?_;refine WH.passG 36 rfl (by kernel_rfl) (by kernel_rfl) (by kernel_rfl) rfl rfl rfl rfl hS rfl ?_;refine WH.passG 37 rfl (by kernel_rfl) (by kernel_rfl) (by kernel_rfl) rfl rfl rfl rfl hS rfl ?_;refine WH.passG 38 rfl (by kernel_rfl) (by kernel_rfl) (by kernel_rfl) rfl rfl rfl rfl hS rfl ?_;refine WH.passG 39 rfl (by kernel_rfl) (by kernel_rfl) (by kernel_rfl) rfl rfl rfl rfl hS rfl ?_;refine WH.passG 40 rfl (by kernel_rfl) (by kernel_rfl) (by kernel_rfl) rfl rfl rfl rfl hS rfl ?_;refine WH.passG 41 rfl (by kernel_rfl) (by kernel_rfl) (by kernel_rfl) rfl rfl rfl rfl hS rfl ?_;refine WH.passG1 42 rfl (by kernel_rfl) rfl rfl rfl rfl hS rfl ?_;refine wh 43 rfl hS (fun _ _ => Ev.pickF rfl rfl rfl) (wh 44 rfl hS (fun _ _ => Ev.assign rfl) ?_);refine WH.done (by kernel_rfl) (kr8 _ _ _ ?_);refine kh7 ?_;refine zr (zr1 rfl rfl ?_);refine ⟨congrArg Value.bool (decide_eq_false fun z => hq47 z.2.1).symm, hch⟩

end

/- The sums of a shard that is read. No condition. -/
section
open Go Sx Wd Fl

def cmpY (x y : Dy) : Int := cmpD x.neg x.m x.e y.neg y.m y.e
def topD : Dy := ⟨false, 1, 2048⟩
theorem topD_wd : wd topD.m = [1] := by show wd 1 = [1]; decide +kernel
theorem topD_ok : topD.ok := ⟨fun h => absurd h (by decide), fun _ => by decide, by rw [topD_wd]; decide, by decide⟩
/-- May the sums be those of so many? -/
def sumsP (S : Sh) : Prop :=
  if S.pln = 0 then S.V.m = 0 ∧ S.Q.m = 0 else
    ¬ (sgD S.Q.neg S.Q.m ≤ 0 ∨ S.Q.e < -2148 ∨ (S.V.m ≠ 0 ∧ S.V.e < -1074)) ∧ cmpY S.Q ((mulD (intD S.pln) topD).getD Dy.zero) < 0 ∧ cmpY ((mulD S.V S.V).getD Dy.zero) ((mulD (intD S.pln) S.Q).getD Dy.zero) ≤ 0
instance (S : Sh) : Decidable (sumsP S) := by unfold sumsP; exact inferInstance
theorem wd_zero_iff {n : Nat} : (wd n).length = 0 ↔ n = 0 := by
  constructor
  · intro h
    have := (wd_length_le (n := n) (k := 0)).1 (by omega)
    simpa using this
  · rintro rfl; rw [wd_zero]; rfl
theorem DR.cells2 {w : World} {u : Value} {x : Option Dy} (h : DR w u x) : ∃ (r : Value) (k : Int), u = .tuple [.agg [.bool (x.getD Dy.zero).neg, r, .int .i64 (x.getD Dy.zero).e].toArray, .int .i64 k].toArray ∧ NU w r (wd (x.getD Dy.zero).m) := by
  obtain ⟨r, k, h1, h2, _⟩ := h.cellsK
  exact ⟨r, k, h1, h2⟩

theorem le_mil {d : Dy} (h : d.ok) : (wd d.m).length ≤ 1000000 := by have := h.len; omega
theorem e_mil {d : Dy} (h : d.ok) : -1000000000000 ≤ d.e ∧ d.e ≤ 1000000000000 := by have := h.e; omega

theorem sums_spec21 (b : Nat) (S : Sh) (w : World) (hS : ShM 109 w b S) (hle : S.s.le 1099511627776) (hokV : S.V.ok) (hokQ : S.Q.ok) (hg : GW w) : Ret Tryz.prog 89 [.pointer (some ⟨b, 0, none⟩)] w fun u w' => u = .bool (decide (sumsP S)) ∧ Chg [] w w' := by
 obtain ⟨rv, rq, hb, hNv, hNq⟩ := hS;obtain ⟨hs1, hs2, hs3, hs4, hs5, hs6⟩ := hle;have hch : Chg [] w w := Chg.refl _ _;obtain ⟨⟨av, cv, hve, hcv, hrv⟩, -, hlv⟩ := id hNv;obtain ⟨⟨aq, cq, hqe, hcq, hrq⟩, -, hlq⟩ := id hNq;subst hve hqe;have hg0 := hg;have hzv := wd_zero_iff (n := S.V.m);have hzq := wd_zero_iff (n := S.Q.m);refine zE1 Tryz.func89 rfl ?_;refine Sr fun _ kh1 => za rfl (zz (kh1 (Sr fun _ kh3 => zm rfl ?_)));refine WL.call hasF178 rfl rfl (plain_spec b S _ ⟨_, _, hb, hNv, hNq⟩ ⟨hs1, hs2, hs3, hs4, hs5, hs6⟩) fun v w1 h' => ?_;obtain ⟨rfl, hC⟩ := h';have hpl : -9223372036854775808 ≤ S.pln ∧ S.pln ≤ 9223372036854775807 := by unfold Sh.pln Sh.fin; omega
 have hokn : (intD S.pln).ok := intD_ok (by unfold Sh.pln Sh.fin; omega);have hov := hNv.one;have hoq := hNq.one;have hch := hch.ta hC;have hb := hb.keep0 hC;have hNv := hNv.keep0 hC;have hNq := hNq.keep0 hC;refine za rfl (zz (kh3 (zc fun _ kh5 => ?_)));refine CW.block ?_;refine Sr fun _ kh6 => zm rfl (zq rfl rfl (za rfl (zz (kh6 ?_))));refine zy rfl ?_ ?_<;>intro hc1<;>try simp only [qs] at hc1
 ·have h0 : S.pln = 0 := hc1
  refine zc fun _ kh8 => ?_;refine CW.regionSC hmix (by kernel_rfl) fun kR9 kr9 hdr => ?_;have hch := hch.ta hdr;have hb := hb.keep0 hdr;refine ym rfl ?_;refine WS.ev (Ev.nilPtr rfl) rfl ?_;refine WS.ev (Ev.fieldAddr rfl) rfl ?_;refine WS.ev (Ev.fieldAddr rfl) rfl ?_;refine WS.ev (Ev.load (v := .slice av (wd S.V.m).length cv) rfl rfl (hb.at_ rfl)) rfl ?_;refine yn rfl (ym rfl ?_);refine WS.ev (Ev.nilPtr rfl) rfl ?_;refine WS.ev (Ev.fieldAddr rfl) rfl ?_;refine WS.ev (Ev.fieldAddr rfl) rfl ?_;refine WS.ev (Ev.load (v := .slice aq (wd S.Q.m).length cq) rfl rfl (hb.at_ rfl)) rfl ?_;refine yn rfl ?_
  first | refine WS.ev (Ev.addIn rfl rfl (by omega)) rfl ?_ | refine WS.ev (Ev.add rfl rfl) rfl ?_
  refine WS.ev (Ev.eql rfl rfl) rfl ?_;refine ya rfl ?_;refine WS.nil (kr9 _ _ ?_);refine kh8 ?_;refine zr (zr1 rfl rfl ?_);refine ⟨congrArg Value.bool (decide_eq_decide.2 ?_), hch⟩;unfold sumsP;rw [if_pos h0];omega
 ·have h0 : ¬ S.pln = 0 := hc1
  refine CW.seqMC 30 (decide (sgD S.Q.neg S.Q.m ≤ 0 ∨ S.Q.e < -2148 ∨ (S.V.m ≠ 0 ∧ S.V.e < -1074))) ?_ ?_
  ·intro hcM;refine zR fun _ kr10 => ?_;refine zm rfl ?_;refine WL.ev (Ev.nilPtr rfl) rfl ?_;refine zf rfl ?_;refine WL.ev (Ev.loadB rfl rfl hb rfl rfl) rfl ?_
   try simp only [List.drop_succ_cons, List.drop_zero, List.take_succ_cons, List.take_zero]
   refine WL.call hasF93 rfl rfl (Sign_dspec _ _ _ _ _ hNq) fun v w2 h' => ?_;obtain ⟨rfl, hC⟩ := h';rw [val_wd];have hcM := hcM.ta hC;have hb := hb.keep0 hC;refine WL.ev (Ev.leq rfl rfl) rfl ?_;refine zm rfl ?_;refine zb ?_ ?_<;>intro hg2<;>try simp only [qs] at hg2
   ·refine zv rfl (zv rfl (zv rfl (zv rfl (zv rfl (zv rfl (zt rfl rfl (zm rfl (zv rfl (zv rfl (zv rfl (zv rfl (zv rfl (zv rfl (zv rfl (zv rfl (zu rfl (zu rfl (zu rfl (zu rfl (zu rfl (zu rfl (zv rfl (zt rfl rfl ?_)))))))))))))))))))))));refine za rfl ?_
    refine WL.nil (kr10 _ _ _ ?_);refine ⟨rfl, hcM, Subs.consB rfl ?_ ?_⟩
    ·first | (simp_all; done) | (refine decide_eq_decide.2 ?_; omega) | (refine (decide_eq_true ?_).symm; omega) | (refine (decide_eq_false ?_).symm; omega)
    ·exact SMg
   ·refine zw rfl (zm rfl (zw rfl ?_));refine WL.ev (Ev.nilPtr rfl) rfl ?_
    refine zw rfl (zf rfl (zw rfl (zf rfl (zw rfl (zl hb rfl rfl (zw rfl ?_))))));refine WL.ev (Ev.lss rfl rfl) rfl ?_;refine ze rfl rfl (zm rfl ?_);refine zb ?_ ?_<;>intro hg3<;>try simp only [qs] at hg3
    ·refine zv rfl (zv rfl (zv rfl (zv rfl (zv rfl (zv rfl (zv rfl (zv rfl (zu rfl (zu rfl (zu rfl (zu rfl (zu rfl (zu rfl (zv rfl (zt rfl rfl (za rfl ?_))))))))))))))));refine WL.nil (kr10 _ _ _ ?_);refine ⟨rfl, hcM, Subs.consB rfl ?_ ?_⟩
     ·first | (simp_all; done) | (refine decide_eq_decide.2 ?_; omega) | (refine (decide_eq_true ?_).symm; omega) | (refine (decide_eq_false ?_).symm; omega)
     ·exact SMg
    ·refine zw rfl (zm rfl (zw rfl ?_));refine WL.ev (Ev.nilPtr rfl) rfl ?_
     refine zw rfl (zf rfl (zw rfl (zf rfl (zw rfl ?_))));refine WL.ev (Ev.load (v := .slice av (wd S.V.m).length cv) rfl rfl (hb.at_ rfl)) rfl ?_;refine zw rfl (zn rfl (zw rfl ?_));refine WL.ev (Ev.gtr rfl rfl) rfl ?_;refine zw rfl (zm rfl ?_);refine zb ?_ ?_<;>intro hg4<;>try simp only [qs] at hg4
     ·refine zw rfl (zm rfl (zw rfl ?_));refine WL.ev (Ev.nilPtr rfl) rfl ?_
      refine zw rfl (zf rfl (zw rfl (zf rfl (zw rfl (zl hb rfl rfl (zw rfl ?_))))));refine WL.ev (Ev.lss rfl rfl) rfl ?_;refine zw rfl (zt rfl rfl (ze rfl rfl (za rfl ?_)));refine WL.nil (kr10 _ _ _ ?_);refine ⟨rfl, hcM, Subs.consB rfl ?_ ?_⟩
      ·first | (simp_all; done) | (refine decide_eq_decide.2 ?_; omega) | (refine (decide_eq_true ?_).symm; omega) | (refine (decide_eq_false ?_).symm; omega)
      ·exact SMg
     ·refine zv rfl (zv rfl (zv rfl (zv rfl (zv rfl (zv rfl (zw rfl (ze rfl rfl (ze rfl rfl (za rfl ?_)))))))));refine WL.nil (kr10 _ _ _ ?_);refine ⟨rfl, hcM, Subs.consB rfl ?_ ?_⟩
      ·first | (simp_all; done) | (refine decide_eq_decide.2 ?_; omega) | (refine (decide_eq_true ?_).symm; omega) | (refine (decide_eq_false ?_).symm; omega)
      ·exact SMg
  ·intro wM hcM;have hch := hch.ta hcM;have hb := hb.keep0 hcM;have hNv := hNv.keep0 hcM;have hNq := hNq.keep0 hcM;refine zy rfl ?_ ?_<;>intro hc5<;>try simp only [qs] at hc5
   ·have h1 : sgD S.Q.neg S.Q.m ≤ 0 ∨ S.Q.e < -2148 ∨ (S.V.m ≠ 0 ∧ S.V.e < -1074) := by simpa using hc5
    refine Sr fun _ kh11 => za rfl (zz (kh11 ?_));refine zr (zr1 rfl rfl ?_);refine ⟨congrArg Value.bool (decide_eq_false fun z => ?_).symm, hch⟩;unfold sumsP at z;rw [if_neg h0] at z;exact z.1 h1
   ·have h1 : ¬ (sgD S.Q.neg S.Q.m ≤ 0 ∨ S.Q.e < -2148 ∨ (S.V.m ≠ 0 ∧ S.V.e < -1074)) := by simpa using hc5
    refine zkk ?_;refine kh5 (Sr fun _ kh13 => zm rfl ?_);refine WL.call hasF179 rfl rfl (Int_spec S.pln _ (hg0.keep0 hch) hpl) fun v w3 h' => ?_;obtain ⟨⟨ri, rfl, hNi⟩, hC⟩ := h';have hoi := hNi.one;have hch := hch.ta hC;have hb := hb.keep0 hC;have hNv := hNv.keep0 hC;have hNq := hNq.keep0 hC;refine zAh rfl rfl hch fun b4 wm4 hb4 hcm4 hge4 hgehch4 hch => ?_;have hNv := hNv.keep0 hcm4;have hNq := hNq.keep0 hcm4;have hNi := hNi.keep0 hcm4;have hneb4 : b ≠ b4 := by have := hb.lt; omega
    have hb := hb.keep0 hcm4;refine zss rfl rfl ao hb4 rfl fun ws12 hb4_ hcs12 => ?_;(try simp only [Sx.splice, qt] at hb4_);have hch := hch.s1 hcs12;have hb := hb.kq hcs12;have hNv := hNv.keepBK hb4 hcs12 an;have hNq := hNq.keepBK hb4 hcs12 an;have hNi := hNi.keepBK hb4 hcs12 an;have hb4 := hb4_;refine zz (kh13 (Sr fun _ kh15 => zg hb4 rfl ?_));refine WL.buildSlice (m := 1) (cs := [u32v (1)]) (by decide) (by decide) rfl (by kernel_rfl) rfl fun b66 w66 hn66 => ?_;have hcm66 := hn66.chg;have hge66 := hn66.ge;have hb66 : OB w66 b66 _ [1] := hn66.at_;have hgehch66 := Nat.le_trans hch.size hge66;have hch := hch.ta hcm66;have hNv := hNv.keep0 hcm66;have hNq := hNq.keep0 hcm66;have hNi := hNi.keep0 hcm66;have hneb66 : b ≠ b66 := by have := hb.lt; omega
    have hb := hb.keep0 hcm66;have hneb466 := zdd hb4.lt hge66;have hb4 := hb4.k0 hcm66;refine WL.ev (Ev.build (vs := _) (cs := [_, _, _]) rfl rfl) rfl ?_;refine WL.call hasF132 rfl rfl (Mul_dspec _ _ _ _ _ _ _ _ _ hNi (show NU _ (.slice (some ⟨b66, 0, none⟩) 1 1) (wd topD.m) from by rw [topD_wd]; exact NU.of_block hb66 (W_cons.2 ⟨by decide, W_nil⟩) (by decide) rfl (Nat.le_refl _)) (hg0.keep0 hch) (ok_i64 hokn) (ok_i64 topD_ok)) fun v w4 h' => ?_;obtain ⟨hD, hC⟩ := h'
    change DR _ _ (both2 mulD (formD (intD S.pln).neg (val (wd (intD S.pln).m)) (intD S.pln).e) (formD topD.neg (val (wd topD.m)) topD.e)) at hD
    rw [both_ok hokn topD_ok] at hD;obtain ⟨rt, kt, rfl, hRt⟩ := hD.cells2;have hot := hRt.one;have hch := hch.ta hC;have hb := hb.keep0 hC;have hb4 := hb4.k0 hC;have hNv := hNv.keep0 hC;have hNq := hNq.keep0 hC;have hNi := hNi.keep0 hC;refine zm rfl (zx rfl rfl (zx rfl rfl ?_));refine zAh rfl rfl hch fun b5 wm5 hb5 hcm5 hge5 hgehch5 hch => ?_;have hNv := hNv.keep0 hcm5;have hNq := hNq.keep0 hcm5;have hNi := hNi.keep0 hcm5;have hRt := hRt.keep0 hcm5;have hneb5 : b ≠ b5 := by have := hb.lt; omega
    have hb := hb.keep0 hcm5;have hneb45 := zdd hb4.lt hge5;have hb4 := hb4.k0 hcm5;refine zss rfl rfl ao hb5 rfl fun ws13 hb5_ hcs13 => ?_;(try simp only [Sx.splice, qt] at hb5_);have hch := hch.s1 hcs13;have hb := hb.kq hcs13;have hb4 := hb4.kq hcs13;have hNv := hNv.keepBK hb5 hcs13 an;have hNq := hNq.keepBK hb5 hcs13 an;have hNi := hNi.keepBK hb5 hcs13 an;have hRt := hRt.keepBK hb5 hcs13 an;have hb5 := hb5_;refine za rfl (zz (kh15 (zc fun _ kh17 => ?_)));refine CW.regionHC 15 rfl hmix fun kR18 kr18 hS hdr => ?_;have hch := hch.ta hdr;have hb := hb.keep0 hdr;have hb4 := hb4.k0 hdr;have hb5 := hb5.k0 hdr;have hNv := hNv.keep0 hdr;have hNq := hNq.keep0 hdr;have hNi := hNi.keep0 hdr;have hRt := hRt.keep0 hdr;have hb_r := hb;have hb4_r := hb4;have hb5_r := hb5;refine wh 0 rfl hS (fun _ _ => Ev.move rfl) (wh 1 rfl hS (fun _ _ => Ev.nilPtr rfl) (wh 2 rfl hS (fun _ _ => Ev.fieldAddr rfl) (wh 3 rfl hS (fun _ hw' => Ev.loadB rfl rfl (hb_r.keep0 hw') rfl rfl) ?_)))
    try simp only [List.drop_succ_cons, List.drop_zero, List.take_succ_cons, List.take_zero]
    refine wh 4 rfl hS (fun _ _ => Ev.move rfl) (wh 5 rfl hS (fun _ _ => Ev.nilPtr rfl) (wh 6 rfl hS (fun _ _ => Ev.fieldAddr rfl) (wh 7 rfl hS (fun _ hw' => Ev.loadB rfl rfl (hb_r.keep0 hw') rfl rfl) ?_)))
    try simp only [List.drop_succ_cons, List.drop_zero, List.take_succ_cons, List.take_zero]
    refine WH.all2 8 12 (by kernel_rfl) ?_ ?_
    ·refine WHat.call 8 rfl hasF132 rfl rfl (Mul_dspec _ _ _ _ _ _ _ _ _ hNv hNv (hg0.keep0 hch) (ok_i64 hokV) (ok_i64 hokV)) fun v w5 h' => ?_;obtain ⟨hD, hC⟩ := h';rw [both_ok hokV hokV] at hD;obtain ⟨rv, kv, rfl, hRv⟩ := hD.cells2;have hov := hRv.one;have hch := hch.ta hC;have hb := hb.keep0 hC;have hb4 := hb4.k0 hC;have hb5 := hb5.k0 hC;have hNq := hNq.keep0 hC;have hNi := hNi.keep0 hC;have hRt := hRt.keep0 hC;have hS := hS.trans hC;refine ⟨hS, ?_⟩;refine wh 9 rfl hS (fun _ _ => Ev.move rfl) (wh 10 rfl hS (fun _ _ => Ev.extract rfl rfl) (wh 11 rfl hS (fun _ _ => Ev.extract rfl rfl) ?_));refine WH.allocC (l := [.bool false, .slice none 0 0, .int .i64 0]) 12 rfl (by kernel_rfl) hS rfl rfl fun b7 wm7 hb7 hcm7 hge7 hS1 => ?_;have hgeS7 := Nat.le_trans hS.size hge7;have hS := hS1;have hgehch7 := Nat.le_trans hch.size hge7;have hch := hch.ta hcm7;have hNq := hNq.keep0 hcm7;have hNi := hNi.keep0 hcm7;have hRt := hRt.keep0 hcm7;have hRv := hRv.keep0 hcm7;have hneb7 : b ≠ b7 := by have := hb.lt; omega
     have hb := hb.keep0 hcm7;have hneb47 := zdd hb4.lt hge7;have hb4 := hb4.k0 hcm7;have hneb57 := zdd hb5.lt hge7;have hb5 := hb5.k0 hcm7;refine WH.storeBN 13 rfl (by kernel_rfl) hS hgeS7 rfl rfl rfl ao hb7 (by simp) rfl fun ws14 hb7_ hcs14 hS => ?_;(try simp only [Sx.splice, qt] at hb7_);have hch := hch.s1 hcs14;have hb := hb.kq hcs14;have hb4 := hb4.kq hcs14;have hb5 := hb5.kq hcs14;have hNq := hNq.keepBK hb7 hcs14 an;have hNi := hNi.keepBK hb7 hcs14 an;have hRt := hRt.keepBK hb7 hcs14 an;have hRv := hRv.keepBK hb7 hcs14 an;have hb7 := hb7_;refine wh 14 rfl hS (fun _ _ => Ev.assign rfl) ?_;refine WH.done (by kernel_rfl) (kr18 _ _ _ ?_);refine kh17 (zc fun _ kh19 => ?_);refine CW.regionHC 12 rfl hmix fun kR20 kr20 hS hdr => ?_;have hch := hch.ta hdr;have hb := hb.keep0 hdr;have hb4 := hb4.k0 hdr;have hb5 := hb5.k0 hdr;have hb7 := hb7.k0 hdr;have hNq := hNq.keep0 hdr;have hNi := hNi.keep0 hdr;have hRt := hRt.keep0 hdr;have hRv := hRv.keep0 hdr;have hb_r := hb;have hb4_r := hb4;have hb5_r := hb5;have hb7_r := hb7;refine wh 0 rfl hS (fun _ hw' => Ev.loadA rfl rfl (hb4_r.keep0 hw') rfl) (wh 1 rfl hS (fun _ _ => Ev.move rfl) (wh 2 rfl hS (fun _ _ => Ev.nilPtr rfl) (wh 3 rfl hS (fun _ _ => Ev.fieldAddr rfl) (wh 4 rfl hS (fun _ hw' => Ev.loadB rfl rfl (hb_r.keep0 hw') rfl rfl) ?_))))
     try simp only [List.drop_succ_cons, List.drop_zero, List.take_succ_cons, List.take_zero]
     refine WH.all2 5 9 (by kernel_rfl) ?_ ?_
     ·refine WHat.call 5 rfl hasF132 rfl rfl (Mul_dspec _ _ _ _ _ _ _ _ _ hNi hNq (hg0.keep0 hch) (ok_i64 hokn) (ok_i64 hokQ)) fun v w6 h' => ?_;obtain ⟨hD, hC⟩ := h';rw [both_ok hokn hokQ] at hD;obtain ⟨rb, kb, rfl, hRb⟩ := hD.cells2;have hob := hRb.one;have hch := hch.ta hC;have hb := hb.keep0 hC;have hb5 := hb5.k0 hC;have hb7 := hb7.k0 hC;have hNq := hNq.keep0 hC;have hRt := hRt.keep0 hC;have hRv := hRv.keep0 hC;have hS := hS.trans hC;refine ⟨hS, ?_⟩;refine wh 6 rfl hS (fun _ _ => Ev.move rfl) (wh 7 rfl hS (fun _ _ => Ev.extract rfl rfl) (wh 8 rfl hS (fun _ _ => Ev.extract rfl rfl) ?_));refine WH.allocC (l := [.bool false, .slice none 0 0, .int .i64 0]) 9 rfl (by kernel_rfl) hS rfl rfl fun b9 wm9 hb9 hcm9 hge9 hS1 => ?_;have hgeS9 := Nat.le_trans hS.size hge9;have hS := hS1;have hgehch9 := Nat.le_trans hch.size hge9;have hch := hch.ta hcm9;have hNq := hNq.keep0 hcm9;have hRt := hRt.keep0 hcm9;have hRv := hRv.keep0 hcm9;have hRb := hRb.keep0 hcm9;have hneb9 : b ≠ b9 := by have := hb.lt; omega
      have hb := hb.keep0 hcm9;have hneb59 := zdd hb5.lt hge9;have hb5 := hb5.k0 hcm9;have hneb79 := zdd hb7.lt hge9;have hb7 := hb7.k0 hcm9;refine WH.storeBN 10 rfl (by kernel_rfl) hS hgeS9 rfl rfl rfl ao hb9 (by simp) rfl fun ws15 hb9_ hcs15 hS => ?_;(try simp only [Sx.splice, qt] at hb9_);have hch := hch.s1 hcs15;have hb := hb.kq hcs15;have hb5 := hb5.kq hcs15;have hb7 := hb7.kq hcs15;have hNq := hNq.keepBK hb9 hcs15 an;have hRt := hRt.keepBK hb9 hcs15 an;have hRv := hRv.keepBK hb9 hcs15 an;have hRb := hRb.keepBK hb9 hcs15 an;have hb9 := hb9_;refine wh 11 rfl hS (fun _ _ => Ev.assign rfl) ?_;refine WH.done (by kernel_rfl) (kr20 _ _ _ ?_);refine kh19 (zc fun _ kh21 => ?_);refine CW.regionHC 14 rfl hmix fun kR22 kr22 hS hdr => ?_;have hch := hch.ta hdr;have hb := hb.keep0 hdr;have hb5 := hb5.k0 hdr;have hb7 := hb7.k0 hdr;have hb9 := hb9.k0 hdr;have hNq := hNq.keep0 hdr;have hRt := hRt.keep0 hdr;have hRv := hRv.keep0 hdr;have hRb := hRb.keep0 hdr;have hb_r := hb;have hb5_r := hb5;have hb7_r := hb7;have hb9_r := hb9;refine wh 0 rfl hS (fun _ _ => Ev.move rfl) (wh 1 rfl hS (fun _ _ => Ev.nilPtr rfl) (wh 2 rfl hS (fun _ _ => Ev.fieldAddr rfl) (wh 3 rfl hS (fun _ hw' => Ev.loadB rfl rfl (hb_r.keep0 hw') rfl rfl) ?_)))
      try simp only [List.drop_succ_cons, List.drop_zero, List.take_succ_cons, List.take_zero]
      refine wh 4 rfl hS (fun _ hw' => Ev.loadA rfl rfl (hb5_r.keep0 hw') rfl) ?_;refine WH.oneCall 5 rfl (by kernel_rfl) hasF180 rfl rfl (dCmp_spec _ _ _ _ _ _ _ _ _ hNq hRt (le_mil hokQ) (le_mil (getD_ok fun d h => mulD_ok h)) (e_mil hokQ) (e_mil (getD_ok fun d h => mulD_ok h))) fun v w7 h' => ?_;obtain ⟨rfl, hC⟩ := h';rw [val_wd, val_wd];have hch := hch.ta hC;have hRv := hRv.keep0 hC;have hRb := hRb.keep0 hC;have hS := hS.trans hC;refine ⟨hS, ?_⟩
      by_cases hq97 : cmpY S.Q ((mulD (intD S.pln) topD).getD Dy.zero) < 0
      ·refine wh 6 rfl hS (fun _ _ => Ev.lss rfl rfl) ?_;rw [show decide (cmpD _ _ _ _ _ _ < 0) = true from decide_eq_true hq97];refine wh 7 rfl hS (fun _ _ => Ev.move rfl) ?_;refine WH.takeG 8 rfl (by kernel_rfl) (by kernel_rfl) (by kernel_rfl) rfl rfl rfl rfl hS (fun w' hw' => Ev.loadA rfl rfl (hb7_r.keep0 hw') rfl) rfl ?_;refine WH.takeG 9 rfl (by kernel_rfl) (by kernel_rfl) (by kernel_rfl) rfl rfl rfl rfl hS (fun w' hw' => Ev.loadA rfl rfl (hb9_r.keep0 hw') rfl) rfl ?_;refine WH.oneCallG 10 rfl (by kernel_rfl) rfl rfl rfl rfl hasF180 rfl rfl (dCmp_spec _ _ _ _ _ _ _ _ _ hRv hRb (le_mil (getD_ok fun d h => mulD_ok h)) (le_mil (getD_ok fun d h => mulD_ok h)) (e_mil (getD_ok fun d h => mulD_ok h)) (e_mil (getD_ok fun d h => mulD_ok h))) fun v w8 h' => ?_;obtain ⟨rfl, hC⟩ := h';rw [val_wd, val_wd];have hch := hch.ta hC;have hS := hS.trans hC;refine ⟨hS, ?_⟩;refine WH.takeG 11 rfl (by kernel_rfl) (by kernel_rfl) (by kernel_rfl) rfl rfl rfl rfl hS (fun w' hw' => Ev.leq rfl rfl) rfl ?_;refine wh 12 rfl hS (fun _ _ => Ev.pickT rfl rfl rfl) (wh 13 rfl hS (fun _ _ => Ev.assign rfl) ?_);refine WH.done (by kernel_rfl) (kr22 _ _ _ ?_);refine kh21 ?_;refine zr (zr1 rfl rfl ?_);refine ⟨congrArg Value.bool (decide_eq_decide.2 ?_), hch⟩;unfold sumsP;rw [if_neg h0];exact ⟨fun z => ⟨h1, hq97, z⟩, fun z => z.2.2⟩
      ·refine wh 6 rfl hS (fun _ _ => Ev.lss rfl rfl) ?_;rw [show decide (cmpD _ _ _ _ _ _ < 0) = false from decide_eq_false hq97];refine wh 7 rfl hS (fun _ _ => Ev.move rfl) ?_;refine WH.passG 8 rfl (by kernel_rfl) (by kernel_rfl) (by kernel_rfl) rfl rfl rfl rfl hS rfl ?_;refine WH.passG 9 rfl (by kernel_rfl) (by kernel_rfl) (by kernel_rfl) rfl rfl rfl rfl hS rfl ?_;refine WH.passG1 10 rfl (by kernel_rfl) rfl rfl rfl rfl hS rfl ?_;refine WH.passG 11 rfl (by kernel_rfl) (by kernel_rfl) (by kernel_rfl) rfl rfl rfl rfl hS rfl ?_;refine wh 12 rfl hS (fun _ _ => Ev.pickF rfl rfl rfl) (wh 13 rfl hS (fun _ _ => Ev.assign rfl) ?_);refine WH.done (by kernel_rfl) (kr22 _ _ _ ?_);refine kh21 ?_;refine zr (zr1 rfl rfl ?_);refine ⟨congrArg Value.bool (decide_eq_false fun z => ?_).symm, hch⟩;unfold sumsP at z;rw [if_neg h0] at z;exact hq97 z.2.1
     ·refine WHat.allocC (l := [.bool false, .slice none 0 0, .int .i64 0]) 9 rfl hS rfl rfl fun b9 wm9 hb9 hcm9 hge9 hS1 => ?_;have hgeS9 := Nat.le_trans hS.size hge9;have hS := hS1;have hgehch9 := Nat.le_trans hch.size hge9;have hch := hch.ta hcm9;have hNq := hNq.keep0 hcm9;have hNi := hNi.keep0 hcm9;have hRt := hRt.keep0 hcm9;have hRv := hRv.keep0 hcm9;have hneb9 : b ≠ b9 := by have := hb.lt; omega
      have hb := hb.keep0 hcm9;have hneb59 := zdd hb5.lt hge9;have hb5 := hb5.k0 hcm9;have hneb79 := zdd hb7.lt hge9;have hb7 := hb7.k0 hcm9;refine WH.oneCall 5 rfl (by kernel_rfl) hasF132 rfl rfl (Mul_dspec _ _ _ _ _ _ _ _ _ hNi hNq (hg0.keep0 hch) (ok_i64 hokn) (ok_i64 hokQ)) fun v w9 h' => ?_;obtain ⟨hD, hC⟩ := h';rw [both_ok hokn hokQ] at hD;obtain ⟨rb, kb, rfl, hRb⟩ := hD.cells2;have hob := hRb.one;have hch := hch.ta hC;have hb := hb.keep0 hC;have hb5 := hb5.k0 hC;have hb7 := hb7.k0 hC;have hb9 := hb9.k0 hC;have hNq := hNq.keep0 hC;have hRt := hRt.keep0 hC;have hRv := hRv.keep0 hC;have hS := hS.trans hC;refine ⟨hS, ?_⟩;refine wh 6 rfl hS (fun _ _ => Ev.move rfl) (wh 7 rfl hS (fun _ _ => Ev.extract rfl rfl) (wh 8 rfl hS (fun _ _ => Ev.extract rfl rfl) ?_));refine WH.storeBN 10 rfl (by kernel_rfl) hS hgeS9 rfl rfl rfl ao hb9 (by simp) rfl fun ws16 hb9_ hcs16 hS => ?_;(try simp only [Sx.splice, qt] at hb9_);have hch := hch.s1 hcs16;have hb := hb.kq hcs16;have hb5 := hb5.kq hcs16;have hb7 := hb7.kq hcs16;have hNq := hNq.keepBK hb9 hcs16 an;have hRt := hRt.keepBK hb9 hcs16 an;have hRv := hRv.keepBK hb9 hcs16 an;have hRb := hRb.keepBK hb9 hcs16 an;have hb9 := hb9_;refine wh 11 rfl hS (fun _ _ => Ev.assign rfl) ?_;refine WH.done (by kernel_rfl) (kr20 _ _ _ ?_);refine kh19 (zc fun _ kh23 => ?_);refine CW.regionHC 14 rfl hmix fun kR24 kr24 hS hdr => ?_;have hch := hch.ta hdr;have hb := hb.keep0 hdr;have hb5 := hb5.k0 hdr;have hb7 := hb7.k0 hdr;have hb9 := hb9.k0 hdr;have hNq := hNq.keep0 hdr;have hRt := hRt.keep0 hdr;have hRv := hRv.keep0 hdr;have hRb := hRb.keep0 hdr;have hb_r := hb;have hb5_r := hb5;have hb7_r := hb7;have hb9_r := hb9;refine wh 0 rfl hS (fun _ _ => Ev.move rfl) (wh 1 rfl hS (fun _ _ => Ev.nilPtr rfl) (wh 2 rfl hS (fun _ _ => Ev.fieldAddr rfl) (wh 3 rfl hS (fun _ hw' => Ev.loadB rfl rfl (hb_r.keep0 hw') rfl rfl) ?_)))
      try simp only [List.drop_succ_cons, List.drop_zero, List.take_succ_cons, List.take_zero]
      refine wh 4 rfl hS (fun _ hw' => Ev.loadA rfl rfl (hb5_r.keep0 hw') rfl) ?_;refine WH.oneCall 5 rfl (by kernel_rfl) hasF180 rfl rfl (dCmp_spec _ _ _ _ _ _ _ _ _ hNq hRt (le_mil hokQ) (le_mil (getD_ok fun d h => mulD_ok h)) (e_mil hokQ) (e_mil (getD_ok fun d h => mulD_ok h))) fun v w10 h' => ?_;obtain ⟨rfl, hC⟩ := h';rw [val_wd, val_wd];have hch := hch.ta hC;have hRv := hRv.keep0 hC;have hRb := hRb.keep0 hC;have hS := hS.trans hC;refine ⟨hS, ?_⟩
      by_cases hq97 : cmpY S.Q ((mulD (intD S.pln) topD).getD Dy.zero) < 0
      ·refine wh 6 rfl hS (fun _ _ => Ev.lss rfl rfl) ?_;rw [show decide (cmpD _ _ _ _ _ _ < 0) = true from decide_eq_true hq97];refine wh 7 rfl hS (fun _ _ => Ev.move rfl) ?_;refine WH.takeG 8 rfl (by kernel_rfl) (by kernel_rfl) (by kernel_rfl) rfl rfl rfl rfl hS (fun w' hw' => Ev.loadA rfl rfl (hb7_r.keep0 hw') rfl) rfl ?_;refine WH.takeG 9 rfl (by kernel_rfl) (by kernel_rfl) (by kernel_rfl) rfl rfl rfl rfl hS (fun w' hw' => Ev.loadA rfl rfl (hb9_r.keep0 hw') rfl) rfl ?_;refine WH.oneCallG 10 rfl (by kernel_rfl) rfl rfl rfl rfl hasF180 rfl rfl (dCmp_spec _ _ _ _ _ _ _ _ _ hRv hRb (le_mil (getD_ok fun d h => mulD_ok h)) (le_mil (getD_ok fun d h => mulD_ok h)) (e_mil (getD_ok fun d h => mulD_ok h)) (e_mil (getD_ok fun d h => mulD_ok h))) fun v w11 h' => ?_;obtain ⟨rfl, hC⟩ := h';rw [val_wd, val_wd];have hch := hch.ta hC;have hS := hS.trans hC;refine ⟨hS, ?_⟩;refine WH.takeG 11 rfl (by kernel_rfl) (by kernel_rfl) (by kernel_rfl) rfl rfl rfl rfl hS (fun w' hw' => Ev.leq rfl rfl) rfl ?_;refine wh 12 rfl hS (fun _ _ => Ev.pickT rfl rfl rfl) (wh 13 rfl hS (fun _ _ => Ev.assign rfl) ?_);refine WH.done (by kernel_rfl) (kr24 _ _ _ ?_);refine kh23 ?_;refine zr (zr1 rfl rfl ?_);refine ⟨congrArg Value.bool (decide_eq_decide.2 ?_), hch⟩;unfold sumsP;rw [if_neg h0];exact ⟨fun z => ⟨h1, hq97, z⟩, fun z => z.2.2⟩
      ·refine wh 6 rfl hS (fun _ _ => Ev.lss rfl rfl) ?_;rw [show decide (cmpD _ _ _ _ _ _ < 0) = false from decide_eq_false hq97];refine wh 7 rfl hS (fun _ _ => Ev.move rfl) ?_;refine WH.passG 8 rfl (by kernel_rfl) (by kernel_rfl) (by kernel_rfl) rfl rfl rfl rfl hS rfl ?_;refine WH.passG 9 rfl (by kernel_rfl) (by kernel_rfl) (by kernel_rfl) rfl rfl rfl rfl hS rfl ?_;refine WH.passG1 10 rfl (by kernel_rfl) rfl rfl rfl rfl hS rfl ?_;refine WH.passG 11 rfl (by kernel_rfl) (by kernel_rfl) (by kernel_rfl) rfl rfl rfl rfl hS rfl ?_;refine wh 12 rfl hS (fun _ _ => Ev.pickF rfl rfl rfl) (wh 13 rfl hS (fun _ _ => Ev.assign rfl) ?_);refine WH.done (by kernel_rfl) (kr24 _ _ _ ?_);refine kh23 ?_;refine zr (zr1 rfl rfl ?_);refine ⟨congrArg Value.bool (decide_eq_false fun z => ?_).symm, hch⟩;unfold sumsP at z;rw [if_neg h0] at z;exact hq97 z.2.1
    ·refine WHat.allocC (l := [.bool false, .slice none 0 0, .int .i64 0]) 12 rfl hS rfl rfl fun b7 wm7 hb7 hcm7 hge7 hS1 => ?_;have hgeS7 := Nat.le_trans hS.size hge7;have hS := hS1;have hgehch7 := Nat.le_trans hch.size hge7;have hch := hch.ta hcm7;have hNv := hNv.keep0 hcm7;have hNq := hNq.keep0 hcm7;have hNi := hNi.keep0 hcm7;have hRt := hRt.keep0 hcm7;have hneb7 : b ≠ b7 := by have := hb.lt; omega
     have hb := hb.keep0 hcm7;have hneb47 := zdd hb4.lt hge7;have hb4 := hb4.k0 hcm7;have hneb57 := zdd hb5.lt hge7;have hb5 := hb5.k0 hcm7;refine WH.oneCall 8 rfl (by kernel_rfl) hasF132 rfl rfl (Mul_dspec _ _ _ _ _ _ _ _ _ hNv hNv (hg0.keep0 hch) (ok_i64 hokV) (ok_i64 hokV)) fun v w12 h' => ?_;obtain ⟨hD, hC⟩ := h';rw [both_ok hokV hokV] at hD;obtain ⟨rv, kv, rfl, hRv⟩ := hD.cells2;have hov := hRv.one;have hch := hch.ta hC;have hb := hb.keep0 hC;have hb4 := hb4.k0 hC;have hb5 := hb5.k0 hC;have hb7 := hb7.k0 hC;have hNq := hNq.keep0 hC;have hNi := hNi.keep0 hC;have hRt := hRt.keep0 hC;have hS := hS.trans hC;refine ⟨hS, ?_⟩;refine wh 9 rfl hS (fun _ _ => Ev.move rfl) (wh 10 rfl hS (fun _ _ => Ev.extract rfl rfl) (wh 11 rfl hS (fun _ _ => Ev.extract rfl rfl) ?_));refine WH.storeBN 13 rfl (by kernel_rfl) hS hgeS7 rfl rfl rfl ao hb7 (by simp) rfl fun ws17 hb7_ hcs17 hS => ?_;(try simp only [Sx.splice, qt] at hb7_);have hch := hch.s1 hcs17;have hb := hb.kq hcs17;have hb4 := hb4.kq hcs17;have hb5 := hb5.kq hcs17;have hNq := hNq.keepBK hb7 hcs17 an;have hNi := hNi.keepBK hb7 hcs17 an;have hRt := hRt.keepBK hb7 hcs17 an;have hRv := hRv.keepBK hb7 hcs17 an;have hb7 := hb7_;refine wh 14 rfl hS (fun _ _ => Ev.assign rfl) ?_;refine WH.done (by kernel_rfl) (kr18 _ _ _ ?_);refine kh17 (zc fun _ kh25 => ?_);refine CW.regionHC 12 rfl hmix fun kR26 kr26 hS hdr => ?_;have hch := hch.ta hdr;have hb := hb.keep0 hdr;have hb4 := hb4.k0 hdr;have hb5 := hb5.k0 hdr;have hb7 := hb7.k0 hdr;have hNq := hNq.keep0 hdr;have hNi := hNi.keep0 hdr;have hRt := hRt.keep0 hdr;have hRv := hRv.keep0 hdr;have hb_r := hb;have hb4_r := hb4;have hb5_r := hb5;have hb7_r := hb7;refine wh 0 rfl hS (fun _ hw' => Ev.loadA rfl rfl (hb4_r.keep0 hw') rfl) (wh 1 rfl hS (fun _ _ => Ev.move rfl) (wh 2 rfl hS (fun _ _ => Ev.nilPtr rfl) (wh 3 rfl hS (fun _ _ => Ev.fieldAddr rfl) (wh 4 rfl hS (fun _ hw' => Ev.loadB rfl rfl (hb_r.keep0 hw') rfl rfl) ?_))))
     try simp only [List.drop_succ_cons, List.drop_zero, List.take_succ_cons, List.take_zero]
     refine WH.all2 5 9 (by kernel_rfl) ?_ ?_
     ·refine WHat.call 5 rfl hasF132 rfl rfl (Mul_dspec _ _ _ _ _ _ _ _ _ hNi hNq (hg0.keep0 hch) (ok_i64 hokn) (ok_i64 hokQ)) fun v w13 h' => ?_;obtain ⟨hD, hC⟩ := h';rw [both_ok hokn hokQ] at hD;obtain ⟨rb, kb, rfl, hRb⟩ := hD.cells2;have hob := hRb.one;have hch := hch.ta hC;have hb := hb.keep0 hC;have hb5 := hb5.k0 hC;have hb7 := hb7.k0 hC;have hNq := hNq.keep0 hC;have hRt := hRt.keep0 hC;have hRv := hRv.keep0 hC;have hS := hS.trans hC;refine ⟨hS, ?_⟩;refine wh 6 rfl hS (fun _ _ => Ev.move rfl) (wh 7 rfl hS (fun _ _ => Ev.extract rfl rfl) (wh 8 rfl hS (fun _ _ => Ev.extract rfl rfl) ?_));refine WH.allocC (l := [.bool false, .slice none 0 0, .int .i64 0]) 9 rfl (by kernel_rfl) hS rfl rfl fun b9 wm9 hb9 hcm9 hge9 hS1 => ?_;have hgeS9 := Nat.le_trans hS.size hge9;have hS := hS1;have hgehch9 := Nat.le_trans hch.size hge9;have hch := hch.ta hcm9;have hNq := hNq.keep0 hcm9;have hRt := hRt.keep0 hcm9;have hRv := hRv.keep0 hcm9;have hRb := hRb.keep0 hcm9;have hneb9 : b ≠ b9 := by have := hb.lt; omega
      have hb := hb.keep0 hcm9;have hneb59 := zdd hb5.lt hge9;have hb5 := hb5.k0 hcm9;have hneb79 := zdd hb7.lt hge9;have hb7 := hb7.k0 hcm9;refine WH.storeBN 10 rfl (by kernel_rfl) hS hgeS9 rfl rfl rfl ao hb9 (by simp) rfl fun ws18 hb9_ hcs18 hS => ?_;(try simp only [Sx.splice, qt] at hb9_);have hch := hch.s1 hcs18;have hb := hb.kq hcs18;have hb5 := hb5.kq hcs18;have hb7 := hb7.kq hcs18;have hNq := hNq.keepBK hb9 hcs18 an;have hRt := hRt.keepBK hb9 hcs18 an;have hRv := hRv.keepBK hb9 hcs18 an;have hRb := hRb.keepBK hb9 hcs18 an;have hb9 := hb9_;refine wh 11 rfl hS (fun _ _ => Ev.assign rfl) ?_;refine WH.done (by kernel_rfl) (kr26 _ _ _ ?_);refine kh25 (zc fun _ kh27 => ?_);refine CW.regionHC 14 rfl hmix fun kR28 kr28 hS hdr => ?_;have hch := hch.ta hdr;have hb := hb.keep0 hdr;have hb5 := hb5.k0 hdr;have hb7 := hb7.k0 hdr;have hb9 := hb9.k0 hdr;have hNq := hNq.keep0 hdr;have hRt := hRt.keep0 hdr;have hRv := hRv.keep0 hdr;have hRb := hRb.keep0 hdr;have hb_r := hb;have hb5_r := hb5;have hb7_r := hb7;have hb9_r := hb9;refine wh 0 rfl hS (fun _ _ => Ev.move rfl) (wh 1 rfl hS (fun _ _ => Ev.nilPtr rfl) (wh 2 rfl hS (fun _ _ => Ev.fieldAddr rfl) (wh 3 rfl hS (fun _ hw' => Ev.loadB rfl rfl (hb_r.keep0 hw') rfl rfl) ?_)))
      try simp only [List.drop_succ_cons, List.drop_zero, List.take_succ_cons, List.take_zero]
      refine wh 4 rfl hS (fun _ hw' => Ev.loadA rfl rfl (hb5_r.keep0 hw') rfl) ?_;refine WH.oneCall 5 rfl (by kernel_rfl) hasF180 rfl rfl (dCmp_spec _ _ _ _ _ _ _ _ _ hNq hRt (le_mil hokQ) (le_mil (getD_ok fun d h => mulD_ok h)) (e_mil hokQ) (e_mil (getD_ok fun d h => mulD_ok h))) fun v w14 h' => ?_;obtain ⟨rfl, hC⟩ := h';rw [val_wd, val_wd];have hch := hch.ta hC;have hRv := hRv.keep0 hC;have hRb := hRb.keep0 hC;have hS := hS.trans hC;refine ⟨hS, ?_⟩
      by_cases hq97 : cmpY S.Q ((mulD (intD S.pln) topD).getD Dy.zero) < 0
      ·refine wh 6 rfl hS (fun _ _ => Ev.lss rfl rfl) ?_;rw [show decide (cmpD _ _ _ _ _ _ < 0) = true from decide_eq_true hq97];refine wh 7 rfl hS (fun _ _ => Ev.move rfl) ?_;refine WH.takeG 8 rfl (by kernel_rfl) (by kernel_rfl) (by kernel_rfl) rfl rfl rfl rfl hS (fun w' hw' => Ev.loadA rfl rfl (hb7_r.keep0 hw') rfl) rfl ?_;refine WH.takeG 9 rfl (by kernel_rfl) (by kernel_rfl) (by kernel_rfl) rfl rfl rfl rfl hS (fun w' hw' => Ev.loadA rfl rfl (hb9_r.keep0 hw') rfl) rfl ?_;refine WH.oneCallG 10 rfl (by kernel_rfl) rfl rfl rfl rfl hasF180 rfl rfl (dCmp_spec _ _ _ _ _ _ _ _ _ hRv hRb (le_mil (getD_ok fun d h => mulD_ok h)) (le_mil (getD_ok fun d h => mulD_ok h)) (e_mil (getD_ok fun d h => mulD_ok h)) (e_mil (getD_ok fun d h => mulD_ok h))) fun v w15 h' => ?_;obtain ⟨rfl, hC⟩ := h';rw [val_wd, val_wd];have hch := hch.ta hC;have hS := hS.trans hC;refine ⟨hS, ?_⟩;refine WH.takeG 11 rfl (by kernel_rfl) (by kernel_rfl) (by kernel_rfl) rfl rfl rfl rfl hS (fun w' hw' => Ev.leq rfl rfl) rfl ?_;refine wh 12 rfl hS (fun _ _ => Ev.pickT rfl rfl rfl) (wh 13 rfl hS (fun _ _ => Ev.assign rfl) ?_);refine WH.done (by kernel_rfl) (kr28 _ _ _ ?_);refine kh27 ?_;refine zr (zr1 rfl rfl ?_);refine ⟨congrArg Value.bool (decide_eq_decide.2 ?_), hch⟩;unfold sumsP;rw [if_neg h0];exact ⟨fun z => ⟨h1, hq97, z⟩, fun z => z.2.2⟩
      ·refine wh 6 rfl hS (fun _ _ => Ev.lss rfl rfl) ?_;rw [show decide (cmpD _ _ _ _ _ _ < 0) = false from decide_eq_false hq97];refine wh 7 rfl hS (fun _ _ => Ev.move rfl) ?_;refine WH.passG 8 rfl (by kernel_rfl) (by kernel_rfl) (by kernel_rfl) rfl rfl rfl rfl hS rfl ?_;refine WH.passG 9 rfl (by kernel_rfl) (by kernel_rfl) (by kernel_rfl) rfl rfl rfl rfl hS rfl ?_;refine WH.passG1 10 rfl (by kernel_rfl) rfl rfl rfl rfl hS rfl ?_;refine WH.passG 11 rfl (by kernel_rfl) (by kernel_rfl) (by kernel_rfl) rfl rfl rfl rfl hS rfl ?_;refine wh 12 rfl hS (fun _ _ => Ev.pickF rfl rfl rfl) (wh 13 rfl hS (fun _ _ => Ev.assign rfl) ?_);refine WH.done (by kernel_rfl) (kr28 _ _ _ ?_);refine kh27 ?_;refine zr (zr1 rfl rfl ?_);refine ⟨congrArg Value.bool (decide_eq_false fun z => ?_).symm, hch⟩;unfold sumsP at z;rw [if_neg h0] at z;exact hq97 z.2.1
     ·refine WHat.allocC (l := [.bool false, .slice none 0 0, .int .i64 0]) 9 rfl hS rfl rfl fun b9 wm9 hb9 hcm9 hge9 hS1 => ?_;have hgeS9 := Nat.le_trans hS.size hge9;have hS := hS1;have hgehch9 := Nat.le_trans hch.size hge9;have hch := hch.ta hcm9;have hNq := hNq.keep0 hcm9;have hNi := hNi.keep0 hcm9;have hRt := hRt.keep0 hcm9;have hRv := hRv.keep0 hcm9;have hneb9 : b ≠ b9 := by have := hb.lt; omega
      have hb := hb.keep0 hcm9;have hneb59 := zdd hb5.lt hge9;have hb5 := hb5.k0 hcm9;have hneb79 := zdd hb7.lt hge9;have hb7 := hb7.k0 hcm9;refine WH.oneCall 5 rfl (by kernel_rfl) hasF132 rfl rfl (Mul_dspec _ _ _ _ _ _ _ _ _ hNi hNq (hg0.keep0 hch) (ok_i64 hokn) (ok_i64 hokQ)) fun v w16 h' => ?_;obtain ⟨hD, hC⟩ := h';rw [both_ok hokn hokQ] at hD;obtain ⟨rb, kb, rfl, hRb⟩ := hD.cells2;have hob := hRb.one;have hch := hch.ta hC;have hb := hb.keep0 hC;have hb5 := hb5.k0 hC;have hb7 := hb7.k0 hC;have hb9 := hb9.k0 hC;have hNq := hNq.keep0 hC;have hRt := hRt.keep0 hC;have hRv := hRv.keep0 hC;have hS := hS.trans hC;refine ⟨hS, ?_⟩;refine wh 6 rfl hS (fun _ _ => Ev.move rfl) (wh 7 rfl hS (fun _ _ => Ev.extract rfl rfl) (wh 8 rfl hS (fun _ _ => Ev.extract rfl rfl) ?_));refine WH.storeBN 10 rfl (by kernel_rfl) hS hgeS9 rfl rfl rfl ao hb9 (by simp) rfl fun ws19 hb9_ hcs19 hS => ?_;(try simp only [Sx.splice, qt] at hb9_);have hch := hch.s1 hcs19;have hb := hb.kq hcs19;have hb5 := hb5.kq hcs19;have hb7 := hb7.kq hcs19;have hNq := hNq.keepBK hb9 hcs19 an;have hRt := hRt.keepBK hb9 hcs19 an;have hRv := hRv.keepBK hb9 hcs19 an;have hRb := hRb.keepBK hb9 hcs19 an;have hb9 := hb9_;refine wh 11 rfl hS (fun _ _ => Ev.assign rfl) ?_;refine WH.done (by kernel_rfl) (kr26 _ _ _ ?_);refine kh25 (zc fun _ kh29 => ?_);refine CW.regionHC 14 rfl hmix fun kR30 kr30 hS hdr => ?_;have hch := hch.ta hdr;have hb := hb.keep0 hdr;have hb5 := hb5.k0 hdr;have hb7 := hb7.k0 hdr;have hb9 := hb9.k0 hdr;have hNq := hNq.keep0 hdr;have hRt := hRt.keep0 hdr;have hRv := hRv.keep0 hdr;have hRb := hRb.keep0 hdr;have hb_r := hb;have hb5_r := hb5;have hb7_r := hb7;have hb9_r := hb9;refine wh 0 rfl hS (fun _ _ => Ev.move rfl) (wh 1 rfl hS (fun _ _ => Ev.nilPtr rfl) (wh 2 rfl hS (fun _ _ => Ev.fieldAddr rfl) (wh 3 rfl hS (fun _ hw' => Ev.loadB rfl rfl (hb_r.keep0 hw') rfl rfl) ?_)))
      try simp only [List.drop_succ_cons, List.drop_zero, List.take_succ_cons, List.take_zero]
      refine wh 4 rfl hS (fun _ hw' => Ev.loadA rfl rfl (hb5_r.keep0 hw') rfl) ?_;refine WH.oneCall 5 rfl (by kernel_rfl) hasF180 rfl rfl (dCmp_spec _ _ _ _ _ _ _ _ _ hNq hRt (le_mil hokQ) (le_mil (getD_ok fun d h => mulD_ok h)) (e_mil hokQ) (e_mil (getD_ok fun d h => mulD_ok h))) fun v w17 h' => ?_;obtain ⟨rfl, hC⟩ := h';rw [val_wd, val_wd];have hch := hch.ta hC;have hRv := hRv.keep0 hC;have hRb := hRb.keep0 hC;have hS := hS.trans hC;refine ⟨hS, ?_⟩
      by_cases hq97 : cmpY S.Q ((mulD (intD S.pln) topD).getD Dy.zero) < 0
      ·refine wh 6 rfl hS (fun _ _ => Ev.lss rfl rfl) ?_;rw [show decide (cmpD _ _ _ _ _ _ < 0) = true from decide_eq_true hq97];refine wh 7 rfl hS (fun _ _ => Ev.move rfl) ?_;refine WH.takeG 8 rfl (by kernel_rfl) (by kernel_rfl) (by kernel_rfl) rfl rfl rfl rfl hS (fun w' hw' => Ev.loadA rfl rfl (hb7_r.keep0 hw') rfl) rfl ?_;refine WH.takeG 9 rfl (by kernel_rfl) (by kernel_rfl) (by kernel_rfl) rfl rfl rfl rfl hS (fun w' hw' => Ev.loadA rfl rfl (hb9_r.keep0 hw') rfl) rfl ?_;refine WH.oneCallG 10 rfl (by kernel_rfl) rfl rfl rfl rfl hasF180 rfl rfl (dCmp_spec _ _ _ _ _ _ _ _ _ hRv hRb (le_mil (getD_ok fun d h => mulD_ok h)) (le_mil (getD_ok fun d h => mulD_ok h)) (e_mil (getD_ok fun d h => mulD_ok h)) (e_mil (getD_ok fun d h => mulD_ok h))) fun v w18 h' => ?_;obtain ⟨rfl, hC⟩ := h';rw [val_wd, val_wd];have hch := hch.ta hC;have hS := hS.trans hC;refine ⟨hS, ?_⟩;refine WH.takeG 11 rfl (by kernel_rfl) (by kernel_rfl) (by kernel_rfl) rfl rfl rfl rfl hS (fun w' hw' => Ev.leq rfl rfl) rfl ?_;refine wh 12 rfl hS (fun _ _ => Ev.pickT rfl rfl rfl) (wh 13 rfl hS (fun _ _ => Ev.assign rfl) ?_);refine WH.done (by kernel_rfl) (kr30 _ _ _ ?_);refine kh29 ?_;refine zr (zr1 rfl rfl ?_);refine ⟨congrArg Value.bool (decide_eq_decide.2 ?_), hch⟩;unfold sumsP;rw [if_neg h0];exact ⟨fun z => ⟨h1, hq97, z⟩, fun z => z.2.2⟩
      ·refine wh 6 rfl hS (fun _ _ => Ev.lss rfl rfl) ?_;rw [show decide (cmpD _ _ _ _ _ _ < 0) = false from decide_eq_false hq97];refine wh 7 rfl hS (fun _ _ => Ev.move rfl) ?_;refine WH.passG 8 rfl (by kernel_rfl) (by kernel_rfl) (by kernel_rfl) rfl rfl rfl rfl hS rfl ?_;refine WH.passG 9 rfl (by kernel_rfl) (by kernel_rfl) (by kernel_rfl) rfl rfl rfl rfl hS rfl ?_;refine WH.passG1 10 rfl (by kernel_rfl) rfl rfl rfl rfl hS rfl ?_;refine WH.passG 11 rfl (by kernel_rfl) (by kernel_rfl) (by kernel_rfl) rfl rfl rfl rfl hS rfl ?_;refine wh 12 rfl hS (fun _ _ => Ev.pickF rfl rfl rfl) (wh 13 rfl hS (fun _ _ => Ev.assign rfl) ?_);refine WH.done (by kernel_rfl) (kr30 _ _ _ ?_);refine kh29 ?_;refine zr (zr1 rfl rfl ?_);refine ⟨congrArg Value.bool (decide_eq_false fun z => ?_).symm, hch⟩;unfold sumsP at z;rw [if_neg h0] at z;exact hq97 z.2.1

end

/- A shard that is read: what it is. No condition. -/
section
open Go Sx Wd Fl

/-- Counts that are read: they, where it stands then, whether something was wrong. -/
def rdK (bs : List Nat) : Nat → List Nat × Nat × Bool
  | 0 => ([], 0, false)
  | n + 1 => ((rdK bs n).1 ++ [(rdC bs (rdK bs n).2.1 (rdK bs n).2.2).1], (rdC bs (rdK bs n).2.1 (rdK bs n).2.2).2)
theorem rdK_len (bs : List Nat) (n : Nat) : (rdK bs n).1.length = n := by
  induction n with
  | zero => rfl
  | succ n ih => rw [rdK]; simp [ih]
theorem rdC_le (bs : List Nat) (p : Nat) (bad : Bool) : (rdC bs p bad).1 ≤ 1099511627776 := by
  unfold rdC; split
  · exact Nat.zero_le _
  · omega
theorem rdK_le (bs : List Nat) (n : Nat) : ∀ x ∈ (rdK bs n).1, x ≤ 1099511627776 := by
  induction n with
  | zero => intro x hx; cases hx
  | succ n ih =>
    rw [rdK]
    intro x hx
    rcases List.mem_append.1 hx with hx | hx
    · exact ih x hx
    · rw [List.mem_singleton.1 hx]; exact rdC_le ..
/-- The ends, if there are some. -/
def rdE (sm : Bool) (bs : List Nat) (p : Nat) (bad : Bool) : Nat × Nat × Nat × Bool := if sm = true then ((rdN bs p bad 8).1, (rdN bs (rdN bs p bad 8).2.1 (rdN bs p bad 8).2.2 8).1, (rdN bs (rdN bs p bad 8).2.1 (rdN bs p bad 8).2.2 8).2) else (0, 0, p, bad)
def spOf (l : List Nat) : SP := ⟨l.getD 0 0, l.getD 1 0, l.getD 2 0, l.getD 3 0, l.getD 4 0, l.getD 5 0⟩
def shOf (s : SP) (v q : Bool × List Nat × Int × Nat × Bool) (lo hi : Nat) : Sh := ⟨s, ⟨v.1, val v.2.1, v.2.2.1⟩, ⟨q.1, val q.2.1, q.2.2.1⟩, lo, hi⟩
def decE (bs : List Nat) (s : SP) (v q : Bool × List Nat × Int × Nat × Bool) (e : Nat × Nat × Nat × Bool) : Option Sh :=
  if e.2.2.2 = true ∨ 0 < bs.length - e.2.2.1 ∨ ¬ sumsP (shOf s v q e.1 e.2.1) ∨ ((shOf s v q e.1 e.2.1).some ∧ ¬ endsP (shOf s v q e.1 e.2.1)) then none else some (shOf s v q e.1 e.2.1)
def decV (bs : List Nat) (s : SP) (v q : Bool × List Nat × Int × Nat × Bool) : Option Sh := decE bs s v q (rdE (decide (s.na < s.al)) bs q.2.2.2.1 q.2.2.2.2)
def decD (bs : List Nat) (s : SP) (v : Bool × List Nat × Int × Nat × Bool) : Option Sh := decV bs s v (rdD bs v.2.2.2.1 v.2.2.2.2)
/-- The shard that bytes are, or none. -/
def decS (bs : List Nat) : Option Sh :=
  if (rdK bs 6).2.2 = true ∨ (Sh.mk (spOf (rdK bs 6).1) Dy.zero Dy.zero 0 0).fin < ((spOf (rdK bs 6).1).mi : Int) + (spOf (rdK bs 6).1).pl then none else decD bs (spOf (rdK bs 6).1) (rdD bs (rdK bs 6).2.1 (rdK bs 6).2.2)
theorem rdN_bad (bs : List Nat) (p k : Nat) : rdN bs p true k = (0, p, true) := if_pos (.inl rfl)
theorem rdD_bad (bs : List Nat) (p : Nat) : (rdD bs p true).2.2.2.2 = true := by
  unfold rdD; simp [rdN_bad, rdW]
theorem rdD_mono {bs : List Nat} {p : Nat} {bad : Bool} {x : Bool × List Nat × Int × Nat × Bool} (h : rdD bs p bad = x) (hx : x.2.2.2.2 = false) : bad = false := by
  cases bad with
  | false => rfl
  | true => have := rdD_bad bs p; rw [h, hx] at this; cases this
theorem rdE_mono {sm : Bool} {bs : List Nat} {p : Nat} {bad : Bool} {x : Nat × Nat × Nat × Bool} (h : rdE sm bs p bad = x) (hx : x.2.2.2 = false) : bad = false := by
  cases bad with
  | false => rfl
  | true =>
    subst h
    unfold rdE at hx
    split at hx
    · simp [rdN_bad] at hx
    · cases hx
theorem val_mod (x : Nat) (l : List Nat) : val (x :: l) % 2 = x % 2 := by rw [val]; omega
theorem rdD_ok {bs : List Nat} (hB : B8 bs) {p : Nat} {bad : Bool} (h : (rdD bs p bad).2.2.2.2 = false) : wd (val (rdD bs p bad).2.1) = (rdD bs p bad).2.1 ∧ (Dy.mk (rdD bs p bad).1 (val (rdD bs p bad).2.1) (rdD bs p bad).2.2.1).ok := by
  have g1 := rdN_ltk hB p bad 1
  unfold rdD at h ⊢
  generalize rdN bs p bad 1 = R1 at *
  obtain ⟨n1, p1, d1⟩ := R1
  dsimp only at *
  have g2 := rdN_ltk hB p1 d1 2
  generalize rdN bs p1 d1 2 = R2 at *
  obtain ⟨n2, p2, d2⟩ := R2
  dsimp only at *
  generalize rdN bs p2 d2 2 = R3 at *
  obtain ⟨n3, p3, d3⟩ := R3
  dsimp only at *
  by_cases hq : 1 < n1 ∨ 160 < n3
  · rw [if_pos hq] at h; cases h
  · rw [if_neg hq] at h ⊢
    have hl := rdW_len bs p3 d3 n3
    have hW := rdW_W hB p3 d3 n3
    generalize rdW bs p3 d3 n3 = RW at *
    obtain ⟨ws, q, bd⟩ := RW
    dsimp only at *
    by_cases h0 : n3 = 0
    · rw [if_pos h0] at h
      have h9 := of_decide_eq_false h
      have hws : ws = [] := List.length_eq_zero_iff.1 (by omega)
      subst hws
      have e1 : decide ((n1 : Int) = 1) = false := decide_eq_false fun z => h9 (.inr (.inl z))
      have e2 : (n2 : Int) - 4096 = 0 := Classical.byContradiction fun z => h9 (.inr (.inr z))
      rw [e1, e2]
      exact ⟨wd_zero, ok_zero⟩
    · rw [if_neg h0] at h
      have h := of_decide_eq_false h
      have hlast : ws.getD (ws.length - 1) 0 ≠ 0 := by rw [hl]; exact fun z => h (.inr (.inr z))
      have hwd := wd_of_last hW (.inr hlast)
      have hodd : val ws % 2 = 1 := by
        cases ws with
        | nil => simp at hl; omega
        | cons x l => rw [val_mod]; have : ¬ x % 2 = 0 := fun z => h (.inr (.inl (by simpa using z))); omega
      refine ⟨hwd, fun z => ?_, fun _ => hodd, ?_, ?_⟩
      · simp only at z; rw [z] at hodd; cases hodd
      · simp only [hwd]; omega
      · simp only; have : (256 : Nat) ^ 2 = 65536 := by decide
        omega
/-- The cells of a shard while its counts are read. -/
def cells14 (l : List Nat) : List Value := [.int .i64 (l.getD 0 0 : Nat), .int .i64 (l.getD 1 0 : Nat), .int .i64 (l.getD 2 0 : Nat), .int .i64 (l.getD 3 0 : Nat), .int .i64 (l.getD 4 0 : Nat), .int .i64 (l.getD 5 0 : Nat), .bool false, .slice none 0 0, .int .i64 0, .bool false, .slice none 0 0, .int .i64 0, .float .f64 0, .float .f64 0]
theorem cells14_set {l : List Nat} {i x : Nat} (hl : l.length = i) (hi : i < 6) : (cells14 l).set i (.int .i64 (x : Int)) = cells14 (l ++ [x]) := by
  subst hl
  rcases l with _ | ⟨a, _ | ⟨b, _ | ⟨c, _ | ⟨d, _ | ⟨e, _ | ⟨f, l⟩⟩⟩⟩⟩⟩
  · rfl
  · rfl
  · rfl
  · rfl
  · rfl
  · rfl
  · simp at hi; omega
theorem ptr6 {b i : Nat} (hi : i < 6) : [Value.pointer (some ⟨b, 0, none⟩), .pointer (some ⟨b, 1, none⟩), .pointer (some ⟨b, 2, none⟩), .pointer (some ⟨b, 3, none⟩), .pointer (some ⟨b, 4, none⟩), .pointer (some ⟨b, 5, none⟩)][i]? = some (.pointer (some ⟨b, i, none⟩)) := by
  match i, hi with
  | 0, _ => rfl
  | 1, _ => rfl
  | 2, _ => rfl
  | 3, _ => rfl
  | 4, _ => rfl
  | 5, _ => rfl
theorem list6 {l : List Nat} (h : l.length = 6) : ∃ a b c d e f, l = [a, b, c, d, e, f] := by
  rcases l with _ | ⟨a, _ | ⟨b, _ | ⟨c, _ | ⟨d, _ | ⟨e, _ | ⟨f, _ | ⟨g, l⟩⟩⟩⟩⟩⟩⟩
  · cases h
  · cases h
  · cases h
  · cases h
  · cases h
  · cases h
  · exact ⟨a, b, c, d, e, f, rfl⟩
  · simp at h
theorem NU.keepTp {w w' : World} {v : Value} {l : List Nat} {lo bt p : Nat} {bs : List Nat} {bad : Bool} (h : NU w v l) (hT : TpM lo w bt bs p bad) (hc : Chg [bt] w w') : NU w' v l := by
  obtain ⟨a, c, hb, _⟩ := hT
  exact h.keepBK hb hc (by intro v hv; simp only [List.mem_cons, List.not_mem_nil, or_false] at hv; rcases hv with rfl | rfl <;> rfl)
structure KDc (b10 b12 b37 : Nat) (bs : List Nat) (w0 : World) (i : Nat) (w : World) : Prop where
  hi : i ≤ 6
  t : TpM (b10 + 1) w b10 bs (rdK bs i).2.1 (rdK bs i).2.2
  h12 : BK w b12 109 (cells14 (rdK bs i).1)
  h37 : BK w b37 146 [.pointer (some ⟨b12, 0, none⟩), .pointer (some ⟨b12, 1, none⟩), .pointer (some ⟨b12, 2, none⟩), .pointer (some ⟨b12, 3, none⟩), .pointer (some ⟨b12, 4, none⟩), .pointer (some ⟨b12, 5, none⟩)]
  ch : Chg [] w0 w

theorem someB_spec (b : Nat) (s : SP) (v6 v7 v8 v9 v10 v11 v12 v13 : Value) (w : World) (hb : BK w b 109 [.int .i64 (s.na : Int), .int .i64 (s.up : Int), .int .i64 (s.dn : Int), .int .i64 (s.mi : Int), .int .i64 (s.pl : Int), .int .i64 (s.al : Int), v6, v7, v8, v9, v10, v11, v12, v13]) (hle : s.le 1099511627776) : Ret Tryz.prog 64 [.pointer (some ⟨b, 0, none⟩)] w fun u w' => u = .bool (decide (s.na < s.al)) ∧ Chg [] w w' := by
 obtain ⟨hs1, hs2, hs3, hs4, hs5, hs6⟩ := hle;have hch : Chg [] w w := Chg.refl _ _;refine zE1 Tryz.func64 rfl ?_;refine Sr fun _ kh1 => za rfl (zz (kh1 (zc fun _ kh3 => ?_)));refine CW.regionSC hmix (by kernel_rfl) fun kR4 kr4 hdr => ?_;have hch := hch.ta hdr;have hb := hb.keep0 hdr;refine ym rfl ?_;refine WS.ev (Ev.nilPtr rfl) rfl ?_;refine WS.ev (Ev.fieldAddr rfl) rfl ?_;refine WS.ev (Ev.fieldAddr rfl) rfl ?_;refine WS.ev (Ev.load rfl rfl (hb.at_ rfl)) rfl ?_;refine ym rfl ?_;refine WS.ev (Ev.nilPtr rfl) rfl ?_;refine WS.ev (Ev.fieldAddr rfl) rfl ?_;refine WS.ev (Ev.fieldAddr rfl) rfl ?_;refine WS.ev (Ev.load rfl rfl (hb.at_ rfl)) rfl ?_;refine WS.ev (Ev.gtr rfl rfl) rfl ?_;refine ya rfl ?_;refine WS.nil (kr4 _ _ ?_);refine kh3 ?_;refine zr (zr1 rfl rfl ?_);refine ⟨congrArg Value.bool (decide_eq_decide.2 ?_), hch⟩;omega

end

/- A shard's bytes, read again, are the shard. No condition. -/
section
open Go Sx Wd Fl

theorem leV_leB (n k : Nat) : leV (leB n k) = n % 256 ^ k := by
  induction k with
  | zero => rw [leB_zero, Nat.pow_zero, Nat.mod_one]; rfl
  | succ k ih =>
    rw [leB_succ, leV_snoc, leB_len, ih, Nat.pow_succ, Nat.mod_mul, Nat.mul_comm]
theorem leB_B8 (n k : Nat) : B8 (leB n k) := fun x hx => by
  unfold leB at hx
  obtain ⟨i, _, rfl⟩ := List.mem_map.1 hx
  exact Nat.mod_lt _ (by decide)
theorem B8.append {a b : List Nat} (ha : B8 a) (hb : B8 b) : B8 (a ++ b) := fun x hx => by
  rcases List.mem_append.1 hx with h | h
  · exact ha x h
  · exact hb x h
theorem B8.flat {α : Type} {l : List α} {f : α → List Nat} (h : ∀ x, B8 (f x)) : B8 (l.map f).flatten := fun x hx => by
  obtain ⟨m, hm, hx⟩ := List.mem_flatten.1 hx
  obtain ⟨a, _, rfl⟩ := List.mem_map.1 hm
  exact h a x hx
/-- From p on the bytes read r. -/
def AtB (bs : List Nat) (p : Nat) (r : List Nat) : Prop := p ≤ bs.length ∧ bs.drop p = r
theorem AtB.step {bs : List Nat} {p : Nat} {a r : List Nat} (h : AtB bs p (a ++ r)) {k : Nat} (hk : a.length = k) : AtB bs (p + k) r := by
  obtain ⟨h1, h2⟩ := h
  have hl : bs.length - p = a.length + r.length := by rw [← List.length_drop, h2, List.length_append]
  refine ⟨by omega, ?_⟩
  rw [← List.drop_drop, h2, ← hk, List.drop_left]
theorem rdN_s {bs : List Nat} {p n k : Nat} {r : List Nat} (h : AtB bs p (leB n k ++ r)) (hn : n < 256 ^ k) : rdN bs p false k = (n, p + k, false) ∧ AtB bs (p + k) r := by
  refine ⟨?_, h.step (leB_len n k)⟩
  obtain ⟨h1, h2⟩ := h
  have hl : bs.length - p = k + r.length := by rw [← List.length_drop, h2, List.length_append, leB_len]
  unfold rdN
  rw [if_neg (by simp; omega), h2, List.take_left' (leB_len n k), leV_leB, Nat.mod_eq_of_lt hn]
theorem rdC_s {bs : List Nat} {p n : Nat} {r : List Nat} (h : AtB bs p (leB n 8 ++ r)) (hn : n ≤ 1099511627776) : rdC bs p false = (n, p + 8, false) ∧ AtB bs (p + 8) r := by
  obtain ⟨h1, h2⟩ := rdN_s h (Nat.lt_of_le_of_lt hn (by decide))
  refine ⟨?_, h2⟩
  unfold rdC
  rw [h1, if_neg (by simp only; omega)]
theorem rdW_s {bs : List Nat} {p : Nat} {ws r : List Nat} (h : AtB bs p ((ws.map fun x => leB x 4).flatten ++ r)) (hW : W ws) : ∀ n, n ≤ ws.length → rdW bs p false n = (ws.take n, p + 4 * n, false) ∧ AtB bs (p + 4 * n) (((ws.drop n).map fun x => leB x 4).flatten ++ r) := by
  intro n
  induction n with
  | zero => intro _; exact ⟨by simp [rdW], by simpa using h⟩
  | succ n ih =>
    intro hn
    obtain ⟨h1, h2⟩ := ih (by omega)
    have hd : ws.drop n = ws.getD n 0 :: ws.drop (n + 1) := by
      rw [List.drop_eq_getElem_cons (by omega : n < ws.length), List.getD_eq_getElem?_getD, List.getElem?_eq_getElem (by omega)]; rfl
    rw [hd, List.map_cons, List.flatten_cons, List.append_assoc] at h2
    obtain ⟨h3, h4⟩ := rdN_s h2 (Nat.lt_of_lt_of_le (hW.getD n) (by decide))
    rw [show p + 4 * (n + 1) = p + 4 * n + 4 by omega]
    refine ⟨?_, h4⟩
    rw [rdW, h1]
    simp only [h3]
    rw [take_step (by omega)]
theorem wd_head {n : Nat} (h : n ≠ 0) : (wd n).getD 0 0 % 2 = n % 2 := by rw [wd_pos h]; simp
theorem wd_last {n : Nat} (h : n ≠ 0) : (wd n).getD ((wd n).length - 1) 0 ≠ 0 := by
  induction n using Nat.strongRecOn with
  | _ n ih =>
    rw [wd_pos h]
    by_cases h2 : n / 4294967296 = 0
    · rw [h2, wd_zero]; simp; omega
    · have h3 := ih _ (by omega) h2
      have h4 : 0 < (wd (n / 4294967296)).length := by rw [wd_pos h2]; simp
      rw [List.length_cons, show (wd (n / 4294967296)).length + 1 - 1 = ((wd (n / 4294967296)).length - 1) + 1 by omega]
      simpa using h3
theorem rdD_s {bs : List Nat} {p : Nat} {d : Dy} {r : List Nat} (h : AtB bs p (encD d ++ r)) (hok : d.ok) (he : -4096 ≤ d.e ∧ d.e ≤ 61439) (hl : (wd d.m).length ≤ 160) : rdD bs p false = (d.neg, wd d.m, d.e, p + (encD d).length, false) ∧ AtB bs (p + (encD d).length) r := by
  refine ⟨?_, h.step rfl⟩
  unfold encD at h
  simp only [List.append_assoc] at h
  obtain ⟨a1, h⟩ := rdN_s h (by split <;> decide)
  obtain ⟨a2, h⟩ := rdN_s h (by show (d.e + 4096).toNat < 65536; omega)
  obtain ⟨a3, h⟩ := rdN_s h (by show (wd d.m).length < 65536; omega)
  obtain ⟨a4, h⟩ := rdW_s h (W_wd _) _ (Nat.le_refl _)
  rw [List.take_length] at a4
  unfold rdD
  rw [a1]; dsimp only
  rw [a2]; dsimp only
  rw [a3]; dsimp only
  rw [if_neg (by split <;> omega), a4]; dsimp only
  have e1 : decide (((if d.neg = true then 1 else 0 : Nat) : Int) = 1) = d.neg := by cases d.neg <;> rfl
  have e2 : (((d.e + 4096).toNat : Nat) : Int) - 4096 = d.e := by omega
  rw [e1, e2, encD_len, show p + 1 + 2 + 2 + 4 * (wd d.m).length = p + (5 + 4 * (wd d.m).length) by omega]
  by_cases h0 : d.m = 0
  · have hz := hok.z h0
    rw [if_pos (by rw [wd_zero_iff]; exact h0)]
    have : d.neg = false ∧ d.e = 0 := by rw [hz]; exact ⟨rfl, rfl⟩
    rw [this.1, this.2]; simp
  · rw [if_neg (fun q => h0 (wd_zero_iff.1 q))]
    have h1 := hok.odd h0
    have h2 := wd_head h0
    have h3 := wd_last h0
    rw [decide_eq_false (by rintro (q | q | q); cases q; omega; exact h3 q)]
theorem rdK_s {bs : List Nat} {a b c d e f : Nat} {r : List Nat} (h : AtB bs 0 (leB a 8 ++ (leB b 8 ++ (leB c 8 ++ (leB d 8 ++ (leB e 8 ++ (leB f 8 ++ r)))))))
    (ha : a ≤ 1099511627776) (hb : b ≤ 1099511627776) (hc : c ≤ 1099511627776) (hd : d ≤ 1099511627776) (he : e ≤ 1099511627776) (hf : f ≤ 1099511627776) : rdK bs 6 = ([a, b, c, d, e, f], 48, false) ∧ AtB bs 48 r := by
  obtain ⟨a1, h⟩ := rdC_s h ha
  obtain ⟨a2, h⟩ := rdC_s h hb
  obtain ⟨a3, h⟩ := rdC_s h hc
  obtain ⟨a4, h⟩ := rdC_s h hd
  obtain ⟨a5, h⟩ := rdC_s h he
  obtain ⟨a6, h⟩ := rdC_s h hf
  simp only [Nat.zero_add, Nat.reduceAdd] at a1 a2 a3 a4 a5 a6 h
  refine ⟨?_, h⟩
  simp only [rdK, a1, a2, a3, a4, a5, a6]
  rfl
/-- What a shard must be like, to be read again. -/
structure Sh.back (S : Sh) : Prop where
  wf : S.wf
  ex : S.ex
  no : ¬ S.some → S.lo = 0 ∧ S.hi = 0
  fin : (S.s.mi : Int) + S.s.pl ≤ S.fin
  sums : sumsP S
  ends : S.some → endsP S
theorem decS_encS {S : Sh} (h : S.back) : decS (encS S) = some S := by
  obtain ⟨⟨⟨s1, s2, s3, s4, s5, s6⟩, hV, hQ, hlo, hhi⟩, hex, hno, hfin, hsums, hends⟩ := h
  have h0 : AtB (encS S) 0 (encS S) := ⟨Nat.zero_le _, rfl⟩
  have h1 : AtB (encS S) 0 (leB S.s.na 8 ++ (leB S.s.up 8 ++ (leB S.s.dn 8 ++ (leB S.s.mi 8 ++ (leB S.s.pl 8 ++ (leB S.s.al 8 ++ (encD S.V ++ (encD S.Q ++ ((if S.some then leB S.lo 8 ++ leB S.hi 8 else []) ++ []))))))))) := by
    refine ⟨Nat.zero_le _, ?_⟩
    unfold encS
    simp only [List.append_assoc, List.drop_zero, List.append_nil]
  obtain ⟨k1, h2⟩ := rdK_s h1 s1 s2 s3 s4 s5 s6
  obtain ⟨d1, h3⟩ := rdD_s h2 hV hex.v hex.lv
  obtain ⟨d2, h4⟩ := rdD_s h3 hQ hex.q hex.lq
  have hsp : spOf [S.s.na, S.s.up, S.s.dn, S.s.mi, S.s.pl, S.s.al] = S.s := rfl
  unfold decS
  rw [k1]
  simp only [hsp]
  rw [if_neg (by rintro (q | q); cases q; exact absurd q (by have : (Sh.mk S.s Dy.zero Dy.zero 0 0).fin = S.fin := rfl; rw [this]; omega)), d1]
  unfold decD
  simp only [d2]
  unfold decV
  simp only
  have hsh : shOf S.s (S.V.neg, wd S.V.m, S.V.e, 48 + (encD S.V).length, false) (S.Q.neg, wd S.Q.m, S.Q.e, 48 + (encD S.V).length + (encD S.Q).length, false) S.lo S.hi = S := by
    unfold shOf
    simp only [val_wd]
  by_cases hs : S.some
  · rw [if_pos hs, List.append_assoc] at h4
    obtain ⟨e1, h5⟩ := rdN_s h4 hlo
    obtain ⟨e2, h6⟩ := rdN_s h5 hhi
    have hE : rdE (decide (S.s.na < S.s.al)) (encS S) (48 + (encD S.V).length + (encD S.Q).length) false = (S.lo, S.hi, 48 + (encD S.V).length + (encD S.Q).length + 8 + 8, false) := by
      unfold rdE
      rw [if_pos (show decide (S.s.na < S.s.al) = true from decide_eq_true hs), e1]; dsimp only
      rw [e2]
    rw [hE]
    unfold decE
    simp only [hsh]
    have hlen : (encS S).length - (48 + (encD S.V).length + (encD S.Q).length + 8 + 8) = 0 := by rw [← List.length_drop, h6.2]; rfl
    rw [if_neg]
    rintro (q | q | q | q)
    · cases q
    · rw [hlen] at q; omega
    · exact q hsums
    · exact q.2 (hends hs)
  · rw [if_neg hs] at h4
    have hE : rdE (decide (S.s.na < S.s.al)) (encS S) (48 + (encD S.V).length + (encD S.Q).length) false = (S.lo, S.hi, 48 + (encD S.V).length + (encD S.Q).length, false) := by
      unfold rdE
      rw [if_neg (by simpa [Sh.some] using hs), (hno hs).1, (hno hs).2]
    rw [hE]
    unfold decE
    simp only [hsh]
    have hlen : (encS S).length - (48 + (encD S.V).length + (encD S.Q).length) = 0 := by rw [← List.length_drop, h4.2]; rfl
    rw [if_neg]
    rintro (q | q | q | q)
    · cases q
    · rw [hlen] at q; omega
    · exact q hsums
    · exact hs q.1
theorem encS_B8 (S : Sh) : B8 (encS S) := by
  unfold encS encD
  refine ((((((((leB_B8 _ _).append (leB_B8 _ _)).append (leB_B8 _ _)).append (leB_B8 _ _)).append (leB_B8 _ _)).append (leB_B8 _ _)).append ?_).append ?_).append ?_
  · exact (((leB_B8 _ _).append (leB_B8 _ _)).append (leB_B8 _ _)).append (B8.flat fun x => leB_B8 x 4)
  · exact (((leB_B8 _ _).append (leB_B8 _ _)).append (leB_B8 _ _)).append (B8.flat fun x => leB_B8 x 4)
  · split
    · exact (leB_B8 _ _).append (leB_B8 _ _)
    · intro x hx; cases hx
end

/- Store: sizes, sums, records as bytes. No condition. -/
section
open Go Sx Wd Fl

/-- The sum of bytes. -/
def fnv (l : List Nat) : Nat := l.foldl (fun h c => (h ^^^ c) * 16777619 % 4294967296) 2166136261
theorem fnv_snoc (l : List Nat) (c : Nat) : fnv (l ++ [c]) = (fnv l ^^^ c) * 16777619 % 4294967296 := by
  unfold fnv; rw [List.foldl_append, List.foldl_cons, List.foldl_nil]
theorem fnv_lt (l : List Nat) : fnv l < 4294967296 := by
  rcases List.eq_nil_or_concat l with rfl | ⟨m, c, rfl⟩
  · show (2166136261 : Nat) < 4294967296; omega
  · rw [List.concat_eq_append, fnv_snoc]; exact Nat.mod_lt _ (by decide)
theorem fnv_take {l : List Nat} {i : Nat} (h : i < l.length) : fnv (l.take (i + 1)) = (fnv (l.take i) ^^^ l.getD i 0) * 16777619 % 4294967296 := by
  rw [take_step h, fnv_snoc]
/-- A record's bytes, without the sum; with it. -/
def recB (nm data : List Nat) : List Nat := ([nm.length % 256] ++ nm) ++ leB data.length 3 ++ data
def laidB (nm data : List Nat) : List Nat := recB nm data ++ leB (fnv (recB nm data)) 4
theorem recB_len (nm data : List Nat) : (recB nm data).length = 4 + nm.length + data.length := by
  unfold recB; simp only [List.length_append, leB_len, List.length_cons, List.length_nil]; omega
theorem laidB_len (nm data : List Nat) : (laidB nm data).length = 8 + nm.length + data.length := by
  unfold laidB; rw [List.length_append, recB_len, leB_len]; omega
theorem leB3 (n : Nat) : leB n 3 = [n % 256, n / 256 % 256, n / 65536 % 256] := by simp [leB, List.range_succ]
theorem leB4 (n : Nat) : leB n 4 = [n % 256, n / 256 % 256, n / 65536 % 256, n / 16777216 % 256] := by simp [leB, List.range_succ]
theorem GR.of_YB {w : World} {lo b k : Nat} {e : TypeId} {X l : List Nat} (h : YB w b e l) (hk : k = l.length) (hm : l.length ≤ 281474976710656) (hlo : lo ≤ b) (hX : b ∉ X) : GR w e u8v lo X (.slice (some ⟨b, 0, none⟩) k k) l := by
  subst hk
  exact ⟨⟨by simp, .inr ⟨b, l.length, _, rfl, Nat.zero_le _, h, Nat.le_refl _, by unfold maxLen; omega, by simp, by rw [Nat.mul_one, List.take_of_length_le (by simp)]⟩⟩, fun b' hb => by cases hb; exact ⟨hlo, hX⟩⟩

theorem stSize_spec (nm : ByteArray) (ad : Option Addr) (nd cd : Nat) (w : World) (hn : (sB nm).length ≤ 1000000000) (hd : nd ≤ 1000000000) : Ret Tryz.prog 160 [.agg [.string nm, .slice ad nd cd].toArray] w fun u w' => u = .int .i64 ((8 + (sB nm).length + nd : Nat) : Int) ∧ Chg [] w w' := by
 have hch : Chg [] w w := Chg.refl _ _;refine zE1 Tryz.func160 rfl ?_;refine Sr fun _ kh1 => ?_;refine zBh rfl rfl rfl hch fun b1 wm1 hb1 hcm1 hge1 hgehch1 hch => ?_;refine za rfl (zz (kh1 (Sr fun _ kh3 => zf rfl (zl hb1 rfl rfl ?_))));refine WL.ev (Ev.lenS rfl) rfl ?_;(first | refine zi rfl rfl ?_ | refine zo rfl rfl ?_);(first | refine zi rfl rfl ?_ | refine zo rfl rfl ?_);refine zf rfl (zl hb1 rfl rfl (zn rfl ?_));(first | refine zi rfl rfl ?_ | refine zo rfl rfl ?_);(first | refine zi rfl rfl ?_ | refine zo rfl rfl ?_);refine za rfl (zz (kh3 ?_));refine zr (zr1 rfl rfl ?_);exact ⟨by congr 1; omega, hch⟩

theorem stSum_spec (al : Option Addr) (l : List Nat) (cl : Nat) (w : World) (hrl : RW w al (l.map u8v)) (hB : B8 l) (hlm : l.length ≤ 10000000000) : Ret Tryz.prog 246 [.slice al l.length cl] w fun u w' => u = .int .u32 ((fnv l : Nat) : Int) ∧ w = w' := by
 refine zE1 Tryz.func246 rfl ?_;refine Sr fun _ kh1 => za rfl (zz (kh1 (Sr fun _ kh3 => za rfl (zz (kh3 (zc fun _ kh5 => Sr fun _ kh6 => zm rfl (zn rfl (zm rfl (zz (kh6 ?_))))))))));refine CW.block ?_;refine CW.loop (S := fun i : Nat => [(3, .int .u32 ((fnv (l.take i) : Nat) : Int)), (6, .slice al l.length cl), (7, .int .i64 (l.length : Int)), (8, .int .i64 (i : Int))]) (Inv := fun i w1 => i ≤ l.length ∧ w = w1) (mu := fun i => l.length - i) (0) ?_ ?_ ?_
 ·exact ⟨Nat.zero_le _, rfl⟩
 ·exact SLp
 ·rintro i wr ⟨hi, rfl⟩;have hfl := fnv_lt (l.take i);have hci := hB.getD i;refine Sr fun _ kh8 => ?_;refine WL.ev (Ev.lss rfl rfl) rfl ?_;refine zz (kh8 (zc fun _ kh10 => ?_));refine zy rfl ?_ ?_<;>intro hc1<;>try simp only [qs] at hc1
  ·refine zkk ?_
   refine kh10 (zc fun _ kh11 => ?_);refine CW.block ?_;refine Sr fun _ kh12 => ?_;refine WL.ev (Ev.ixR (i) rfl rfl hrl (by omega) (by omega) (by simp; omega)) rfl ?_;refine WL.ev (Ev.load rfl rfl (hrl.u8 (by first | omega | (simp; omega)))) rfl ?_;refine za rfl (zz (kh12 ?_));refine zR fun _ kr14 => ?_;refine zm rfl (zm rfl ?_);refine WL.ev (Ev.convIn rfl rfl (in_u32 (by omega))) rfl ?_;refine WL.ev (Ev.xorU rfl rfl rfl (by simp only [IntKind.bits]; omega) (by simp only [IntKind.bits]; omega)) rfl ?_;refine WL.ev (Ev.mul32 rfl rfl) rfl ?_;refine za rfl ?_;refine WL.nil (kr14 _ _ _ (kh11 ?_));refine zR fun _ kr15 => ?_;(first | refine zi rfl rfl ?_ | refine zo rfl rfl ?_);refine zm rfl ?_;refine WL.nil (kr15 _ _ _ ?_);refine ⟨rfl, i + 1, ?_, ?_, ?_⟩
   ·refine Subs.cons (by rw [fnv_take (by omega)]; rfl) ?_;exact SLp
   ·exact ⟨by omega, rfl⟩
   ·show l.length - (i + 1) < l.length - i; omega
  ·have hiX : i = l.length := by omega
   subst hiX;rw [List.take_length];refine CW.exit ?_;refine kh5 (Sr fun _ kh16 => zm rfl (za rfl (zz (kh16 ?_))));refine zr (zr1 rfl rfl ?_);exact ⟨rfl, rfl⟩

theorem CloneB_spec (al : Option Addr) (l : List Nat) (cl : Nat) (w : World) (hrl : RW w al (l.map u8v)) (hlm : l.length ≤ 1000000000) : Ret Tryz.prog 167 [.slice al l.length cl] w fun u w' => GR w' 5 u8v w.heap.size [] u l ∧ Chg [] w w' := by
 have hch : Chg [] w w := Chg.refl _ _;refine zE1 Tryz.func167 rfl ?_;refine Sr fun _ kh1 => za rfl (zz (kh1 (zc fun _ kh3 => Sr fun _ kh4 => zm rfl ?_)));refine WL.ev (Ev.eqlSliceNil rfl rfl) rfl ?_;refine zz (kh4 ?_);refine zy rfl ?_ ?_<;>intro hc1<;>try simp only [qs] at hc1
 ·obtain rfl : al = none := by simpa using hc1
  have hl0 : l = [] := by cases l with | nil => rfl | cons x r => obtain ⟨ad, e1, _⟩ := hrl 0 _ rfl; cases e1
  subst hl0;refine Sr fun _ kh6 => za rfl (zz (kh6 ?_));refine zr (zr1 rfl rfl ?_);exact ⟨GR.nil, hch⟩
 ·refine zkk ?_
  refine kh3 (Sr fun _ kh8 => ?_);refine WL.emptySlice (f := u8v) (lo := w.heap.size) (X := []) hch.size (by simp) rfl fun v5 w5 hg5 hcm5 => ?_;have hch := hch.ta hcm5;refine zm rfl ?_;refine WL.growR (f := u8v) (lo := w.heap.size) (X := []) (l := []) (news := l) (by rfl) (fun i => rfl) rfl rfl hg5 (by first | rfl | (simp; done) | (simp; omega) | omega) (hrl.keep0 hch) (by first | omega | exact hch.size | exact hcr.size | exact Nat.le_refl _) (by simp) (by simp only [List.length_append, List.length_cons, List.length_nil]; omega) (by simp only [List.length_append, List.length_cons, List.length_nil]; omega) rfl fun v7 w7 hg7 hcg7 => ?_;have hch := GR.frame hg5 hcg7 hch (by first | omega | exact Nat.le_refl _);have hg5 := hg7;rw [show ([] ++ l) = l from by simp] at hg5;refine za rfl (zz (kh8 ?_));refine zr (zr1 rfl rfl ?_);exact ⟨hg5, hch⟩

theorem EqualB_spec (al ak : Option Addr) (l k : List Nat) (cl ck : Nat) (w : World) (hrl : RW w al (l.map u8v)) (hrk : RW w ak (k.map u8v)) (hlm : l.length ≤ 1000000000) (hkm : k.length ≤ 1000000000) : Ret Tryz.prog 247 [.slice al l.length cl, .slice ak k.length ck] w fun u w' => u = .bool (decide (l = k)) ∧ Chg [] w w' := by
 have hch : Chg [] w w := Chg.refl _ _;refine zE2 Tryz.func247 rfl ?_;refine Sr fun _ kh1 => za rfl (zz (kh1 (zc fun _ kh3 => Sr fun _ kh4 => zm rfl (zn rfl (zm rfl (zn rfl ?_))))));refine WL.ev (Ev.neq rfl rfl) rfl ?_;refine zz (kh4 ?_);refine zy rfl ?_ ?_<;>intro hc1<;>try simp only [qs] at hc1
 ·have hne : l ≠ k := fun e => by (subst e; first | omega | (simp_all; done))
  refine Sr fun _ kh6 => za rfl (zz (kh6 ?_));refine zr (zr1 rfl rfl ?_);exact ⟨by rw [decide_eq_false hne], hch⟩
 ·have hlk : l.length = k.length := by have := hc1; omega
  refine zkk ?_;refine kh3 (zc fun _ kh8 => Sr fun _ kh9 => zm rfl (zn rfl (zm rfl (zz (kh9 ?_)))));refine CW.block ?_;refine CW.loop (S := fun i : Nat => [(0, .slice al l.length cl), (1, .slice ak k.length ck), (12, .int .i64 (l.length : Int)), (13, .int .i64 (i : Int))]) (Inv := fun i w1 => i ≤ l.length ∧ (∀ j, j < i → l.getD j 0 = k.getD j 0) ∧ Chg [] w w1) (mu := fun i => l.length - i) (0) ?_ ?_ ?_
  ·exact ⟨Nat.zero_le _, fun j hj => absurd hj (Nat.not_lt_zero _), hch⟩
  ·exact SLp
  ·rintro i wr ⟨hi, hall, hch⟩;refine Sr fun _ kh11 => ?_;refine WL.ev (Ev.lss rfl rfl) rfl ?_;refine zz (kh11 (zc fun _ kh13 => ?_));refine zy rfl ?_ ?_<;>intro hc2<;>try simp only [qs] at hc2
   ·refine zkk ?_
    refine kh13 (zc fun _ kh14 => ?_);refine CW.block ?_;refine Sr fun _ kh15 => zm rfl (za rfl (zz (kh15 (zc fun _ kh17 => ?_))));refine CW.regionSC hmix (by kernel_rfl) fun kR18 kr18 hdr => ?_;have hch := hch.ta hdr;refine ym rfl (ym rfl ?_);refine WS.ev (Ev.ixR (i) rfl rfl (hrl.keep0 hch) (by omega) (by omega) (by simp; omega)) rfl ?_;refine WS.ev (Ev.load rfl rfl ((hrl.keep0 hch).u8 (by first | omega | (simp; omega)))) rfl ?_;refine ym rfl (ym rfl ?_);refine WS.ev (Ev.ixR (i) rfl rfl (hrk.keep0 hch) (by omega) (by omega) (by simp; omega)) rfl ?_;refine WS.ev (Ev.load rfl rfl ((hrk.keep0 hch).u8 (by first | omega | (simp; omega)))) rfl ?_;refine WS.ev (Ev.neq rfl rfl) rfl ?_;refine WS.nil (kr18 _ _ ?_);refine kh17 ?_;refine zy rfl ?_ ?_<;>intro hc3<;>try simp only [qs] at hc3
    ·have hne : l ≠ k := fun e => by (subst e; first | omega | (simp_all; done))
     refine Sr fun _ kh19 => za rfl (zz (kh19 ?_));refine zr (zr1 rfl rfl ?_);exact ⟨by rw [decide_eq_false hne], hch⟩
    ·have hEq : l.getD i 0 = k.getD i 0 := by have := hc3; omega
     refine zkk ?_;refine kh14 ?_;refine zR fun _ kr21 => ?_;(first | refine zi rfl rfl ?_ | refine zo rfl rfl ?_);refine zm rfl ?_;refine WL.nil (kr21 _ _ _ ?_);refine ⟨rfl, i + 1, ?_, ?_, ?_⟩
     ·exact SLp
     ·refine ⟨by omega, fun j hj => ?_, hch⟩
      by_cases q : j = i
      · subst q; exact hEq
      · exact hall j (by omega)
     ·show l.length - (i + 1) < l.length - i; omega
   ·have hiX : i = l.length := by omega
    have heq : l = k := by
     refine List.ext_getElem hlk fun j h1 h2 => ?_;have := hall j (by omega)
     rwa [List.getD_eq_getElem?_getD, List.getElem?_eq_getElem h1, List.getD_eq_getElem?_getD, List.getElem?_eq_getElem h2] at this
    refine CW.exit ?_;refine kh8 (Sr fun _ kh22 => za rfl (zz (kh22 ?_)));refine zr (zr1 rfl rfl ?_);exact ⟨by rw [decide_eq_true heq], hch⟩

end

/- Store: a record as bytes. No condition. -/
section
open Go Sx Wd Fl

theorem stLaid_spec (nm : ByteArray) (ad : Option Addr) (data : List Nat) (cd : Nat) (w : World) (hrd : RW w ad (data.map u8v)) (hB : B8 data) (hn : (sB nm).length ≤ 1000000000) (hd : data.length ≤ 1000000000) : Ret Tryz.prog 157 [.agg [.string nm, .slice ad data.length cd].toArray] w fun u w' => GR w' 5 u8v w.heap.size [] u (laidB (sB nm) data) ∧ Chg [] w w' := by
 have hch : Chg [] w w := Chg.refl _ _;refine zE1 Tryz.func157 rfl ?_;refine Sr fun _ kh1 => ?_;refine zBh rfl rfl rfl hch fun b1 wm1 hb1 hcm1 hge1 hgehch1 hch => ?_;refine za rfl (zz (kh1 (Sr fun _ kh3 => zf rfl (zl hb1 rfl rfl (zn rfl (za rfl (zz (kh3 (Sr fun _ kh5 => zf rfl (zl hb1 rfl rfl ?_))))))))));refine WL.ev (Ev.lenS rfl) rfl ?_;refine WL.ev (Ev.conv8 rfl rfl) rfl ?_;refine WL.buildSlice (m := 1) (cs := [u8v (((sB nm).length % 256))]) (by decide) (by decide) rfl (by kernel_rfl) rfl fun b13 w13 hn13 => ?_;have hcm13 := hn13.chg;have hge13 := hn13.ge;have hb13 : YB w13 b13 _ [((sB nm).length % 256)] := hn13.at_;have hgehch13 := Nat.le_trans hch.size hge13;have hch := hch.ta hcm13;have hneb113 := zdd hb1.lt hge13;have hb1 := hb1.keep0 hcm13;have hg_b := GR.of_YB (lo := w.heap.size) (X := []) hb13 rfl (by simp) (by omega) (by simp);refine zf rfl (zl hb1 rfl rfl ?_);refine WL.growS (lo := w.heap.size) rfl rfl hg_b (by first | omega | exact hch.size) (by simp only [List.length_append, List.length_cons, List.length_nil, leB_len]; omega) rfl fun v16 w16 hg16 hcg16 => ?_;have hch := GR.frame hg_b hcg16 hch (by first | omega | exact Nat.le_refl _);have hb1 := hb1.keep hcg16 (hg_b.notM hb1 (by decide));have hg_b := hg16;refine za rfl (zz (kh5 (Sr fun _ kh7 => zm rfl (zm rfl ?_))));refine WL.ev (Ev.conv8 rfl rfl) rfl ?_;refine zm rfl ?_;refine WL.ev (Ev.shrU (a := data.length) (b := 8) rfl rfl (by simp only [IntKind.bits]; omega)) rfl ?_;refine WL.ev (Ev.conv8 rfl rfl) rfl ?_;refine zm rfl ?_;refine WL.ev (Ev.shrU (a := data.length) (b := 16) rfl rfl (by simp only [IntKind.bits]; omega)) rfl ?_;refine WL.ev (Ev.conv8 rfl rfl) rfl ?_;refine WL.buildSlice (m := 3) (cs := [u8v ((data.length % 256)), u8v (((data.length / 2 ^ 8) % 256)), u8v (((data.length / 2 ^ 16) % 256))]) (by decide) (by decide) rfl (by kernel_rfl) rfl fun b26 w26 hn26 => ?_;have hcm26 := hn26.chg;have hge26 := hn26.ge;have hb26 : YB w26 b26 _ [(data.length % 256), ((data.length / 2 ^ 8) % 256), ((data.length / 2 ^ 16) % 256)] := hn26.at_;have hgehch26 := Nat.le_trans hch.size hge26;have hch := hch.ta hcm26;have hneb126 := zdd hb1.lt hge26;have hb1 := hb1.keep0 hcm26;have hg_b := hg_b.keep0 hcm26;refine WL.growR (f := u8v) (lo := w.heap.size) (X := []) (l := ([(sB nm).length % 256] ++ sB nm)) (news := [(data.length % 256), ((data.length / 2 ^ 8) % 256), ((data.length / 2 ^ 16) % 256)]) (by rfl) (fun i => rfl) rfl rfl hg_b (by first | rfl | (simp; done) | (simp; omega) | omega) hb26.row (by first | omega | exact hch.size | exact hcr.size | exact Nat.le_refl _) (by simp) (by simp only [List.length_append, List.length_cons, List.length_nil, leB_len, recB_len]; omega) (by simp only [List.length_append, List.length_cons, List.length_nil, leB_len, recB_len]; omega) rfl fun v27 w27 hg27 hcg27 => ?_;have hch := GR.frame hg_b hcg27 hch (by first | omega | exact Nat.le_refl _)
 have hb1 := hb1.keep hcg27 (hg_b.notM hb1 (by decide));have hg_b := hg27;rw [show (([(sB nm).length % 256] ++ sB nm) ++ [(data.length % 256), ((data.length / 2 ^ 8) % 256), ((data.length / 2 ^ 16) % 256)]) = ([(sB nm).length % 256] ++ sB nm) ++ leB data.length 3 from by rw [leB3]; try rfl] at hg_b;refine za rfl (zz (kh7 (Sr fun _ kh9 => zm rfl (zf rfl (zl hb1 rfl rfl ?_)))));refine WL.growR (f := u8v) (lo := w.heap.size) (X := []) (l := ([(sB nm).length % 256] ++ sB nm) ++ leB data.length 3) (news := data) (by rfl) (fun i => rfl) rfl rfl hg_b (by first | rfl | (simp; done) | (simp; omega) | omega) (hrd.keep0 hch) (by first | omega | exact hch.size | exact hcr.size | exact Nat.le_refl _) (by simp) (by simp only [List.length_append, List.length_cons, List.length_nil, leB_len, recB_len]; omega) (by simp only [List.length_append, List.length_cons, List.length_nil, leB_len, recB_len]; omega) rfl fun v31 w31 hg31 hcg31 => ?_;have hch := GR.frame hg_b hcg31 hch (by first | omega | exact Nat.le_refl _);have hg_b := hg31;rw [show (([(sB nm).length % 256] ++ sB nm) ++ leB data.length 3 ++ data) = recB (sB nm) data from by rfl] at hg_b;refine za rfl (zz (kh9 (Sr fun _ kh11 => ?_)));obtain ⟨a32, c32, rfl, hcap32, hr32⟩ := hg_b.row;have hBr : B8 (recB (sB nm) data) := ((B8.append (fun x hx => by rw [List.mem_singleton.1 hx]; exact Nat.mod_lt _ (by decide)) (sB_lt nm)).append (leB_B8 _ _)).append hB;refine zm rfl ?_;refine WL.call hasF246 rfl rfl (stSum_spec _ _ _ _ hr32 hBr (by rw [recB_len]; omega)) fun v w1 h' => ?_;obtain ⟨rfl, rfl⟩ := h';have hfl := fnv_lt (recB (sB nm) data);refine za rfl (zz (kh11 (Sr fun _ kh13 => zm rfl (zm rfl ?_))));refine WL.ev (Ev.conv8 rfl rfl) rfl ?_;refine zm rfl ?_;refine WL.ev (Ev.shrU (b := 8) rfl rfl (by simp only [IntKind.bits]; omega)) rfl ?_;refine WL.ev (Ev.conv8 rfl rfl) rfl ?_;refine zm rfl ?_;refine WL.ev (Ev.shrU (b := 16) rfl rfl (by simp only [IntKind.bits]; omega)) rfl ?_;refine WL.ev (Ev.conv8 rfl rfl) rfl ?_;refine zm rfl ?_;refine WL.ev (Ev.shrU (b := 24) rfl rfl (by simp only [IntKind.bits]; omega)) rfl ?_;refine WL.ev (Ev.conv8 rfl rfl) rfl ?_;refine WL.buildSlice (m := 4) (cs := [u8v (((fnv (recB (sB nm) data)) % 256)), u8v ((((fnv (recB (sB nm) data)) / 2 ^ 8) % 256)), u8v ((((fnv (recB (sB nm) data)) / 2 ^ 16) % 256)), u8v ((((fnv (recB (sB nm) data)) / 2 ^ 24) % 256))]) (by decide) (by decide) rfl (by kernel_rfl) rfl fun b46 w46 hn46 => ?_;have hcm46 := hn46.chg;have hge46 := hn46.ge;have hb46 : YB w46 b46 _ [((fnv (recB (sB nm) data)) % 256), (((fnv (recB (sB nm) data)) / 2 ^ 8) % 256), (((fnv (recB (sB nm) data)) / 2 ^ 16) % 256), (((fnv (recB (sB nm) data)) / 2 ^ 24) % 256)] := hn46.at_;have hgehch46 := Nat.le_trans hch.size hge46;have hch := hch.ta hcm46;have hg_b := hg_b.keep0 hcm46;refine WL.growR (f := u8v) (lo := w.heap.size) (X := []) (l := recB (sB nm) data) (news := [((fnv (recB (sB nm) data)) % 256), (((fnv (recB (sB nm) data)) / 2 ^ 8) % 256), (((fnv (recB (sB nm) data)) / 2 ^ 16) % 256), (((fnv (recB (sB nm) data)) / 2 ^ 24) % 256)]) (by rfl) (fun i => rfl) rfl rfl hg_b (by first | rfl | (simp; done) | (simp; omega) | omega) hb46.row (by first | omega | exact hch.size | exact hcr.size | exact Nat.le_refl _) (by simp) (by simp only [List.length_append, List.length_cons, List.length_nil, leB_len, recB_len]; omega) (by simp only [List.length_append, List.length_cons, List.length_nil, leB_len, recB_len]; omega) rfl fun v47 w47 hg47 hcg47 => ?_
 have hch := GR.frame hg_b hcg47 hch (by first | omega | exact Nat.le_refl _);have hg_b := hg47;rw [show (recB (sB nm) data ++ [((fnv (recB (sB nm) data)) % 256), (((fnv (recB (sB nm) data)) / 2 ^ 8) % 256), (((fnv (recB (sB nm) data)) / 2 ^ 16) % 256), (((fnv (recB (sB nm) data)) / 2 ^ 24) % 256)]) = laidB (sB nm) data from by unfold laidB; rw [leB4]; try rfl] at hg_b;refine za rfl (zz (kh13 ?_));refine zr (zr1 rfl rfl ?_);exact ⟨hg_b, hch⟩

end

/- Logs in memory. No condition. -/
section
open Go Sx Wd Fl

/-- A record that is kept: its name, its data, the slice that holds them. -/
abbrev RG := ByteArray × List Nat × Value
def recC (G : List RG) : List Value := (G.map fun g => [Value.string g.1, g.2.2]).flatten
theorem recC_len (G : List RG) : (recC G).length = G.length * 2 := by
  induction G with
  | nil => rfl
  | cons g G ih => show (recC G).length + 1 + 1 = _; rw [ih, List.length_cons]; omega
theorem recC_snoc (G : List RG) (g : RG) : recC (G ++ [g]) = recC G ++ [Value.string g.1, g.2.2] := by simp [recC]
theorem recC_at {G : List RG} {i : Nat} {g : RG} (h : G[i]? = some g) : (recC G)[2 * i]? = some (.string g.1) ∧ (recC G)[2 * i + 1]? = some g.2.2 := by
  induction G generalizing i with
  | nil => cases h
  | cons a G ih =>
    cases i with
    | zero => cases h; exact ⟨rfl, rfl⟩
    | succ i =>
      have := ih (i := i) h
      rw [show 2 * (i + 1) = 2 * i + 1 + 1 by omega]
      exact this
/-- A record's size; all records'. -/
def szG (g : RG) : Nat := 8 + (sB g.1).length + g.2.1.length
def totG (G : List RG) : Nat := (G.map szG).sum
theorem totG_snoc (G : List RG) (g : RG) : totG (G ++ [g]) = totG G + szG g := by simp [totG]
theorem totG_len (G : List RG) : G.length ≤ totG G := by
  induction G with
  | nil => exact Nat.le_refl _
  | cons g G ih => show G.length + 1 ≤ szG g + totG G; unfold szG; omega
/-- What a log's bytes are. -/
def bytG (G : List RG) : List Nat := (G.map fun g => laidB (sB g.1) g.2.1).flatten
theorem bytG_len (G : List RG) : (bytG G).length = totG G := by
  induction G with
  | nil => rfl
  | cons g G ih =>
    show (laidB (sB g.1) g.2.1 ++ bytG G).length = szG g + totG G
    rw [List.length_append, laidB_len, ih]; unfold szG; omega
theorem bytG_take {G : List RG} {i : Nat} {g : RG} (h : G[i]? = some g) : bytG (G.take (i + 1)) = bytG (G.take i) ++ laidB (sB g.1) g.2.1 := by
  rw [List.take_add_one, h]
  simp [bytG]
/-- A log in memory: its records. -/
structure LgM (lo : Nat) (w : World) (b : Nat) (G : List RG) : Prop where
  ex : ∃ v, BK w b 194 [v, .int .i64 ((totG G : Nat) : Int)] ∧ GRc w 121 2 lo [] v G.length (recC G)
  dat : ∀ g ∈ G, GR w 5 u8v 0 [] g.2.2 g.2.1 ∧ B8 g.2.1
  tot : totG G ≤ 1048576
theorem LgM.keep0 {lo : Nat} {w w' : World} {b : Nat} {G : List RG} (h : LgM lo w b G) (hc : Chg [] w w') : LgM lo w' b G := by
  obtain ⟨⟨v, h1, h2⟩, h3, h4⟩ := h
  exact ⟨⟨v, h1.keep0 hc, h2.keep0 hc⟩, fun g hg => ⟨(h3 g hg).1.keep0 hc, (h3 g hg).2⟩, h4⟩
theorem LgM.keepBK {lo : Nat} {w w' : World} {b c : Nat} {T : TypeId} {cs : List Value} {G : List RG} (h : LgM lo w b G) (hb : BK w c T cs) (hc : Chg [c] w w') (hne : b ≠ c) (h1 : 121 ≠ T) (h2 : 5 ≠ T) : LgM lo w' b G := by
  obtain ⟨⟨v, a1, a2⟩, h3, h4⟩ := h
  refine ⟨⟨v, a1.keep hc (by simpa using hne), a2.keepV hc fun x hx => ?_⟩, fun g hg => ⟨(h3 g hg).1.keepV hc fun x hx => ?_, (h3 g hg).2⟩, h4⟩
  · rw [List.mem_singleton.1 hx]; exact a2.notBK hb h1
  · rw [List.mem_singleton.1 hx]; exact (h3 g hg).1.notBK hb h2
theorem LgM.lt {lo : Nat} {w : World} {b : Nat} {G : List RG} (h : LgM lo w b G) : b < w.heap.size := by
  obtain ⟨⟨v, h1, _⟩, _⟩ := h
  exact h1.lt
theorem GRc.notMB {w : World} {e es lo m : Nat} {X : List Nat} {v : Value} {l : List Value} {T : TypeId} {bk : Nat} {cs : List Value} (h : GRc w e es lo X v m l) (hb : BK w bk T cs) (hne : e ≠ T) : bk ∉ v.ownBlock.toList := fun q => h.notBK hb hne (Option.mem_toList.1 q)
theorem GRc.frame {e es lo m : Nat} {X : List Nat} {v : Value} {l : List Value} {T : List Nat} {w0 w w' : World} (h : GRc w e es lo X v m l) (hc : Chg v.ownBlock.toList w w') (hf : Chg T w0 w) (hlo : w0.heap.size ≤ lo) : Chg T w0 w' :=
  hf.step hc fun y hy => .inr (Nat.le_trans hlo (h.2 y (Option.mem_toList.1 hy)).1)
namespace Sx
section
variable {P : Program} {n : Nat} {D : List Deferred} {s : Sl} {w : World} {ops : Array Oper} {K : KK} {rest : List Oper} {ty : TypeId} {pos : String} {af : Array Edge} {d : Nat} {x y : Operand} {S : World → Prop} {z fuel : Nat} {listed : Array Bool}
theorem WK.growRc (i : Nat) {t e es be : Nat} {de : TypeDesc} {ze : Value} {sz by_ : Nat} {z0 : Value} {v : Value} {lo m : Nat} {l news : List Value} {ad : Addr} {mm c : Nat} [hT : HasT P t (.slice e) sz by_ z0] [hE : HasT P e de es be ze]
    (hi : ops[i]? = some ⟨some d, .call ⟨.builtin .append, [x, y].toArray, #[t, t]⟩, ty, pos, af, none⟩) (hr : Region.ready .any ops listed = [i])
    (hzs : ze.cells.size = es) (hsz : 0 < es) (h1 : ∀ u ∈ news, u.oneCell' = true) (hx : opnd s x = some v) (hy : opnd s y = some (.slice (some ad) mm c)) (hg : GRc w e es lo [] v m l) (hm : news.length = mm * es) (hrw : RW w (some ad) news) (hlo : lo ≤ w.heap.size)
    (hbytes : (m + mm) * be ≤ 140737488355328) (h63 : m + mm ≤ 70368744177664) (hd : Nat.blt d n = true)
    (hST : ∀ w', Chg v.ownBlock.toList w w' → (listed.setIfInBounds i true).getD z false = false → S w')
    (k : ∀ v' w', GRc w' e es lo [] v' (m + mm) (l ++ news) → Chg v.ownBlock.toList w w' → WK P ops K S z fuel (listed.setIfInBounds i true) n D ((d, v') :: s) w') : WK P ops K S z (fuel + 1) listed n D s w := by
  obtain ⟨j, hj, hj1, hj2, hj3⟩ := hE.inf
  obtain ⟨v', w', hrr, ho, hgr, _, hloc⟩ := run_append_own_at (P := P) w 0 t ty e j ze es be hT.und hj hj3 hj1 hj2 hzs hsz v m l hg.1 ad mm c news hm (fun q u hu => by obtain ⟨ad', e1, hcell⟩ := hrw q u hu; cases e1; exact hcell) h1 (by unfold maxLen; omega) hbytes (Nat.zero_le _)
  have hc : Chg v.ownBlock.toList w w' := Chg.of_grown hgr
  refine WK.one (v := v') (w' := w') i hi hr (fun ρ d' pos af g hρ => ?_) (hST w' hc) hd (k _ _ ⟨ho, fun b hb => ⟨?_, by simp⟩⟩ hc)
  · have e1 := hρ x _ hx
    have e2 := hρ y _ hy
    simp [execOp, resolve, invoke, builtin, e1, e2, hrr]
  · rcases hloc with q | q
    · rw [q] at hb; exact (hg.2 b hb).1
    · rw [q] at hb; cases hb; exact hlo
end
end Sx

end

/- Store: New, add. No condition. -/
section
open Go Sx Wd Fl

/-- All data lie as they lie. -/
def DatM (w : World) (G : List RG) : Prop := ∀ g ∈ G, GR w 5 u8v 0 [] g.2.2 g.2.1 ∧ B8 g.2.1
theorem DatM.keep0 {w w' : World} {G : List RG} (h : DatM w G) (hc : Chg [] w w') : DatM w' G := fun g hg => ⟨(h g hg).1.keep0 hc, (h g hg).2⟩
theorem DatM.keepBK {w w' : World} {G : List RG} {b : Nat} {T : TypeId} {cs : List Value} (h : DatM w G) (hb : BK w b T cs) (hc : Chg [b] w w') (_ : ∀ c ∈ cs, isU32 c = false) (hne : 5 ≠ T := by decide) : DatM w' G := fun g hg => ⟨(h g hg).1.keepV hc fun x hx => by rw [List.mem_singleton.1 hx]; exact (h g hg).1.notBK hb hne, (h g hg).2⟩
theorem DatM.keepRow {w w' : World} {G : List RG} {e es lo m : Nat} {X : List Nat} {v : Value} {l : List Value} (h : DatM w G) (hr : GRc w e es lo X v m l) (hc : Chg v.ownBlock.toList w w') (hne : e ≠ 5) : DatM w' G := fun g hg => ⟨(h g hg).1.keepV hc (hr.sep (h g hg).1 hne), (h g hg).2⟩
theorem GRc.keepBK {w w' : World} {e es lo m : Nat} {X : List Nat} {v : Value} {l : List Value} {b : Nat} {T : TypeId} {cs : List Value} (h : GRc w e es lo X v m l) (hb : BK w b T cs) (hc : Chg [b] w w') (_ : ∀ c ∈ cs, isU32 c = false) (hne : e ≠ T := by decide) : GRc w' e es lo X v m l :=
  h.keepV hc fun x hx => by rw [List.mem_singleton.1 hx]; exact h.notBK hb hne
theorem GRc.nil {w : World} {e es lo : Nat} {X : List Nat} : GRc w e es lo X (.slice none 0 0) 0 [] := ⟨⟨by simp, .inl ⟨rfl, rfl⟩⟩, fun b h => by cases h⟩
theorem LgM.new {lo : Nat} {w : World} {b : Nat} (h : BK w b 194 [.slice none 0 0, .int .i64 0]) : LgM lo w b [] := ⟨⟨_, h, GRc.nil⟩, (fun g hg => by cases hg), by decide⟩

theorem stNew_spec (w : World) : Ret Tryz.prog 66 [] w fun u w' => (∃ b, u = .pointer (some ⟨b, 0, none⟩) ∧ BK w' b 194 [.slice none 0 0, .int .i64 0] ∧ w.heap.size ≤ b) ∧ Chg [] w w' := by
 have hch : Chg [] w w := Chg.refl _ _;refine zE0 Tryz.func66 rfl ?_;refine Sr fun _ kh1 => za rfl (zz (kh1 (Sr fun _ kh3 => ?_)));refine WL.ev (Ev.build (vs := _) (cs := [_, _]) rfl rfl) rfl ?_;refine zBh rfl rfl rfl hch fun b2 wm2 hb2 hcm2 hge2 hgehch2 hch => ?_;refine za rfl (zz (kh3 ?_));refine zr (zr1 rfl rfl ?_);exact ⟨⟨b2, rfl, hb2, by omega⟩, hch⟩

theorem stAdd_spec (b lo : Nat) (G : List RG) (nm : ByteArray) (ad : Option Addr) (data : List Nat) (cd : Nat) (w0 w : World) (hL : LgM lo w b G) (hd : GR w 5 u8v 0 [] (.slice ad data.length cd) data) (hB : B8 data) (hnm : (sB nm).length ≤ 1000000000) (hdl : data.length ≤ 1000000000) (hch : Chg [b] w0 w) (hlo : w0.heap.size ≤ lo) (hlw : lo ≤ w.heap.size) : Ret Tryz.prog 72 [.pointer (some ⟨b, 0, none⟩), .agg [.string nm, .slice ad data.length cd].toArray] w fun u w' => ((1048576 < totG G + szG (nm, data, Value.slice ad data.length cd) ∧ u = .bool false ∧ LgM lo w' b G ∧ Chg [b] w0 w') ∨ (totG G + szG (nm, data, Value.slice ad data.length cd) ≤ 1048576 ∧ u = .bool true ∧ LgM lo w' b (G ++ [(nm, data, Value.slice ad data.length cd)]) ∧ Chg [b] w0 w')) ∧ ∃ v t, BK w b 194 [v, t] ∧ Chg (b :: v.ownBlock.toList) w w' := by
  obtain ⟨⟨v, hb, hgc⟩, hda0, htot⟩ := hL;obtain ⟨av, cv, rfl, hcapv, hrv, -⟩ := hgc.row;have hGl := totG_len G;have hda : DatM w (G ++ [(nm, data, Value.slice ad data.length cd)]) := fun g hg => by
    rcases List.mem_append.1 hg with hg | hg
    · exact hda0 g hg
    · rw [List.mem_singleton.1 hg]; exact ⟨hd, hB⟩
  have hgc0 := hgc;have hb00 := hb;have hwn : Chg (b :: (Value.slice av G.length cv).ownBlock.toList) w w := Chg.refl _ _;refine zE2 Tryz.func72 rfl ?_;refine Sr fun _ kh1 => ?_;refine zBh rfl rfl rfl hch fun b3 wm3 hb3 hcm3 hge3 hgehch3 hch => ?_;have hgehwn3 := Nat.le_trans hwn.size hge3;have hwn := hwn.ta hcm3;have hgc := hgc.keep0 hcm3;have hda := hda.keep0 hcm3;have hneb3 : b ≠ b3 := by have := hb.lt; omega
  have hb := hb.keep0 hcm3;refine za rfl (zz (kh1 (zc fun _ kh3 => zc fun _ kh4 => ?_)));refine CW.regionHC 8 rfl hmix fun kR5 kr5 hS hdr => ?_;have hch := hch.ta hdr;have hwn := hwn.ta hdr;have hb := hb.keep0 hdr;have hb3 := hb3.k0 hdr;have hgc := hgc.keep0 hdr;have hda := hda.keep0 hdr;have hb_r := hb;have hb3_r := hb3;refine wh 0 rfl hS (fun _ hw' => Ev.loadA rfl rfl (hb3_r.keep0 hw') rfl) (wh 2 rfl hS (fun _ _ => Ev.move rfl) (wh 3 rfl hS (fun _ _ => Ev.nilPtr rfl) (wh 4 rfl hS (fun _ _ => Ev.fieldAddr rfl) (wh 5 rfl hS (fun _ hw' => Ev.load rfl rfl ((hb_r.keep0 hw').at_ rfl)) (wh 6 rfl hS (fun _ _ => Ev.subIn rfl rfl (by omega)) ?_)))));refine WH.oneCall 1 rfl (by kernel_rfl) hasF160 rfl rfl (stSize_spec nm ad data.length cd _ hnm hdl) fun v w1 h' => ?_;obtain ⟨rfl, hC⟩ := h';have hch := hch.ta hC;have hwn := hwn.ta hC;have hb := hb.keep0 hC;have hb3 := hb3.k0 hC;have hgc := hgc.keep0 hC;have hda := hda.keep0 hC;have hS := hS.trans hC;refine ⟨hS, ?_⟩;refine wh 7 rfl hS (fun _ _ => Ev.gtr rfl rfl) ?_;refine WH.done (by kernel_rfl) (kr5 _ _ _ ?_);refine kh4 ?_;refine zy rfl ?_ ?_<;>intro hc1<;>try simp only [qs] at hc1
  · have hgt : 1048576 < totG G + szG (nm, data, Value.slice ad data.length cd) := by have := hc1; unfold szG; dsimp only; omega
    refine Sr fun _ kh6 => za rfl (zz (kh6 ?_));refine zr (zr1 rfl rfl ?_);refine ⟨.inl ⟨hgt, rfl, ⟨⟨_, hb, hgc⟩, fun g hg => hda g (List.mem_append_left _ hg), htot⟩, hch⟩, _, _, hb00, hwn⟩
  · have hle : totG G + (8 + (sB nm).length + data.length) ≤ 1048576 := by have := hc1; omega
    refine zkk ?_;refine kh3 (zc fun _ kh8 => ?_);refine CW.regionKT (Value.slice av G.length cv).ownBlock.toList 10 11 rfl hmix fun kR9 kr9 hS hdr => ?_;have hch := hch.ta hdr;have hwn := hwn.ta hdr;have hb := hb.keep0 hdr;have hb3 := hb3.k0 hdr;have hgc := hgc.keep0 hdr;have hda := hda.keep0 hdr;have hb_r := hb;have hb3_r := hb3;have hnb := hgc.notMB hb (by decide);have hnb3 : b3 ∉ (Value.slice av G.length cv).ownBlock.toList := fun hm => by have := hgc0.lt (Option.mem_toList.1 hm); omega
    refine wk 0 rfl hS (fun _ _ => Ev.move rfl) (wk 1 rfl hS (fun _ _ => Ev.move rfl) (wk 2 rfl hS (fun _ _ => Ev.nilPtr rfl) (wk 3 rfl hS (fun _ _ => Ev.fieldAddr rfl) (wk 4 rfl hS (fun _ hw' => Ev.load (v := .slice av G.length cv) rfl rfl ((hb_r.keep hw' hnb).at_ rfl)) (wk 5 rfl hS (fun _ hw' => Ev.loadA rfl rfl (hb3_r.keep hw' hnb3) rfl) ?_)))));refine WK.buildSliceC (m := 1) (cs := [.string nm, .slice ad data.length cd]) 6 rfl (by kernel_rfl) hS (by decide) (by decide) rfl (by kernel_rfl) rfl fun b19 w19 hn19 hS => ?_;have hb19 := RW.of_heap hn19.at_;have hgc := hgc.keep0 hn19.chg;have hda := hda.keep0 hn19.chg;have hch := hch.trans (Chg.any hn19.chg);have hb := hb.keep0 hn19.chg;have hb3 := hb3.keep0 hn19.chg;have hwn := hwn.trans (Chg.any hn19.chg);have hb3 := hb3;refine WK.growRc (news := [.string nm, .slice ad data.length cd]) 7 rfl (by kernel_rfl) (by rfl) (by decide) (by intro u hu; simp only [List.mem_cons, List.not_mem_nil, or_false] at hu; rcases hu with rfl | rfl <;> rfl) rfl rfl hgc rfl hb19 (Nat.le_trans hlw hwn.size) (by omega) (by omega) rfl (fun w9 hc _ => hS.step hc (fun y hy => .inl hy)) fun v20 w20 hg20 hc20 => ?_;have hb := hb.keep hc20 (hgc.notMB hb (by decide));have hb3 := hb3.keep hc20 hnb3;have hda := hda.keepRow hgc hc20 (by decide);have hch := hgc.frame hc20 hch hlo;have hwn := hwn.step hc20 (fun y hy => .inl (List.mem_cons_of_mem _ hy));have hS := hS.step hc20 (fun y hy => .inl hy);have hgc := hg20;obtain ⟨a20, c20, rfl, hcap20, hr20, -⟩ := hg20.row;refine WK.takeT 8 rfl (by kernel_rfl) (by kernel_rfl) (by kernel_rfl) (by kernel_rfl) (fun _ => hS) (fun w' => Ev.nilPtr rfl) rfl ?_;refine wk 9 rfl hS (fun _ _ => Ev.fieldAddr rfl) ?_;refine WK.storeC 10 rfl (by kernel_rfl) (by kernel_rfl) rfl rfl o1 hb (by simp) rfl fun ws5 hb_ hcs5 => ?_;(try simp only [Sx.splice, qt] at hb_);have hch := hch.s1 hcs5;have hwn := hwn.s1 hcs5;have hb3 := hb3.kq hcs5;have hgc := hgc.keepBK hb hcs5 an;have hda := hda.keepBK hb hcs5 an;have hb := hb_;refine WK.done (by kernel_rfl) (kr9 _ _ _ ?_);refine kh8 (zc fun _ kh10 => ?_);refine CW.regionKC 9 10 rfl hmix fun kR11 kr11 hS hdr => ?_;have hch := hch.ta hdr;have hwn := hwn.ta hdr;have hb := hb.keep0 hdr;have hb3 := hb3.k0 hdr;have hgc := hgc.keep0 hdr;have hda := hda.keep0 hdr;have hb_r := hb;have hb3_r := hb3;refine wk 0 rfl hS (fun _ _ => Ev.move rfl) (wk 1 rfl hS (fun _ _ => Ev.nilPtr rfl) (wk 2 rfl hS (fun _ _ => Ev.fieldAddr rfl) (wk 3 rfl hS (fun _ hw' => Ev.load rfl rfl ((hb_r.keep0 hw').at_ rfl)) (wk 4 rfl hS (fun _ hw' => Ev.loadA rfl rfl (hb3_r.keep0 hw') rfl) ?_))));refine WK.oneCall 5 rfl (by kernel_rfl) hasF160 rfl rfl (stSize_spec nm ad data.length cd _ hnm hdl) fun v w2 h' => ?_;obtain ⟨rfl, hC⟩ := h';have hch := hch.ta hC;have hwn := hwn.ta hC;have hb := hb.keep0 hC;have hgc := hgc.keep0 hC;have hda := hda.keep0 hC;have hS := hS.trans hC;refine ⟨hS, ?_⟩;refine wk 6 rfl hS (fun _ _ => Ev.addIn rfl rfl (by omega)) ?_
    refine WK.takeT 7 rfl (by kernel_rfl) (by kernel_rfl) (by kernel_rfl) (by kernel_rfl) (fun _ => hS) (fun w' => Ev.nilPtr rfl) rfl ?_;refine wk 8 rfl hS (fun _ _ => Ev.fieldAddr rfl) ?_;refine WK.storeC 9 rfl (by kernel_rfl) (by kernel_rfl) rfl rfl o1 hb (by simp) rfl fun ws6 hb_ hcs6 => ?_;(try simp only [Sx.splice, qt] at hb_);have hch := hch.s1 hcs6;have hwn := hwn.s1 hcs6;have hgc := hgc.keepBK hb hcs6 an;have hda := hda.keepBK hb hcs6 an;have hb := hb_;refine WK.done (by kernel_rfl) (kr11 _ _ _ ?_);refine kh10 (Sr fun _ kh12 => za rfl (zz (kh12 ?_)));refine zr (zr1 rfl rfl ?_);have hle2 : totG G + szG (nm, data, Value.slice ad data.length cd) ≤ 1048576 := by unfold szG; dsimp only; omega
    refine ⟨.inr ⟨hle2, rfl, ⟨⟨.slice a20 (G.length + 1) c20, ?_, ?_⟩, hda, by rw [totG_snoc]; exact hle2⟩, hch⟩, _, _, hb00, hwn⟩
    · refine Eq.mp (congrArg (fun z => BK _ b _ [_, Value.int .i64 z]) ?_) hb
      rw [totG_snoc]; unfold szG; dsimp only; omega
    · rw [recC_snoc, List.length_append]; exact hgc

end

/- Store: Append, Bytes. No condition. -/
section
open Go Sx Wd Fl

theorem encS_len {S : Sh} (h : S.ex) : (encS S).length ≤ 1354 := by
  have h1 := h.lv
  have h2 := h.lq
  unfold encS
  simp only [List.length_append, leB_len, encD_len]
  split
  · rw [List.length_append, leB_len, leB_len]; omega
  · rw [List.length_nil]; omega
theorem szG_le {G : List RG} {g : RG} (h : g ∈ G) : szG g ≤ totG G := by
  induction G with
  | nil => cases h
  | cons a G ih =>
    show szG g ≤ szG a + totG G
    rcases List.mem_cons.1 h with rfl | h
    · omega
    · have := ih h; omega
theorem totG_take (G : List RG) (i : Nat) : totG (G.take i) ≤ totG G := by
  have : totG G = totG (G.take i) + totG (G.drop i) := by
    rw [totG, totG, totG, ← List.sum_append, ← List.map_append, List.take_append_drop]
  omega
theorem GRc.at2 {w : World} {e lo i m c : Nat} {X : List Nat} {a : Option Addr} {G : List RG} {g : RG} (h : GRc w e 2 lo X (.slice a m c) m (recC G)) (hg : G[i]? = some g) : ∃ q, a = some ⟨q, 0, none⟩ ∧ ∀ j v, [Value.string g.1, g.2.2][j]? = some v → w.cell? ((Addr.mk q (0 + (i : Int).toNat * 2) none).add j) = some v := by
  obtain ⟨h1, h2⟩ := recC_at hg
  rcases own_cases h.1 with ⟨_, _, hx⟩ | ⟨q, cap, e1, _, _, hcell⟩
  · rw [hx] at h1; simp at h1
  · cases e1
    refine ⟨q, rfl, fun j v hv => ?_⟩
    have e2 : (Addr.mk q (0 + (i : Int).toNat * 2) none).add j = ⟨q, 2 * i + j, none⟩ := by
      rw [Addr.add_lit]; congr 1; omega
    rw [e2]
    match j, hv with
    | 0, hv => cases hv; exact hcell _ _ h1
    | 1, hv => cases hv; exact hcell _ _ h2

theorem stAppend_spec (b lo : Nat) (G : List RG) (nm : ByteArray) (c : Nat) (S : Sh) (w0 w : World) (hL : LgM lo w b G) (hS : ShM 109 w c S) (hwf : S.wf) (hex : S.ex) (hch : Chg [b] w0 w) (hlo : w0.heap.size ≤ lo) (hlw : lo ≤ w.heap.size) : Ret Tryz.prog 67 [.pointer (some ⟨b, 0, none⟩), .string nm, .pointer (some ⟨c, 0, none⟩)] w fun u w' => (((sB nm).length < 1 ∨ 64 < (sB nm).length) ∧ u = .int .i64 1 ∧ LgM lo w' b G ∧ Chg [b] w0 w') ∨ (¬ ((sB nm).length < 1 ∨ 64 < (sB nm).length) ∧ 1048576 < totG G + (8 + (sB nm).length + (encS S).length) ∧ u = .int .i64 2 ∧ LgM lo w' b G ∧ Chg [b] w0 w') ∨ (¬ ((sB nm).length < 1 ∨ 64 < (sB nm).length) ∧ totG G + (8 + (sB nm).length + (encS S).length) ≤ 1048576 ∧ u = .int .i64 0 ∧ (∃ dv, LgM lo w' b (G ++ [(nm, encS S, dv)])) ∧ Chg [b] w0 w') := by
 have hwn : Chg [] w w := Chg.refl _ _;have hel := encS_len hex;refine zE3 Tryz.func67 rfl ?_;refine Sr fun _ kh1 => za rfl (zz (kh1 (zc fun _ kh3 => ?_)));refine CW.seqM 14 (decide ((sB nm).length < 1 ∨ 64 < (sB nm).length)) ?_ ?_
 ·refine zR fun _ kr4 => ?_;refine zm rfl ?_;refine WL.ev (Ev.lenS rfl) rfl ?_;refine WL.ev (Ev.lss rfl rfl) rfl ?_;refine zm rfl ?_;refine zb ?_ ?_<;>intro hg1<;>try simp only [qs] at hg1
  ·refine zv rfl (zv rfl (zv rfl (zt rfl rfl ?_)));refine WL.nil (kr4 _ _ _ ?_);refine ⟨rfl, rfl, Subs.consB rfl ?_ ?_⟩
   ·first | (refine (decide_eq_true (.inl ?_)).symm; omega) | (refine decide_eq_decide.2 ?_; omega)
   ·exact SMg
  ·refine zw rfl (zm rfl (zw rfl ?_));refine WL.ev (Ev.lenS rfl) rfl ?_
   refine zw rfl ?_;refine WL.ev (Ev.gtr rfl rfl) rfl ?_;refine ze rfl rfl ?_;refine WL.nil (kr4 _ _ _ ?_);refine ⟨rfl, rfl, Subs.consB rfl ?_ ?_⟩
   ·first | (refine (decide_eq_true (.inl ?_)).symm; omega) | (refine decide_eq_decide.2 ?_; omega)
   ·exact SMg
 ·refine zy rfl ?_ ?_<;>intro hc2<;>try simp only [qs] at hc2
  ·have hbad : (sB nm).length < 1 ∨ 64 < (sB nm).length := hc2
   refine Sr fun _ kh5 => za rfl (zz (kh5 ?_));refine zr (zr1 rfl rfl ?_);exact .inl ⟨hbad, rfl, hL, hch⟩
  ·have hbad : ¬ ((sB nm).length < 1 ∨ 64 < (sB nm).length) := hc2
   refine zkk ?_;refine kh3 (zc fun _ kh7 => Sr fun _ kh8 => zm rfl (zm rfl (zm rfl ?_)));refine WL.call hasF14 rfl rfl (shEncode_spec c S _ (hS.keep0 hwn) hwf hex) fun v w1 h' => ?_;obtain ⟨hge, hC⟩ := h';obtain ⟨ae, ce, rfl, hcape, hre⟩ := hge.row;have hgd := hge.mono (lo' := 0) (X' := []) (Nat.zero_le _) (by simp);have hch := hch.ta hC;have hwn := hwn.ta hC;have hL := hL.keep0 hC;refine WL.ev (Ev.build (vs := _) (cs := [_, _]) rfl rfl) rfl ?_;refine WL.call hasF72 rfl rfl (stAdd_spec b lo G nm ae (encS S) ce w0 _ hL hgd (encS_B8 S) (by omega) (by omega) hch hlo (Nat.le_trans hlw hwn.size)) fun v w2 h' => ?_;obtain ⟨h', -⟩ := h';rcases h' with ⟨hgt, rfl, hL, hch⟩ | ⟨hgt, rfl, hL, hch⟩
   ·unfold szG at hgt;dsimp only at hgt;refine WL.ev (Ev.not rfl) rfl ?_;refine zz (kh8 ?_);refine CW.condT rfl ?_;refine Sr fun _ kh10 => za rfl (zz (kh10 ?_));refine zr (zr1 rfl rfl ?_);exact .inr (.inl ⟨hbad, by omega, rfl, hL, hch⟩)
   ·unfold szG at hgt;dsimp only at hgt;refine WL.ev (Ev.not rfl) rfl ?_;refine zz (kh8 ?_);refine CW.condF rfl ?_;refine zkk ?_;refine kh7 (Sr fun _ kh12 => za rfl (zz (kh12 ?_)));refine zr (zr1 rfl rfl ?_);exact .inr (.inr ⟨hbad, by omega, rfl, ⟨_, hL⟩, hch⟩)

theorem stBytes_spec (b lo : Nat) (G : List RG) (w : World) (hL : LgM lo w b G) : Ret Tryz.prog 68 [.pointer (some ⟨b, 0, none⟩)] w fun u w' => GR w' 5 u8v w.heap.size [] u (bytG G) ∧ Chg [] w w' := by
 obtain ⟨⟨v, hb, hgc⟩, hda, htot⟩ := hL;obtain ⟨av, cv, rfl, hcapv, hrv, -⟩ := hgc.row;have hGl := totG_len G;have hch : Chg [] w w := Chg.refl _ _;refine zE1 Tryz.func68 rfl ?_;refine Sr fun _ kh1 => za rfl (zz (kh1 (Sr fun _ kh3 => za rfl (zz (kh3 (zc fun _ kh5 => Sr fun _ kh6 => zm rfl ?_))))));refine WL.ev (Ev.nilPtr rfl) rfl ?_;refine zf rfl ?_;refine WL.ev (Ev.load (v := .slice av G.length cv) rfl rfl (hb.at_ rfl)) rfl ?_;refine zn rfl (zm rfl (zz (kh6 ?_)));refine CW.block ?_;refine CW.loop (S := fun g : Nat × Value => [(3, g.2), (9, .slice av G.length cv), (10, .int .i64 (G.length : Int)), (11, .int .i64 (g.1 : Int))]) (Inv := fun g w1 => g.1 ≤ G.length ∧ GR w1 5 u8v w.heap.size [] g.2 (bytG (G.take g.1)) ∧ Chg [] w w1) (mu := fun g => G.length - g.1) ((0, .slice none 0 0)) ?_ ?_ ?_
 ·exact ⟨Nat.zero_le _, GR.nil, hch⟩
 ·exact SLp
 ·rintro ⟨i, vi⟩ wr ⟨hi, hgr, hch⟩;dsimp only at hi hgr;dsimp only;refine Sr fun _ kh8 => ?_;refine WL.ev (Ev.lss rfl rfl) rfl ?_;refine zz (kh8 (zc fun _ kh10 => ?_));refine zy rfl ?_ ?_<;>intro hc1<;>try simp only [qs] at hc1
  ·obtain ⟨⟨nm, data, dv⟩, hg⟩ : ∃ g, G[i]? = some g := ⟨_, List.getElem?_eq_getElem (by omega : i < G.length)⟩
   have hm := List.mem_of_getElem? hg;obtain ⟨q, rfl, -⟩ := hgc.at2 hg;obtain ⟨q2, e2, hcell⟩ := (hgc.keep0 hch).at2 hg;cases e2;obtain ⟨hd1, hB⟩ := hda _ hm;dsimp only at hd1 hB;obtain ⟨ad, cd, rfl, hcapd, hrd⟩ := hd1.row;have hs2 := szG_le hm;unfold szG at hs2;dsimp only at hs2;have hs1 := totG_take G i;rw [← bytG_len] at hs1;refine zkk ?_;refine kh10 (zc fun _ kh11 => ?_);refine CW.block ?_;refine Sr fun _ kh12 => ?_;refine WL.ev (Ev.indexAddr rfl rfl (by omega) (by omega)) rfl ?_;refine WL.ev (Ev.loadAgg (cs := [.string nm, .slice ad data.length cd]) rfl rfl rfl hcell) rfl ?_;refine WL.allocB (l := [.string ⟨#[]⟩, .slice none 0 0]) rfl rfl fun b5 wm5 hb5 hcm5 hge5 => ?_;have hgehch5 := Nat.le_trans hch.size hge5;have hch := hch.ta hcm5;have hgr := hgr.keep0 hcm5;refine zss rfl rfl ao hb5 rfl fun ws7 hb5_ hcs7 => ?_;(try simp only [Sx.splice, qt] at hb5_);have hch := hch.s1 hcs7;have hgr := hgr.keepV hcs7 (fun y hy => by rw [List.mem_singleton.1 hy]; exact hgr.notBK hb5 (by decide));have hb5 := hb5_;refine zz (kh12 ?_);refine zR fun _ kr14 => ?_;refine zm rfl (zg hb5 rfl ?_);refine WL.call hasF157 rfl rfl (stLaid_spec nm ad data cd _ (hrd.keep0 hch) hB (by omega) (by omega)) fun v w1 h' => ?_;obtain ⟨hg17, hC⟩ := h';obtain ⟨a17, c17, rfl, hcap17, hr17⟩ := hg17.row;have hch := hch.ta hC;have hgr := hgr.keep0 hC;refine WL.growR (f := u8v) (lo := w.heap.size) (X := []) (l := (bytG (G.take i))) (news := (laidB (sB nm) data)) (by rfl) (fun i => rfl) rfl rfl hgr (by first | rfl | (simp; done) | (simp; omega) | omega) hr17 (by first | omega | exact hch.size | exact hcr.size | exact Nat.le_refl _) (by simp) (by simp only [List.length_append, List.length_cons, List.length_nil, laidB_len]; omega) (by simp only [List.length_append, List.length_cons, List.length_nil, laidB_len]; omega) rfl fun v18 w18 hg18 hcg18 => ?_;have hch := GR.frame hgr hcg18 hch (by first | omega | exact Nat.le_refl _);have hgr := hg18;rw [show ((bytG (G.take i)) ++ (laidB (sB nm) data)) = bytG (G.take (i + 1)) from by rw [bytG_take hg]] at hgr;refine za rfl ?_;refine WL.nil (kr14 _ _ _ (kh11 ?_));refine zR fun _ kr15 => ?_;(first | refine zi rfl rfl ?_ | refine zo rfl rfl ?_);refine zm rfl ?_;refine WL.nil (kr15 _ _ _ ?_);refine ⟨rfl, (i + 1, v18), ?_, ?_, ?_⟩
   ·exact SLp
   ·exact ⟨by dsimp only; omega, hgr, hch⟩
   ·show G.length - (i + 1) < G.length - i; omega
  ·have hiX : i = G.length := by omega
   subst hiX;rw [List.take_length] at hgr;refine CW.exit ?_;refine kh5 (Sr fun _ kh16 => zm rfl (za rfl (zz (kh16 ?_))));refine zr (zr1 rfl rfl ?_);exact ⟨hgr, hch⟩

end

/- A shard that is read: Decode. No condition. -/
section
open Go Sx Wd Fl

theorem Decode_spec21 (a : Option Addr) (bs : List Nat) (c : Nat) (w : World) (hr : RW w a (bs.map u8v)) (hcap : bs.length ≤ c) (hab : ∀ ad, a = some ad → ad.block < w.heap.size) (hB : B8 bs) (hL : bs.length ≤ 70368744177664) (hg : GW w) : Ret Tryz.prog 26 [.slice a bs.length c] w fun u w' => ((∃ S b, decS bs = some S ∧ u = .tuple [.pointer (some ⟨b, 0, none⟩), .int .i64 0].toArray ∧ ShM 109 w' b S ∧ w.heap.size ≤ b ∧ S.wf) ∨ (decS bs = none ∧ u = .tuple [.pointer none, .int .i64 210].toArray)) ∧ Chg [] w w' := by
 have hch : Chg [] w w := Chg.refl _ _;have hg0 := hg;refine zE1 Tryz.func26 rfl ?_;refine Sr fun _ kh1 => za rfl (za rfl (zz (kh1 ?_)));refine Sq fun _ kh3 _ kr4 => ?_;refine zm rfl ?_;refine WL.ev (Ev.build (vs := _) (cs := [_, _]) rfl rfl) rfl ?_;refine zBh rfl rfl rfl hch fun b10 wm10 hb10 hcm10 hge10 hgehch10 hch => ?_;refine za rfl ?_;refine WL.nil (kr4 _ _ _ ?_);have hT : TpM (b10 + 1) _ b10 bs 0 false := ⟨a, c, by rw [Nat.sub_zero]; exact hb10, by rw [List.drop_zero]; exact hr.keep0 hch, Nat.zero_le _, by omega, Nat.lt_succ_self _, fun ad e => by have := hab ad e; omega⟩;have hlt10 := hb10.lt;refine kh3 _ _ _ ?_;refine Sq fun _ kh5 _ kr6 => ?_;refine WL.ev (Ev.build (vs := _) (cs := [_, _, _, _, _, _, _, _, _, _, _, _, _, _]) rfl rfl) rfl ?_;refine zBh rfl rfl rfl hch fun b12 wm12 hb12 hcm12 hge12 hgehch12 hch => ?_;have hT := hT.keep0 hcm12;refine za rfl ?_;refine WL.nil (kr6 _ _ _ ?_);have hlt12 : b10 + 1 ≤ b12 := by omega
 refine kh5 _ _ _ ?_;refine zc fun _ kh7 => zc fun _ kh8 => ?_;refine CW.regionHC 27 rfl hmix fun kR9 kr9 hS hdr => ?_;have hch := hch.ta hdr;have hb12 := hb12.keep0 hdr;have hT := hT.keep0 hdr;have hb12_r := hb12;refine wh 0 rfl hS (fun _ _ => Ev.move rfl) (wh 1 rfl hS (fun _ _ => Ev.nilPtr rfl) (wh 2 rfl hS (fun _ _ => Ev.fieldAddr rfl) (wh 3 rfl hS (fun _ _ => Ev.fieldAddr rfl) (wh 4 rfl hS (fun _ _ => Ev.move rfl) (wh 5 rfl hS (fun _ _ => Ev.nilPtr rfl) (wh 6 rfl hS (fun _ _ => Ev.fieldAddr rfl) (wh 7 rfl hS (fun _ _ => Ev.fieldAddr rfl) (wh 8 rfl hS (fun _ _ => Ev.move rfl) (wh 9 rfl hS (fun _ _ => Ev.nilPtr rfl) (wh 10 rfl hS (fun _ _ => Ev.fieldAddr rfl) (wh 11 rfl hS (fun _ _ => Ev.fieldAddr rfl) (wh 12 rfl hS (fun _ _ => Ev.move rfl) (wh 13 rfl hS (fun _ _ => Ev.nilPtr rfl) (wh 14 rfl hS (fun _ _ => Ev.fieldAddr rfl) (wh 15 rfl hS (fun _ _ => Ev.fieldAddr rfl) (wh 16 rfl hS (fun _ _ => Ev.move rfl) (wh 17 rfl hS (fun _ _ => Ev.nilPtr rfl) (wh 18 rfl hS (fun _ _ => Ev.fieldAddr rfl) (wh 19 rfl hS (fun _ _ => Ev.fieldAddr rfl) (wh 20 rfl hS (fun _ _ => Ev.move rfl) (wh 21 rfl hS (fun _ _ => Ev.nilPtr rfl) (wh 22 rfl hS (fun _ _ => Ev.fieldAddr rfl) (wh 23 rfl hS (fun _ _ => Ev.fieldAddr rfl) ?_)))))))))))))))))))))));refine wh 26 rfl hS (fun _ _ => Ev.move rfl) ?_;refine WH.buildSliceC (m := 6) (cs := [.pointer (some ⟨b12, 0, none⟩), .pointer (some ⟨b12, 1, none⟩), .pointer (some ⟨b12, 2, none⟩), .pointer (some ⟨b12, 3, none⟩), .pointer (some ⟨b12, 4, none⟩), .pointer (some ⟨b12, 5, none⟩)]) 24 rfl (by kernel_rfl) hS (by decide) (by decide) rfl (by kernel_rfl) rfl fun b37 w37 hn37 hS => ?_;have hb37 := hn37.at_;have hge37 := hn37.ge;have hl12 := hb12.lt;have hT := hT.keep0 hn37.chg;have hb12 := hb12.keep0 hn37.chg;have hch := hch.trans (Chg.any hn37.chg);refine wh 25 rfl hS (fun _ _ => Ev.len rfl) ?_;refine WH.done (by kernel_rfl) (kr9 _ _ _ ?_);refine kh8 ?_;refine CW.block ?_;refine CW.loop (S := fun i : Nat => [(2, .pointer none), (3, .int .i64 0), (4, .pointer (some ⟨b10, 0, none⟩)), (5, .pointer (some ⟨b12, 0, none⟩)), (37, .slice (some ⟨b37, 0, none⟩) 6 6), (38, .int .i64 6), (39, .int .i64 (i : Int))]) (Inv := KDc b10 b12 b37 bs w) (mu := fun i => 6 - i) (0) ?_ ?_ ?_
 ·exact ⟨Nat.zero_le _, hT, hb12, hb37, hch⟩
 ·exact SLp
 ·rintro i wr ⟨hi, hT, hb12, hb37, hch⟩;have hne3 : b37 ≠ b12 ∧ b37 ≠ b10 := ⟨by omega, by omega⟩;refine Sr fun _ kh10 => ?_;refine WL.ev (Ev.lss rfl rfl) rfl ?_;refine zz (kh10 (zc fun _ kh12 => ?_));refine zy rfl ?_ ?_<;>intro hc1<;>try simp only [qs] at hc1
  ·have hi6 : i < 6 := by have := hc1; omega
   have hkl := rdK_len bs i;refine zkk ?_;refine kh12 (zc fun _ kh13 => ?_);refine CW.block ?_;refine Sr fun _ kh14 => ?_;refine WL.ev (Ev.ixB (i) rfl rfl (by omega) (by omega)) rfl ?_;refine WL.ev (Ev.load (v := .pointer (some ⟨b12, i, none⟩)) rfl rfl (hb37.at_ (ptr6 hi6))) rfl ?_;refine za rfl (zz (kh14 ?_));refine zR fun _ kr16 => ?_;refine zm rfl (zm rfl ?_);refine WL.call hasF84 rfl rfl (count_spec21 (b10 + 1) b10 _ bs _ _ hT hL hB) fun v w1 h' => ?_;obtain ⟨rfl, hT, hC⟩ := h';have hb12 := hb12.keep hC (by simp; omega);have hb37 := hb37.keep hC (by simp; omega);have hch := hch.step hC (fun y hy => .inr (by rw [List.mem_singleton.1 hy]; omega));have hK1 : rdK bs (i + 1) = ((rdK bs i).1 ++ [(rdC bs (rdK bs i).2.1 (rdK bs i).2.2).1], (rdC bs (rdK bs i).2.1 (rdK bs i).2.2).2) := by rw [rdK]
   refine WL.ev (Ev.nilPtr rfl) rfl ?_;refine WL.storeC rfl rfl rfl hb12 (by show i < 14; omega) rfl fun ws6 hb12_ hcs6 => ?_;rw [cells14_set hkl hi6] at hb12_;have hT := hT.keepBK hb12 hcs6 (by intro v hv; simp only [cells14, List.mem_cons, List.not_mem_nil, or_false] at hv; rcases hv with rfl | rfl | rfl | rfl | rfl | rfl | rfl | rfl | rfl | rfl | rfl | rfl | rfl | rfl <;> rfl) hlt12;have hb37 := hb37.keep hcs6 (by simp; omega);have hch := hch.step hcs6 (fun y hy => .inr (by rw [List.mem_singleton.1 hy]; omega));have hb12 := hb12_;refine WL.nil (kr16 _ _ _ (kh13 ?_));refine zR fun _ kr17 => ?_;(first | refine zi rfl rfl ?_ | refine zo rfl rfl ?_);refine zm rfl ?_;refine WL.nil (kr17 _ _ _ ?_);refine ⟨rfl, i + 1, ?_, ?_, ?_⟩
   ·exact SLp
   ·refine ⟨by omega, ?_, ?_, hb37, hch⟩
    · rw [hK1]; exact hT
    · rw [hK1]; exact hb12
   ·show 6 - (i + 1) < 6 - i; omega
  ·have hi6 : i = 6 := by have := hc1; omega
   subst hi6;have hkl := rdK_len bs 6;have hkle := rdK_le bs 6;generalize hRK : rdK bs 6 = RK at *;obtain ⟨l, p6, d6⟩ := RK
   try dsimp only
   dsimp only at hT hb12 hkl hkle;obtain ⟨n1, n2, n3, n4, n5, n6, rfl⟩ := list6 hkl;obtain ⟨s, hs⟩ : ∃ s : SP, s = spOf [n1, n2, n3, n4, n5, n6] := ⟨_, rfl⟩;have hsle : s.le 1099511627776 := by rw [hs]; exact ⟨hkle _ (by simp [spOf]), hkle _ (by simp [spOf]), hkle _ (by simp [spOf]), hkle _ (by simp [spOf]), hkle _ (by simp [spOf]), hkle _ (by simp [spOf])⟩
   have hb12 : BK wr b12 109 [.int .i64 (s.na : Int), .int .i64 (s.up : Int), .int .i64 (s.dn : Int), .int .i64 (s.mi : Int), .int .i64 (s.pl : Int), .int .i64 (s.al : Int), .bool false, .slice none 0 0, .int .i64 0, .bool false, .slice none 0 0, .int .i64 0, .float .f64 0, .float .f64 0] := by rw [hs]; exact hb12
   obtain ⟨hs1, hs2, hs3, hs4, hs5, hs6⟩ := id hsle;refine CW.exit ?_;refine kh7 (zc fun _ kh18 => ?_);refine CW.seqMC 67 (decide (d6 = true ∨ (Sh.mk s Dy.zero Dy.zero 0 0).fin < (s.mi : Int) + s.pl)) ?_ ?_
   ·intro hcM;refine CW.regionHC 20 rfl hmix fun kR19 kr19 hS hdr => ?_;have hcM := hcM.ta hdr;have hb12 := hb12.keep0 hdr;have hT := hT.keep0 hdr;have hb12_r := hb12;obtain ⟨at8, ct8, hbt, hrt, -⟩ := id hT;have hbt_r := hbt;refine wh 0 rfl hS (fun _ _ => Ev.move rfl) (wh 1 rfl hS (fun _ _ => Ev.nilPtr rfl) (wh 2 rfl hS (fun _ _ => Ev.fieldAddr rfl) (wh 3 rfl hS (fun _ hw' => Ev.load (v := .bool d6) rfl rfl ((hbt_r.keep0 hw').at_ rfl)) ?_)));cases d6
    ·refine wh 4 rfl hS (fun _ _ => Ev.move rfl) ?_;refine WH.takeG 5 rfl (by kernel_rfl) (by kernel_rfl) (by kernel_rfl) rfl rfl rfl rfl hS (fun w' hw' => Ev.move rfl) rfl ?_;refine WH.takeG 7 rfl (by kernel_rfl) (by kernel_rfl) (by kernel_rfl) rfl rfl rfl rfl hS (fun w' hw' => Ev.move rfl) rfl ?_;refine WH.takeG 8 rfl (by kernel_rfl) (by kernel_rfl) (by kernel_rfl) rfl rfl rfl rfl hS (fun w' hw' => Ev.nilPtr rfl) rfl ?_;refine WH.takeG 9 rfl (by kernel_rfl) (by kernel_rfl) (by kernel_rfl) rfl rfl rfl rfl hS (fun w' hw' => Ev.fieldAddr rfl) rfl ?_;refine WH.takeG 10 rfl (by kernel_rfl) (by kernel_rfl) (by kernel_rfl) rfl rfl rfl rfl hS (fun w' hw' => Ev.fieldAddr rfl) rfl ?_;refine WH.takeG 11 rfl (by kernel_rfl) (by kernel_rfl) (by kernel_rfl) rfl rfl rfl rfl hS (fun w' hw' => Ev.load rfl rfl ((hb12_r.keep0 hw').at_ rfl)) rfl ?_;refine WH.takeG 12 rfl (by kernel_rfl) (by kernel_rfl) (by kernel_rfl) rfl rfl rfl rfl hS (fun w' hw' => Ev.move rfl) rfl ?_;refine WH.takeG 13 rfl (by kernel_rfl) (by kernel_rfl) (by kernel_rfl) rfl rfl rfl rfl hS (fun w' hw' => Ev.nilPtr rfl) rfl ?_;refine WH.takeG 14 rfl (by kernel_rfl) (by kernel_rfl) (by kernel_rfl) rfl rfl rfl rfl hS (fun w' hw' => Ev.fieldAddr rfl) rfl ?_;refine WH.takeG 15 rfl (by kernel_rfl) (by kernel_rfl) (by kernel_rfl) rfl rfl rfl rfl hS (fun w' hw' => Ev.fieldAddr rfl) rfl ?_;refine WH.takeG 16 rfl (by kernel_rfl) (by kernel_rfl) (by kernel_rfl) rfl rfl rfl rfl hS (fun w' hw' => Ev.load rfl rfl ((hb12_r.keep0 hw').at_ rfl)) rfl ?_;refine WH.takeG 17 rfl (by kernel_rfl) (by kernel_rfl) (by kernel_rfl) rfl rfl rfl rfl hS (fun w' hw' => Ev.addIn rfl rfl (by omega)) rfl ?_;refine WH.oneCallG 6 rfl (by kernel_rfl) rfl rfl rfl rfl hasF85 rfl rfl (finite_spec b12 (Sh.mk s Dy.zero Dy.zero 0 0) _ ⟨_, _, hb12, (by rw [show (Sh.mk s Dy.zero Dy.zero 0 0).V.m = 0 from rfl, wd_zero]; exact NU.nil), (by rw [show (Sh.mk s Dy.zero Dy.zero 0 0).Q.m = 0 from rfl, wd_zero]; exact NU.nil)⟩ hsle) fun v w2 h' => ?_;obtain ⟨rfl, hC⟩ := h';have hcM := hcM.ta hC;have hS := hS.trans hC;refine ⟨hS, ?_⟩;refine WH.takeG 18 rfl (by kernel_rfl) (by kernel_rfl) (by kernel_rfl) rfl rfl rfl rfl hS (fun w' hw' => Ev.lss rfl rfl) rfl ?_;refine wh 19 rfl hS (fun _ _ => Ev.pickF rfl rfl rfl) ?_;refine WH.done (by kernel_rfl) (kr19 _ _ _ ?_);refine ⟨rfl, hcM, Subs.consB rfl ?_ ?_⟩
     ·first | (simp_all; done) | (refine decide_eq_decide.2 ?_; omega) | (refine (decide_eq_true ?_).symm; omega) | (refine (decide_eq_false ?_).symm; omega)
     ·exact SMg
    ·refine wh 4 rfl hS (fun _ _ => Ev.move rfl) ?_;refine WH.passG 5 rfl (by kernel_rfl) (by kernel_rfl) (by kernel_rfl) rfl rfl rfl rfl hS rfl ?_;refine WH.passG 7 rfl (by kernel_rfl) (by kernel_rfl) (by kernel_rfl) rfl rfl rfl rfl hS rfl ?_;refine WH.passG 8 rfl (by kernel_rfl) (by kernel_rfl) (by kernel_rfl) rfl rfl rfl rfl hS rfl ?_;refine WH.passG 9 rfl (by kernel_rfl) (by kernel_rfl) (by kernel_rfl) rfl rfl rfl rfl hS rfl ?_;refine WH.passG 10 rfl (by kernel_rfl) (by kernel_rfl) (by kernel_rfl) rfl rfl rfl rfl hS rfl ?_;refine WH.passG 11 rfl (by kernel_rfl) (by kernel_rfl) (by kernel_rfl) rfl rfl rfl rfl hS rfl ?_;refine WH.passG 12 rfl (by kernel_rfl) (by kernel_rfl) (by kernel_rfl) rfl rfl rfl rfl hS rfl ?_;refine WH.passG 13 rfl (by kernel_rfl) (by kernel_rfl) (by kernel_rfl) rfl rfl rfl rfl hS rfl ?_;refine WH.passG 14 rfl (by kernel_rfl) (by kernel_rfl) (by kernel_rfl) rfl rfl rfl rfl hS rfl ?_;refine WH.passG 15 rfl (by kernel_rfl) (by kernel_rfl) (by kernel_rfl) rfl rfl rfl rfl hS rfl ?_;refine WH.passG 16 rfl (by kernel_rfl) (by kernel_rfl) (by kernel_rfl) rfl rfl rfl rfl hS rfl ?_;refine WH.passG 17 rfl (by kernel_rfl) (by kernel_rfl) (by kernel_rfl) rfl rfl rfl rfl hS rfl ?_;refine WH.passG1 6 rfl (by kernel_rfl) rfl rfl rfl rfl hS rfl ?_;refine WH.passG 18 rfl (by kernel_rfl) (by kernel_rfl) (by kernel_rfl) rfl rfl rfl rfl hS rfl ?_;refine wh 19 rfl hS (fun _ _ => Ev.pickT rfl rfl rfl) ?_;refine WH.done (by kernel_rfl) (kr19 _ _ _ ?_);refine ⟨rfl, hcM, Subs.consB rfl ?_ ?_⟩
     ·first | (simp_all; done) | (refine decide_eq_decide.2 ?_; omega) | (refine (decide_eq_true ?_).symm; omega) | (refine (decide_eq_false ?_).symm; omega)
     ·exact SMg
   ·intro wM hcM;have hch := hch.ta hcM;have hb12 := hb12.keep0 hcM;have hT := hT.keep0 hcM;refine zy rfl ?_ ?_<;>intro hc2<;>try simp only [qs] at hc2
    ·have h1 : d6 = true ∨ (Sh.mk s Dy.zero Dy.zero 0 0).fin < (s.mi : Int) + s.pl := by simpa using hc2
     have hD : decS bs = none := by unfold decS; rw [hRK]; exact if_pos (by rw [hs] at h1; exact h1)
     refine Sr fun _ kh20 => za rfl (za rfl (zz (kh20 ?_)));refine zr (zr2 rfl rfl rfl ?_);refine ⟨.inr ⟨hD, rfl⟩, hch⟩
    ·have h1 : ¬ (d6 = true ∨ (Sh.mk s Dy.zero Dy.zero 0 0).fin < (s.mi : Int) + s.pl) := by simpa using hc2
     have hD0 : decS bs = decD bs s (rdD bs p6 d6) := by unfold decS; rw [hRK]; dsimp only; rw [← hs]; exact if_neg h1
     refine zkk ?_;refine kh18 (Sr fun _ kh22 => zm rfl (zm rfl (zm rfl ?_)));refine WL.call hasF86 rfl rfl (tdyad_spec (b10 + 1) b10 p6 bs d6 _ hT hL hB (Nat.le_trans hlt12 (Nat.le_of_lt hb12.lt))) fun v w3 h' => ?_;obtain ⟨sl1, rfl, hN1, hT, hC⟩ := h';have hV := rdD_ok hB (p := p6) (bad := d6);generalize hRV : rdD bs p6 d6 = RV at *;obtain ⟨ng1, ws1, e1, p7, d7⟩ := RV
     try dsimp only
     dsimp only at hT hN1 hV hD0;have ho1 := hN1.one;have hb12 := hb12.keep hC (by simp; omega);have hch := hch.step hC (fun y hy => .inr (by rw [List.mem_singleton.1 hy]; omega));refine zm rfl ?_;refine WL.call hasF86 rfl rfl (tdyad_spec (b10 + 1) b10 p7 bs d7 _ hT hL hB (Nat.le_trans hlt12 (Nat.le_of_lt hb12.lt))) fun v w4 h' => ?_;obtain ⟨sl2, rfl, hN2, hT_, hC⟩ := h';have hN1 := hN1.keepTp hT hC;have hT := hT_;have hQ := rdD_ok hB (p := p7) (bad := d7);have hD1 : decS bs = decV bs s (ng1, ws1, e1, p7, d7) (rdD bs p7 d7) := hD0;generalize hRQ : rdD bs p7 d7 = RQ at *;obtain ⟨ng2, ws2, e2, p8, d8⟩ := RQ
     try dsimp only
     dsimp only at hT hN2 hQ;have ho2 := hN2.one;have hb12 := hb12.keep hC (by simp; omega);have hch := hch.step hC (fun y hy => .inr (by rw [List.mem_singleton.1 hy]; omega));refine WL.ev (Ev.nilPtr rfl) rfl ?_;refine zf rfl ?_;refine zss rfl rfl ao hb12 rfl fun ws20 hb12_ hcs20 => ?_;(try simp only [Sx.splice, qt] at hb12_);have hch := hch.s1 hcs20;have hT := hT.keepBK hb12 hcs20 an;have hN1 := hN1.keepBK hb12 hcs20 an;have hN2 := hN2.keepBK hb12 hcs20 an;have hb12 := hb12_;refine WL.ev (Ev.nilPtr rfl) rfl ?_;refine zf rfl ?_;refine zss rfl rfl ao hb12 rfl fun ws21 hb12_ hcs21 => ?_;(try simp only [Sx.splice, qt] at hb12_);have hch := hch.s1 hcs21;have hT := hT.keepBK hb12 hcs21 an;have hN1 := hN1.keepBK hb12 hcs21 an;have hN2 := hN2.keepBK hb12 hcs21 an;have hb12 := hb12_;refine zz (kh22 ?_);refine CW.seqJ (fun D s' w' => D = [] ∧ (∃ lo hi q bd, rdE (decide (s.na < s.al)) bs p8 d8 = (lo, hi, q, bd) ∧ lo < 18446744073709551616 ∧ hi < 18446744073709551616 ∧ TpM (b10 + 1) w' b10 bs q bd ∧ BK w' b12 109 [.int .i64 (s.na : Int), .int .i64 (s.up : Int), .int .i64 (s.dn : Int), .int .i64 (s.mi : Int), .int .i64 (s.pl : Int), .int .i64 (s.al : Int), .bool ng1, sl1, .int .i64 e1, .bool ng2, sl2, .int .i64 e2, .float .f64 lo, .float .f64 hi]) ∧ NU w' sl1 ws1 ∧ NU w' sl2 ws2 ∧ Chg [] w w' ∧ Subs [(2, .pointer none), (3, .int .i64 0), (4, .pointer (some ⟨b10, 0, none⟩)), (5, .pointer (some ⟨b12, 0, none⟩))] s') ?_ ?_
     ·refine Sr fun _ kh25 => zm rfl ?_;refine WL.call hasF64 rfl rfl (someB_spec b12 s _ _ _ _ _ _ _ _ _ hb12 hsle) fun v w5 h' => ?_;obtain ⟨rfl, hC⟩ := h';have hch := hch.ta hC;have hb12 := hb12.keep0 hC;have hT := hT.keep0 hC;have hN1 := hN1.keep0 hC;have hN2 := hN2.keep0 hC;refine zz (kh25 ?_);refine zy rfl ?_ ?_<;>intro hc3<;>try simp only [qs] at hc3
      ·have hsm : s.na < s.al := by simpa using hc3
       refine zR fun _ kr27 => ?_;refine zm rfl (zm rfl (zm rfl ?_));refine WL.call hasF88 rfl rfl (number_spec (b10 + 1) b10 _ bs _ 8 _ hT hL hB (by decide)) fun v w6 h' => ?_;obtain ⟨rfl, hT_, hC⟩ := h';have hN1 := hN1.keepTp hT hC;have hN2 := hN2.keepTp hT hC;have hT := hT_;have hm1 := rdN_lt hB p8 d8 8 (by decide);generalize hR1 : rdN bs p8 d8 8 = R1 at *;obtain ⟨m1, q1, x1⟩ := R1;dsimp only at hT hm1;dsimp only;have hb12 := hb12.keep hC (by simp; omega);have hch := hch.step hC (fun y hy => .inr (by rw [List.mem_singleton.1 hy]; omega));refine WL.ev (Ev.ext rfl (ext87 _ _)) rfl ?_;refine zm rfl ?_;refine WL.call hasF88 rfl rfl (number_spec (b10 + 1) b10 _ bs _ 8 _ hT hL hB (by decide)) fun v w7 h' => ?_;obtain ⟨rfl, hT_, hC⟩ := h';have hN1 := hN1.keepTp hT hC;have hN2 := hN2.keepTp hT hC;have hT := hT_;have hm2 := rdN_lt hB q1 x1 8 (by decide);generalize hR2 : rdN bs q1 x1 8 = R2 at *;obtain ⟨m2, q2, x2⟩ := R2;dsimp only at hT hm2;dsimp only;have hb12 := hb12.keep hC (by simp; omega);have hch := hch.step hC (fun y hy => .inr (by rw [List.mem_singleton.1 hy]; omega));refine WL.ev (Ev.ext rfl (ext87 _ _)) rfl ?_;refine WL.ev (Ev.nilPtr rfl) rfl ?_;refine zf rfl ?_;refine WL.storeC rfl rfl o1 hb12 (by simp) rfl fun ws22 hb12_ hcs22 => ?_;(try simp only [Sx.splice, qt] at hb12_);have hch := hch.s1 hcs22;have hT := hT.keepBK hb12 hcs22 an;have hN1 := hN1.keepBK hb12 hcs22 an;have hN2 := hN2.keepBK hb12 hcs22 an;have hb12 := hb12_;refine WL.ev (Ev.nilPtr rfl) rfl ?_;refine zf rfl ?_;refine WL.storeC rfl rfl o1 hb12 (by simp) rfl fun ws23 hb12_ hcs23 => ?_;(try simp only [Sx.splice, qt] at hb12_);have hch := hch.s1 hcs23;have hT := hT.keepBK hb12 hcs23 an;have hN1 := hN1.keepBK hb12 hcs23 an;have hN2 := hN2.keepBK hb12 hcs23 an;have hb12 := hb12_;refine WL.nil (kr27 _ _ _ ?_);refine ⟨rfl, ⟨m1, m2, q2, x2, ?_, hm1, hm2, hT, ?_⟩, hN1, hN2, hch, (by first | ((repeat (first | exact Subs.refl | refine Subs.drop1 (by rfl) ?_)); done) | ((repeat (first | exact Subs.nil | refine Subs.cons rfl ?_)); done))⟩
       · unfold rdE; rw [if_pos (decide_eq_true hsm), hR1]; dsimp only; rw [hR2]
       · exact hb12
      ·have hsm : ¬ s.na < s.al := by simpa using hc3
       refine zkk ?_;refine ⟨rfl, ⟨0, 0, p8, d8, ?_, by decide, by decide, hT, hb12⟩, hN1, hN2, hch, (by first | ((repeat (first | exact Subs.refl | refine Subs.drop1 (by rfl) ?_)); done) | ((repeat (first | exact Subs.nil | refine Subs.cons rfl ?_)); done))⟩;unfold rdE; rw [if_neg (by simpa using hsm)]
     ·rintro _ s' wJ ⟨rfl, ⟨lo, hi, q, bd, hE, hlo64, hhi64, hT, hb12⟩, hN1, hN2, hch, hsub⟩;refine CW.sub hsub ?_;have hD2 : decS bs = decE bs s (ng1, ws1, e1, p7, d7) (ng2, ws2, e2, p8, d8) (lo, hi, q, bd) := by rw [hD1, ← hE]; rfl
      have hd8 : bd = false → d8 = false := fun z => rdE_mono hE z;have hd7 : bd = false → d7 = false := fun z => rdD_mono hRQ (hd8 z);refine zc fun _ kh28 => ?_;refine CW.seqMC 117 (decide (bd = true ∨ 0 < bs.length - q ∨ ¬ sumsP (shOf s (ng1, ws1, e1, p7, d7) (ng2, ws2, e2, p8, d8) lo hi) ∨ ((shOf s (ng1, ws1, e1, p7, d7) (ng2, ws2, e2, p8, d8) lo hi).some ∧ ¬ endsP (shOf s (ng1, ws1, e1, p7, d7) (ng2, ws2, e2, p8, d8) lo hi)))) ?_ ?_
      ·intro hcM;obtain ⟨at13, ct13, hbt, hrt, -⟩ := id hT;refine zR fun _ kr29 => ?_;refine zm rfl ?_;refine WL.ev (Ev.nilPtr rfl) rfl ?_;refine zf rfl ?_;refine WL.ev (Ev.load (v := .bool bd) rfl rfl (hbt.at_ rfl)) rfl ?_;refine zm rfl ?_;refine zb ?_ ?_<;>intro hg4<;>try simp only [qs] at hg4
       ·refine zv rfl (zv rfl (zv rfl (zv rfl (zv rfl (zv rfl (zt rfl rfl (zm rfl (zv rfl (zv rfl (zv rfl (zt rfl rfl (zm rfl (zv rfl (zv rfl (zv rfl (zu rfl (zu rfl (zu rfl (zv rfl (zt rfl rfl ?_))))))))))))))))))));refine WL.nil (kr29 _ _ _ ?_);refine ⟨rfl, hcM, Subs.consB rfl ?_ ?_⟩
        ·first | (refine (decide_eq_true ?_).symm; simp_all; done) | (refine (decide_eq_false ?_).symm; simp_all; done) | (refine (decide_eq_true (.inr (.inl ?_))).symm; omega) | (by_cases he : endsP (shOf s (ng1, ws1, e1, p7, d7) (ng2, ws2, e2, p8, d8) lo hi) <;> simp_all [Sh.some, shOf]; done) | (refine decide_eq_decide.2 ?_; simp_all; done)
        ·exact SMg
       ·refine zw rfl (zm rfl (zw rfl ?_));refine WL.ev (Ev.nilPtr rfl) rfl ?_
        refine zw rfl (zf rfl (zw rfl ?_));refine WL.ev (Ev.load (v := .slice at13 (bs.length - q) ct13) rfl rfl (hbt.at_ rfl)) rfl ?_;refine zw rfl (zn rfl (zw rfl ?_));refine WL.ev (Ev.gtr rfl rfl) rfl ?_;refine ze rfl rfl (zm rfl ?_);refine zb ?_ ?_<;>intro hg5<;>try simp only [qs] at hg5
        ·refine zv rfl (zv rfl (zv rfl (zt rfl rfl (zm rfl (zv rfl (zv rfl (zv rfl (zu rfl (zu rfl (zu rfl (zv rfl (zt rfl rfl ?_))))))))))));refine WL.nil (kr29 _ _ _ ?_);refine ⟨rfl, hcM, Subs.consB rfl ?_ ?_⟩
         ·first | (refine (decide_eq_true ?_).symm; simp_all; done) | (refine (decide_eq_false ?_).symm; simp_all; done) | (refine (decide_eq_true (.inr (.inl ?_))).symm; omega) | (by_cases he : endsP (shOf s (ng1, ws1, e1, p7, d7) (ng2, ws2, e2, p8, d8) lo hi) <;> simp_all [Sh.some, shOf]; done) | (refine decide_eq_decide.2 ?_; simp_all; done)
         ·exact SMg
        ·refine zw rfl (zm rfl (zw rfl ?_));refine WL.call hasF89 rfl rfl (sums_spec21 b12 (shOf s (ng1, ws1, e1, p7, d7) (ng2, ws2, e2, p8, d8) lo hi) _ ⟨sl1, sl2, hb12, (by rw [show (shOf s (ng1, ws1, e1, p7, d7) (ng2, ws2, e2, p8, d8) lo hi).V.m = val ws1 from rfl, (hV (hd7 (by assumption))).1]; exact hN1), (by rw [show (shOf s (ng1, ws1, e1, p7, d7) (ng2, ws2, e2, p8, d8) lo hi).Q.m = val ws2 from rfl, (hQ (hd8 (by assumption))).1]; exact hN2)⟩ hsle (hV (hd7 (by assumption))).2 (hQ (hd8 (by assumption))).2 (hg0.keep0 hch)) fun v w8 h' => ?_
         obtain ⟨rfl, hC⟩ := h';have hcM := hcM.ta hC;have hb12 := hb12.keep0 hC;have hN1 := hN1.keep0 hC;have hN2 := hN2.keep0 hC;refine zw rfl ?_;refine WL.ev (Ev.not rfl) rfl ?_;refine ze rfl rfl (zm rfl ?_);refine zb ?_ ?_<;>intro hg6<;>try simp only [qs] at hg6
         ·refine zv rfl (zv rfl (zv rfl (zu rfl (zu rfl (zu rfl (zv rfl (zt rfl rfl ?_)))))));refine WL.nil (kr29 _ _ _ ?_);refine ⟨rfl, hcM, Subs.consB rfl ?_ ?_⟩
          ·first | (refine (decide_eq_true ?_).symm; simp_all; done) | (refine (decide_eq_false ?_).symm; simp_all; done) | (refine (decide_eq_true (.inr (.inl ?_))).symm; omega) | (by_cases he : endsP (shOf s (ng1, ws1, e1, p7, d7) (ng2, ws2, e2, p8, d8) lo hi) <;> simp_all [Sh.some, shOf]; done) | (refine decide_eq_decide.2 ?_; simp_all; done)
          ·exact SMg
         ·refine zw rfl (zm rfl (zw rfl ?_));refine WL.call hasF64 rfl rfl (someB_spec b12 s _ _ _ _ _ _ _ _ _ hb12 hsle) fun v w9 h' => ?_
          obtain ⟨rfl, hC⟩ := h';have hcM := hcM.ta hC;have hb12 := hb12.keep0 hC;have hN1 := hN1.keep0 hC;have hN2 := hN2.keep0 hC;refine zw rfl (zm rfl ?_);refine zb ?_ ?_<;>intro hg7<;>try simp only [qs] at hg7
          ·refine zw rfl (zm rfl (zw rfl ?_));refine WL.call hasF90 rfl rfl (ends_spec21 b12 (shOf s (ng1, ws1, e1, p7, d7) (ng2, ws2, e2, p8, d8) lo hi) _ ⟨sl1, sl2, hb12, (by rw [show (shOf s (ng1, ws1, e1, p7, d7) (ng2, ws2, e2, p8, d8) lo hi).V.m = val ws1 from rfl, (hV (hd7 (by assumption))).1]; exact hN1), (by rw [show (shOf s (ng1, ws1, e1, p7, d7) (ng2, ws2, e2, p8, d8) lo hi).Q.m = val ws2 from rfl, (hQ (hd8 (by assumption))).1]; exact hN2)⟩ hsle hlo64 hhi64) fun v w10 h' => ?_
           obtain ⟨rfl, hC⟩ := h';have hcM := hcM.ta hC;refine zw rfl ?_;refine WL.ev (Ev.not rfl) rfl ?_;refine zw rfl (zt rfl rfl (ze rfl rfl ?_));refine WL.nil (kr29 _ _ _ ?_);refine ⟨rfl, hcM, Subs.consB rfl ?_ ?_⟩
           ·first | (refine (decide_eq_true ?_).symm; simp_all; done) | (refine (decide_eq_false ?_).symm; simp_all; done) | (refine (decide_eq_true (.inr (.inl ?_))).symm; omega) | (by_cases he : endsP (shOf s (ng1, ws1, e1, p7, d7) (ng2, ws2, e2, p8, d8) lo hi) <;> simp_all [Sh.some, shOf]; done) | (refine decide_eq_decide.2 ?_; simp_all; done)
           ·exact SMg
          ·refine zv rfl (zv rfl (zv rfl (zw rfl (ze rfl rfl (ze rfl rfl ?_)))));refine WL.nil (kr29 _ _ _ ?_);refine ⟨rfl, hcM, Subs.consB rfl ?_ ?_⟩
           ·first | (refine (decide_eq_true ?_).symm; simp_all; done) | (refine (decide_eq_false ?_).symm; simp_all; done) | (refine (decide_eq_true (.inr (.inl ?_))).symm; omega) | (by_cases he : endsP (shOf s (ng1, ws1, e1, p7, d7) (ng2, ws2, e2, p8, d8) lo hi) <;> simp_all [Sh.some, shOf]; done) | (refine decide_eq_decide.2 ?_; simp_all; done)
           ·exact SMg
      ·intro wM hcM;have hch := hch.ta hcM;have hb12 := hb12.keep0 hcM;have hN1 := hN1.keep0 hcM;have hN2 := hN2.keep0 hcM;refine zy rfl (fun hc8 => ?_) fun hc8 => ?_
       ·skip;have h3 : bd = true ∨ 0 < bs.length - q ∨ ¬ sumsP (shOf s (ng1, ws1, e1, p7, d7) (ng2, ws2, e2, p8, d8) lo hi) ∨ ((shOf s (ng1, ws1, e1, p7, d7) (ng2, ws2, e2, p8, d8) lo hi).some ∧ ¬ endsP (shOf s (ng1, ws1, e1, p7, d7) (ng2, ws2, e2, p8, d8) lo hi)) := of_decide_eq_true hc8;refine Sr fun _ kh30 => za rfl (za rfl (zz (kh30 ?_)));refine zr (zr2 rfl rfl rfl ?_);refine ⟨.inr ⟨?_, rfl⟩, hch⟩;rw [hD2];exact if_pos h3
       ·skip;have h3 : ¬ (bd = true ∨ 0 < bs.length - q ∨ ¬ sumsP (shOf s (ng1, ws1, e1, p7, d7) (ng2, ws2, e2, p8, d8) lo hi) ∨ ((shOf s (ng1, ws1, e1, p7, d7) (ng2, ws2, e2, p8, d8) lo hi).some ∧ ¬ endsP (shOf s (ng1, ws1, e1, p7, d7) (ng2, ws2, e2, p8, d8) lo hi))) := of_decide_eq_false hc8;have hbd : bd = false := Bool.eq_false_iff.2 (fun z => h3 (.inl z));refine zkk ?_;refine kh28 (Sr fun _ kh32 => zm rfl (za rfl (za rfl (zz (kh32 ?_)))));refine zr (zr2 rfl rfl rfl ?_);refine ⟨.inl ⟨(shOf s (ng1, ws1, e1, p7, d7) (ng2, ws2, e2, p8, d8) lo hi), b12, ?_, rfl, ⟨sl1, sl2, hb12, (by rw [show (shOf s (ng1, ws1, e1, p7, d7) (ng2, ws2, e2, p8, d8) lo hi).V.m = val ws1 from rfl, (hV (hd7 hbd)).1]; exact hN1), (by rw [show (shOf s (ng1, ws1, e1, p7, d7) (ng2, ws2, e2, p8, d8) lo hi).Q.m = val ws2 from rfl, (hQ (hd8 hbd)).1]; exact hN2)⟩, by omega, ⟨hsle, (hV (hd7 hbd)).2, (hQ (hd8 hbd)).2, hlo64, hhi64⟩⟩, hch⟩;rw [hD2];exact if_neg h3

end

/- Store: reading a record. No condition. -/
section
open Go Sx Wd Fl

/-- What reading the first record of some bytes comes to: 0, its name, its data; or why there is none. -/
def rdRec (bs : List Nat) : Nat × List Nat × List Nat :=
  if bs.getD 0 0 < 1 ∨ 64 < bs.getD 0 0 then (1, [], []) else if bs.length < 4 + bs.getD 0 0 then (2, [], []) else
  if bs.length < 4 + bs.getD 0 0 + leV ((bs.drop (1 + bs.getD 0 0)).take 3) + 4 then (2, [], []) else
  if (bs.drop (4 + bs.getD 0 0 + leV ((bs.drop (1 + bs.getD 0 0)).take 3))).take 4 ≠ leB (fnv (bs.take (4 + bs.getD 0 0 + leV ((bs.drop (1 + bs.getD 0 0)).take 3)))) 4 then (3, [], []) else
  if decS ((bs.drop (4 + bs.getD 0 0)).take (leV ((bs.drop (1 + bs.getD 0 0)).take 3))) = none then (4, [], []) else (0, (bs.drop 1).take (bs.getD 0 0), (bs.drop (4 + bs.getD 0 0)).take (leV ((bs.drop (1 + bs.getD 0 0)).take 3)))
/-- The store's errors lie where they lie. -/
structure GE (w : World) (ev : Nat → Value) : Prop where
  a : w.cell? ⟨2, 0, none⟩ = some (ev 1)
  b : w.cell? ⟨3, 0, none⟩ = some (ev 2)
  c : w.cell? ⟨4, 0, none⟩ = some (ev 3)
  d : w.cell? ⟨5, 0, none⟩ = some (ev 4)
theorem GE.keep {w w' : World} {T : List Nat} {ev : Nat → Value} (h : GE w ev) (hc : Chg T w w') (hT : ∀ b ∈ T, w.heap.size ≤ b) : GE w' ev := by
  have f : ∀ (k : Nat) (v : Value), w.cell? ⟨k, 0, none⟩ = some v → w'.cell? ⟨k, 0, none⟩ = some v := fun k v hk => hc.cell hk fun hm => by
    have := hT _ hm
    have := block_lt_of_cell hk
    omega
  exact ⟨f _ _ h.a, f _ _ h.b, f _ _ h.c, f _ _ h.d⟩
theorem GE.keep0 {w w' : World} {ev : Nat → Value} (h : GE w ev) (hc : Chg [] w w') : GE w' ev := h.keep hc (fun b hb => by cases hb)
theorem RW.mid8 {w : World} {a : Option Addr} {bs : List Nat} (h : RW w a (bs.map u8v)) {lo m c : Nat} (h1 : lo ≤ bs.length) (hc : bs.length ≤ c) : RW w (cutAt a lo c 1) (((bs.drop lo).take m).map u8v) := RW.slice_take (RW.slice_drop h h1 hc) m
theorem mid_len {bs : List Nat} {lo m : Nat} (h : lo + m ≤ bs.length) : ((bs.drop lo).take m).length = m := by rw [List.length_take, List.length_drop]; omega
theorem three8 {bs : List Nat} {p : Nat} (hB : B8 bs) (h : p + 3 ≤ bs.length) : (bs.getD p 0 ||| bs.getD (p + 1) 0 * 2 ^ 8) ||| bs.getD (p + 2) 0 * 2 ^ 16 = leV ((bs.drop p).take 3) := by
  have e : ∀ q, q < bs.length → bs.drop q = bs.getD q 0 :: bs.drop (q + 1) := fun q hq => by
    rw [List.drop_eq_getElem_cons hq, List.getD_eq_getElem?_getD, List.getElem?_eq_getElem hq]; rfl
  rw [e p (by omega), e (p + 1) (by omega), e (p + 1 + 1) (by omega)]
  have h1 := hB.getD p
  have h2 := hB.getD (p + 1)
  have h3 := hB.getD (p + 2)
  rw [or_of_mul (by omega : bs.getD p 0 < 2 ^ 8), or_of_mul (by omega : bs.getD p 0 + bs.getD (p + 1) 0 * 2 ^ 8 < 2 ^ 16)]
  simp only [List.take_succ_cons, List.take_zero, leV]
  have e9 : bs.getD (p + 1 + 1) 0 = bs.getD (p + 2) 0 := rfl
  omega
namespace Sx
section
variable {P : Program} {s : Sl} {w : World} {ty : TypeId} {x : Operand}
theorem Ev.sliceM (lo m : Nat) {t : TypeId} {a : Option Addr} {bs : List Nat} {c e be : Nat} {k k' : IntKind} {lo' hi' : Int} {de : TypeDesc} {ze : Value} {sz by_ : Nat} {z : Value} {p q : Operand} [hT : HasT P t (.slice e) sz by_ z] [hE : HasT P e de 1 be ze]
    (hx : opnd s x = some (.slice a bs.length c)) (hp : opnd s p = some (.int k lo')) (hq : opnd s q = some (.int k' hi')) (e1 : lo' = (lo : Int)) (e2 : hi' = ((lo + m : Nat) : Int)) (h2 : lo + m ≤ bs.length) (h3 : bs.length ≤ c) :
    Ev P s (.slice t x (some p) (some q) none) ty w (.slice (cutAt a lo c 1) ((bs.drop lo).take m).length (c - lo)) w := by
  have := Ev.sliceLHn (P := P) (w := w) (ty := ty) (t := t) (hT := hT) (hE := hE) lo (lo + m) hx hp hq e1 e2 (by omega) (by omega)
  rwa [show lo + m - lo = ((bs.drop lo).take m).length by rw [mid_len h2]; omega] at this
theorem Ev.sliceT (m : Nat) {t : TypeId} {a : Option Addr} {bs : List Nat} {c e es be : Nat} {k' : IntKind} {hi' : Int} {de : TypeDesc} {ze : Value} {sz by_ : Nat} {z : Value} {q : Operand} [hT : HasT P t (.slice e) sz by_ z] [hE : HasT P e de es be ze]
    (hx : opnd s x = some (.slice a bs.length c)) (hq : opnd s q = some (.int k' hi')) (e2 : hi' = (m : Int)) (h2 : m ≤ bs.length) (h3 : bs.length ≤ c) :
    Ev P s (.slice t x none (some q) none) ty w (.slice a (bs.take m).length c) w := by
  have := Ev.sliceHn (P := P) (w := w) (ty := ty) (t := t) (hT := hT) (hE := hE) m hx hq e2 (by omega)
  rwa [show m = (bs.take m).length by rw [List.length_take]; omega] at this
section
variable {P : Program} {ops : Array Oper} {K : KK} {fuel : Nat} {listed : Array Bool} {n : Nat} {D : List Deferred} {s : Sl} {w : World} {ty : TypeId} {pos : String} {af : Array Edge}
theorem WH.storeBT (i : Nat) {w0 : World} {T0 : List Nat} {t : TypeId} {ds : TypeDesc} {sz by_ : Nat} {z0 : Value} {b o : Nat} {l l' vs : List Value} {T : TypeId} {x y : Operand} [hT : HasT P t ds sz by_ z0] (hi : ops[i]? = some ⟨none, .store t x y, ty, pos, af, none⟩) (hr : Region.ready .any ops listed = [i]) (hS : Chg T0 w0 w) (hge : b ∈ T0 ∨ w0.heap.size ≤ b)
    (hx : opnd s x = some (.pointer (some ⟨b, o, none⟩))) (hy : opnd s y = some (.agg vs.toArray)) (hs : vs.length = sz) (h1 : ∀ v ∈ vs, v.oneCell' = true)
    (hb : BK w b T l) (ho : o + vs.length ≤ l.length) (he : splice l o vs = l') (k : ∀ w', BK w' b T l' → Chg [b] w w' → Chg T0 w0 w' → WH P ops K (Chg T0 w0) fuel (listed.setIfInBounds i true) n D s w') : WH P ops K (Chg T0 w0) (fuel + 1) listed n D s w := by
  subst he
  obtain ⟨w', he, hu⟩ := evS_storeAgg (P := P) (ty := ty) (t := t) (hT := hT) hx hy hs h1 hb ho
  have hS' : Chg T0 w0 w' := hS.step hu.chg fun y hy => by rw [List.mem_singleton.1 hy]; exact hge
  exact WH.oneS i hi hr he hS' (k w' hu.at_ hu.chg hS')
end
end
end Sx

theorem stRead_spec (al : Option Addr) (bs : List Nat) (cl : Nat) (w : World) (ev : Nat → Value) (hrb : RW w al (bs.map u8v)) (hcap : bs.length ≤ cl) (hB : B8 bs) (hne : 0 < bs.length) (hlen : bs.length ≤ 1048576) (hE : GE w ev) (hg : GW w) : Ret Tryz.prog 159 [.slice al bs.length cl] w fun u w' => (((rdRec bs).1 = 0 ∧ ∃ dv, u = .tuple [.agg [.string (bA (rdRec bs).2.1), dv].toArray, .nilIface].toArray ∧ GR w' 5 u8v 0 [] dv (rdRec bs).2.2) ∨ ((rdRec bs).1 ≠ 0 ∧ u = .tuple [.agg [.string ⟨#[]⟩, .slice none 0 0].toArray, ev (rdRec bs).1].toArray)) ∧ Chg [] w w' := by
 have hch : Chg [] w w := Chg.refl _ _;obtain ⟨n, hn⟩ : ∃ n, bs.getD 0 0 = n := ⟨_, rfl⟩;have hn8 : n < 256 := by rw [← hn]; exact hB.getD 0
 refine zE1 Tryz.func159 rfl ?_;refine Sr fun _ kh1 => ?_;refine WL.allocB (l := [.string ⟨#[]⟩, .slice none 0 0]) rfl rfl fun b2 wm2 hb2 hcm2 hge2 => ?_;have hgehch2 := Nat.le_trans hch.size hge2;have hch := hch.ta hcm2;refine za rfl (zz (kh1 (Sr fun _ kh3 => zm rfl ?_)));refine WL.ev (Ev.ixR (0) rfl rfl (hrb.keep0 hch) (by omega) (by omega) (by simp; omega)) rfl ?_;refine WL.ev (Ev.load rfl rfl ((hrb.keep0 hch).u8 (by first | omega | (simp; omega)))) rfl ?_;refine WL.ev (Ev.convIn rfl rfl (in_i64 (by rw [hn]; omega))) rfl ?_;rw [hn];refine za rfl (zz (kh3 (zc fun _ kh5 => ?_)));refine CW.seqM 21 (decide (n < 1 ∨ 64 < n)) ?_ ?_
 ·refine zR fun _ kr6 => ?_;refine zm rfl ?_;refine WL.ev (Ev.lss rfl rfl) rfl ?_;refine zm rfl ?_;refine zb ?_ ?_<;>intro hg1<;>try simp only [qs] at hg1
  ·refine zv rfl (zv rfl (zt rfl rfl ?_));refine WL.nil (kr6 _ _ _ ?_);refine ⟨rfl, rfl, Subs.consB rfl ?_ ?_⟩
   ·first | (refine (decide_eq_true (.inl ?_)).symm; omega) | (refine decide_eq_decide.2 ?_; omega)
   ·exact SMg
  ·refine zw rfl (zm rfl (zw rfl ?_));refine WL.ev (Ev.gtr rfl rfl) rfl ?_
   refine ze rfl rfl ?_;refine WL.nil (kr6 _ _ _ ?_);refine ⟨rfl, rfl, Subs.consB rfl ?_ ?_⟩
   ·first | (refine (decide_eq_true (.inl ?_)).symm; omega) | (refine decide_eq_decide.2 ?_; omega)
   ·exact SMg
 ·refine zy rfl ?_ ?_<;>intro hc2<;>try simp only [qs] at hc2
  ·have hq1 : n < 1 ∨ 64 < n := hc2
   refine zc fun _ kh7 => ?_;refine CW.regionHT [b2] 4 rfl hmix fun kR8 kr8 hS hdr => ?_;have hch := hch.ta hdr;have hb2 := hb2.keep0 hdr;have hEr := hE.keep0 hch;refine wh 0 rfl hS (fun _ _ => Ev.build (vs := _) (cs := [_, _]) rfl rfl) (wh 1 rfl hS (fun _ hw' => Ev.load (v := ev 1) rfl rfl (hw'.cell hEr.a (by simp only [List.mem_singleton]; intro e9; have e8 : 2 = b2 := e9; have := block_lt_of_cell hE.a; have e7 : (2 : Nat) < w.heap.size := this; omega))) ?_);refine WH.storeBT 2 rfl (by kernel_rfl) hS (.inl (by simp)) rfl rfl rfl (by intro u hu; simp only [List.mem_cons, List.not_mem_nil, or_false] at hu; rcases hu with rfl | rfl <;> rfl) hb2 (by simp) rfl fun w9 hb2 hcs9 hS => ?_;simp only [Sx.splice, List.set_cons_zero, List.set_cons_succ, Nat.zero_add] at hb2;have hch := hch.step hcs9 (fun y hy => by rw [List.mem_singleton.1 hy]; exact .inr (by omega));refine wh 3 rfl hS (fun _ _ => Ev.assign rfl) ?_;refine WH.done (by kernel_rfl) (kr8 _ _ _ ?_);refine kh7 ?_;refine zr (bodyA.retR2 rfl (RVal.cell rfl (hb2.varA rfl rfl)) (RVal.tmp rfl) ?_);have hR : rdRec bs = (1, [], []) := by
    unfold rdRec; rw [hn, if_pos hq1]
   rw [hR];exact ⟨.inr ⟨by decide, rfl⟩, hch⟩
  ·have hq1 : ¬ (n < 1 ∨ 64 < n) := hc2
   refine zkk ?_;refine kh5 (Sr fun _ kh9 => zm rfl ?_);(first | refine zi rfl rfl ?_ | refine zo rfl rfl ?_);(first | refine zi rfl rfl ?_ | refine zo rfl rfl ?_);refine za rfl (zz (kh9 (zc fun _ kh11 => Sr fun _ kh12 => zm rfl (zn rfl (zm rfl ?_)))));refine WL.ev (Ev.lss rfl rfl) rfl ?_;refine zz (kh12 ?_);refine zy rfl ?_ ?_<;>intro hc3<;>try simp only [qs] at hc3
   ·have hq2 : bs.length < 4 + n := by have := hc3; omega
    refine zc fun _ kh14 => ?_;refine CW.regionHT [b2] 4 rfl hmix fun kR15 kr15 hS hdr => ?_;have hch := hch.ta hdr;have hb2 := hb2.keep0 hdr;have hEr := hE.keep0 hch;refine wh 0 rfl hS (fun _ _ => Ev.build (vs := _) (cs := [_, _]) rfl rfl) (wh 1 rfl hS (fun _ hw' => Ev.load (v := ev 2) rfl rfl (hw'.cell hEr.b (by simp only [List.mem_singleton]; intro e9; have e8 : 3 = b2 := e9; have := block_lt_of_cell hE.b; have e7 : (3 : Nat) < w.heap.size := this; omega))) ?_);refine WH.storeBT 2 rfl (by kernel_rfl) hS (.inl (by simp)) rfl rfl rfl (by intro u hu; simp only [List.mem_cons, List.not_mem_nil, or_false] at hu; rcases hu with rfl | rfl <;> rfl) hb2 (by simp) rfl fun w9 hb2 hcs9 hS => ?_;simp only [Sx.splice, List.set_cons_zero, List.set_cons_succ, Nat.zero_add] at hb2;have hch := hch.step hcs9 (fun y hy => by rw [List.mem_singleton.1 hy]; exact .inr (by omega));refine wh 3 rfl hS (fun _ _ => Ev.assign rfl) ?_;refine WH.done (by kernel_rfl) (kr15 _ _ _ ?_);refine kh14 ?_;refine zr (bodyA.retR2 rfl (RVal.cell rfl (hb2.varA rfl rfl)) (RVal.tmp rfl) ?_);have hR : rdRec bs = (2, [], []) := by
     unfold rdRec; rw [hn, if_neg hq1, if_pos hq2]
    rw [hR];exact ⟨.inr ⟨by decide, rfl⟩, hch⟩
   ·have hq2 : ¬ bs.length < 4 + n := by have := hc3; omega
    refine zkk ?_;refine kh11 (Sr fun _ kh16 => zm rfl (zm rfl ?_));(first | refine zi rfl rfl ?_ | refine zo rfl rfl ?_);refine WL.ev (Ev.sliceM (bs := bs) 1 n rfl rfl rfl (by omega) (by omega) (by omega) hcap) rfl ?_;refine WL.ev (Ev.toStr (l := (bs.drop 1).take n) rfl rfl (RW.mid8 (hrb.keep0 hch) (by omega) hcap)) rfl ?_;refine WL.ev (Ev.build (vs := _) (cs := [_, _]) rfl rfl) rfl ?_;refine WL.allocB (l := [.string ⟨#[]⟩, .slice none 0 0]) rfl rfl fun b6 wm6 hb6 hcm6 hge6 => ?_;have hgehch6 := Nat.le_trans hch.size hge6;have hch := hch.ta hcm6;have hneb26 := zdd hb2.lt hge6;have hb2 := hb2.keep0 hcm6;refine zss rfl rfl ao hb6 rfl fun ws9 hb6_ hcs9 => ?_;(try simp only [Sx.splice, qt] at hb6_);have hch := hch.s1 hcs9;have hb2 := hb2.keep hcs9 (by simp; omega);have hb6 := hb6_;refine zz (kh16 (zc fun _ kh18 => ?_));have hc3 := hB.getD (4 + n - 3);have hc2 := hB.getD (4 + n - 2);have hc1 := hB.getD (4 + n - 1);obtain ⟨L, hL⟩ : ∃ L, leV ((bs.drop (1 + n)).take 3) = L := ⟨_, rfl⟩;have hL24 : L < 16777216 := by
     have h9 := leV_lt ((hB.drop (1 + n)).take 3);rw [hL, mid_len (by omega)] at h9;exact h9
    have hor : (bs.getD (4 + n - 3) 0 ||| bs.getD (4 + n - 2) 0 * 2 ^ 8) ||| bs.getD (4 + n - 1) 0 * 2 ^ 16 = L := by
     rw [← hL, ← three8 hB (by omega : 1 + n + 3 ≤ bs.length), show 4 + n - 3 = 1 + n by omega, show 4 + n - 2 = 1 + n + 1 by omega, show 4 + n - 1 = 1 + n + 2 by omega]
    have hlo1 : bs.getD (4 + n - 3) 0 ||| bs.getD (4 + n - 2) 0 * 2 ^ 8 < 2 ^ 16 := Nat.or_lt_two_pow (by omega) (by omega);refine CW.regionSC hmix (by kernel_rfl) fun kR19 kr19 hdr => ?_;have hch := hch.ta hdr;have hb2 := hb2.keep0 hdr;have hb6 := hb6.keep0 hdr;refine ym rfl (ym rfl ?_)
    first | refine WS.ev (Ev.subIn rfl rfl (by omega)) rfl ?_ | refine WS.ev (Ev.sub rfl rfl) rfl ?_
    refine WS.ev (Ev.ixR (4 + n - 3) rfl rfl (hrb.keep0 hch) (by omega) (by omega) (by simp; omega)) rfl ?_;refine WS.ev (Ev.load rfl rfl ((hrb.keep0 hch).u8 (by first | omega | (simp; omega)))) rfl ?_;refine WS.ev (Ev.convIn rfl rfl (in_i64 (by omega))) rfl ?_;refine ym rfl (ym rfl ?_)
    first | refine WS.ev (Ev.subIn rfl rfl (by omega)) rfl ?_ | refine WS.ev (Ev.sub rfl rfl) rfl ?_
    refine WS.ev (Ev.ixR (4 + n - 2) rfl rfl (hrb.keep0 hch) (by omega) (by omega) (by simp; omega)) rfl ?_;refine WS.ev (Ev.load rfl rfl ((hrb.keep0 hch).u8 (by first | omega | (simp; omega)))) rfl ?_;refine WS.ev (Ev.convIn rfl rfl (in_i64 (by omega))) rfl ?_;refine WS.ev (Ev.shlN (a := bs.getD (4 + n - 2) 0) (b := 8) rfl rfl (by decide) (by omega)) rfl ?_;refine WS.ev (Ev.orI rfl rfl (by omega) (by omega)) rfl ?_;refine ym rfl (ym rfl ?_)
    first | refine WS.ev (Ev.subIn rfl rfl (by omega)) rfl ?_ | refine WS.ev (Ev.sub rfl rfl) rfl ?_
    refine WS.ev (Ev.ixR (4 + n - 1) rfl rfl (hrb.keep0 hch) (by omega) (by omega) (by simp; omega)) rfl ?_;refine WS.ev (Ev.load rfl rfl ((hrb.keep0 hch).u8 (by first | omega | (simp; omega)))) rfl ?_;refine WS.ev (Ev.convIn rfl rfl (in_i64 (by omega))) rfl ?_;refine WS.ev (Ev.shlN (a := bs.getD (4 + n - 1) 0) (b := 16) rfl rfl (by decide) (by omega)) rfl ?_;refine WS.ev (Ev.orI rfl rfl (by omega) (by omega)) rfl ?_;rw [hor];refine ya rfl ?_;refine WS.nil (kr19 _ _ ?_);refine kh18 (Sr fun _ kh20 => zm rfl (zm rfl ?_));(first | refine zi rfl rfl ?_ | refine zo rfl rfl ?_);refine za rfl (zz (kh20 (zc fun _ kh22 => Sr fun _ kh23 => zm rfl (zn rfl (zm rfl ?_)))));(first | refine zi rfl rfl ?_ | refine zo rfl rfl ?_);refine WL.ev (Ev.lss rfl rfl) rfl ?_;refine zz (kh23 ?_);refine zy rfl ?_ ?_<;>intro hc4<;>try simp only [qs] at hc4
    ·have hq3 : bs.length < 4 + n + L + 4 := by have := hc4; omega
     refine zc fun _ kh25 => ?_;refine CW.regionHT [b2] 4 rfl hmix fun kR26 kr26 hS hdr => ?_;have hch := hch.ta hdr;have hb2 := hb2.keep0 hdr;have hEr := hE.keep0 hch;refine wh 0 rfl hS (fun _ _ => Ev.build (vs := _) (cs := [_, _]) rfl rfl) (wh 1 rfl hS (fun _ hw' => Ev.load (v := ev 2) rfl rfl (hw'.cell hEr.b (by simp only [List.mem_singleton]; intro e9; have e8 : 3 = b2 := e9; have := block_lt_of_cell hE.b; have e7 : (3 : Nat) < w.heap.size := this; omega))) ?_);refine WH.storeBT 2 rfl (by kernel_rfl) hS (.inl (by simp)) rfl rfl rfl (by intro u hu; simp only [List.mem_cons, List.not_mem_nil, or_false] at hu; rcases hu with rfl | rfl <;> rfl) hb2 (by simp) rfl fun w9 hb2 hcs9 hS => ?_;simp only [Sx.splice, List.set_cons_zero, List.set_cons_succ, Nat.zero_add] at hb2;have hch := hch.step hcs9 (fun y hy => by rw [List.mem_singleton.1 hy]; exact .inr (by omega));refine wh 3 rfl hS (fun _ _ => Ev.assign rfl) ?_;refine WH.done (by kernel_rfl) (kr26 _ _ _ ?_);refine kh25 ?_;refine zr (bodyA.retR2 rfl (RVal.cell rfl (hb2.varA rfl rfl)) (RVal.tmp rfl) ?_);have hR : rdRec bs = (2, [], []) := by
      unfold rdRec; rw [hn, if_neg hq1, if_neg hq2, hL, if_pos hq3]
     rw [hR];exact ⟨.inr ⟨by decide, rfl⟩, hch⟩
    ·have hq3 : ¬ bs.length < 4 + n + L + 4 := by have := hc4; omega
     refine zkk ?_;refine kh22 (Sr fun _ kh27 => zm rfl (zm rfl (zm rfl ?_)));refine WL.ev (Ev.sliceM (bs := bs) (4 + n) L rfl rfl rfl (by omega) (by omega) (by omega) hcap) rfl ?_;refine WL.call hasF167 rfl rfl (CloneB_spec _ ((bs.drop (4 + n)).take L) _ _ (RW.mid8 (hrb.keep0 hch) (by omega) hcap) (by rw [mid_len (by omega)]; omega)) fun v w1 h' => ?_;obtain ⟨hgd, hC⟩ := h';obtain ⟨a75, c75, rfl, hcap75, hr75⟩ := hgd.row;have hgd := hgd.mono (lo' := 0) (X' := []) (Nat.zero_le _) (by simp);have hch := hch.ta hC;have hb2 := hb2.keep0 hC;have hb6 := hb6.keep0 hC;refine zf rfl ?_;refine WL.storeC rfl rfl o1 hb6 (by simp) rfl fun ws10 hb6_ hcs10 => ?_;(try simp only [Sx.splice, qt] at hb6_);have hch := hch.s1 hcs10;have hb2 := hb2.keep hcs10 (by simp; omega);have hgd := hgd.keepV hcs10 (fun y hy => by rw [List.mem_singleton.1 hy]; exact hgd.notBK hb6 (by decide));have hb6 := hb6_;refine zz (kh27 (Sr fun _ kh29 => zm rfl (zm rfl ?_)));refine WL.ev (Ev.sliceT (bs := bs) (4 + n + L) rfl rfl (by omega) (by omega) hcap) rfl ?_;refine WL.call hasF246 rfl rfl (stSum_spec _ (bs.take (4 + n + L)) _ _ (RW.slice_take (hrb.keep0 hch) _) (hB.take _) (by rw [List.length_take]; omega)) fun v w2 h' => ?_;obtain ⟨rfl, rfl⟩ := h';have hfl := fnv_lt (bs.take (4 + n + L));refine za rfl (zz (kh29 (zc fun _ kh31 => Sr fun _ kh32 => zm rfl (zm rfl (zm rfl ?_)))));(first | refine zi rfl rfl ?_ | refine zo rfl rfl ?_);refine WL.ev (Ev.sliceM (bs := bs) (4 + n + L) 4 rfl rfl rfl (by omega) (by omega) (by omega) hcap) rfl ?_;refine zm rfl ?_;refine WL.ev (Ev.conv8 rfl rfl) rfl ?_;refine zm rfl ?_;refine WL.ev (Ev.shrU (b := 8) rfl rfl (by simp only [IntKind.bits]; omega)) rfl ?_;refine WL.ev (Ev.conv8 rfl rfl) rfl ?_;refine zm rfl ?_;refine WL.ev (Ev.shrU (b := 16) rfl rfl (by simp only [IntKind.bits]; omega)) rfl ?_;refine WL.ev (Ev.conv8 rfl rfl) rfl ?_;refine zm rfl ?_;refine WL.ev (Ev.shrU (b := 24) rfl rfl (by simp only [IntKind.bits]; omega)) rfl ?_;refine WL.ev (Ev.conv8 rfl rfl) rfl ?_;refine WL.buildSlice (m := 4) (cs := [u8v (((fnv (bs.take (4 + n + L))) % 256)), u8v ((((fnv (bs.take (4 + n + L))) / 2 ^ 8) % 256)), u8v ((((fnv (bs.take (4 + n + L))) / 2 ^ 16) % 256)), u8v ((((fnv (bs.take (4 + n + L))) / 2 ^ 24) % 256))]) (by decide) (by decide) rfl (by kernel_rfl) rfl fun b97 w97 hn97 => ?_;have hcm97 := hn97.chg;have hge97 := hn97.ge;have hb97 : YB w97 b97 _ [((fnv (bs.take (4 + n + L))) % 256), (((fnv (bs.take (4 + n + L))) / 2 ^ 8) % 256), (((fnv (bs.take (4 + n + L))) / 2 ^ 16) % 256), (((fnv (bs.take (4 + n + L))) / 2 ^ 24) % 256)] := hn97.at_;have hgehch97 := Nat.le_trans hch.size hge97;have hch := hch.ta hcm97;have hneb297 := zdd hb2.lt hge97;have hb2 := hb2.keep0 hcm97;have hneb697 := zdd hb6.lt hge97;have hb6 := hb6.keep0 hcm97;have hgd := hgd.keep0 hcm97;refine WL.call hasF247 rfl rfl (EqualB_spec _ _ ((bs.drop (4 + n + L)).take 4) [fnv (bs.take (4 + n + L)) % 256, fnv (bs.take (4 + n + L)) / 2 ^ 8 % 256, fnv (bs.take (4 + n + L)) / 2 ^ 16 % 256, fnv (bs.take (4 + n + L)) / 2 ^ 24 % 256] _ 4 _ (RW.mid8 (hrb.keep0 hch) (by omega) hcap) hb97.row (by rw [mid_len (by omega)]; omega) (by simp)) fun v w3 h' => ?_
     obtain ⟨rfl, hC⟩ := h';have hch := hch.ta hC;have hb2 := hb2.keep0 hC;have hb6 := hb6.keep0 hC;have hgd := hgd.keep0 hC;refine WL.ev (Ev.not rfl) rfl ?_;refine zz (kh32 ?_);refine zy rfl ?_ ?_<;>intro hc5<;>try simp only [qs] at hc5
     ·have hq4 : (bs.drop (4 + n + L)).take 4 ≠ leB (fnv (bs.take (4 + n + L))) 4 := by rw [leB4]; simpa using hc5
      refine zc fun _ kh34 => ?_;refine CW.regionHT [b2] 4 rfl hmix fun kR35 kr35 hS hdr => ?_;have hch := hch.ta hdr;have hb2 := hb2.keep0 hdr;have hEr := hE.keep0 hch;refine wh 0 rfl hS (fun _ _ => Ev.build (vs := _) (cs := [_, _]) rfl rfl) (wh 1 rfl hS (fun _ hw' => Ev.load (v := ev 3) rfl rfl (hw'.cell hEr.c (by simp only [List.mem_singleton]; intro e9; have e8 : 4 = b2 := e9; have := block_lt_of_cell hE.c; have e7 : (4 : Nat) < w.heap.size := this; omega))) ?_);refine WH.storeBT 2 rfl (by kernel_rfl) hS (.inl (by simp)) rfl rfl rfl (by intro u hu; simp only [List.mem_cons, List.not_mem_nil, or_false] at hu; rcases hu with rfl | rfl <;> rfl) hb2 (by simp) rfl fun w9 hb2 hcs9 hS => ?_;simp only [Sx.splice, List.set_cons_zero, List.set_cons_succ, Nat.zero_add] at hb2;have hch := hch.step hcs9 (fun y hy => by rw [List.mem_singleton.1 hy]; exact .inr (by omega));refine wh 3 rfl hS (fun _ _ => Ev.assign rfl) ?_;refine WH.done (by kernel_rfl) (kr35 _ _ _ ?_);refine kh34 ?_;refine zr (bodyA.retR2 rfl (RVal.cell rfl (hb2.varA rfl rfl)) (RVal.tmp rfl) ?_);have hR : rdRec bs = (3, [], []) := by
       unfold rdRec; rw [hn, if_neg hq1, if_neg hq2, hL, if_neg hq3, if_pos hq4]
      rw [hR];exact ⟨.inr ⟨by decide, rfl⟩, hch⟩
     ·have hq4 : ¬ ((bs.drop (4 + n + L)).take 4 ≠ leB (fnv (bs.take (4 + n + L))) 4) := by rw [leB4]; simpa using hc5
      refine zkk ?_;refine kh31 (zc fun _ kh36 => Sr fun _ kh37 => zf rfl (zl hb6 rfl rfl ?_));refine WL.call hasF26 rfl rfl (Decode_spec21 a75 ((bs.drop (4 + n)).take L) c75 _ hgd.rw_.1 hgd.rw_.2.2 (fun ad e => by subst e; exact hgd.lt rfl) ((hB.drop _).take _) (by rw [mid_len (by omega)]; omega) (hg.keep hch (fun b hb => by cases hb))) fun v w4 h' => ?_;obtain ⟨hu, hC⟩ := h';have hch := hch.ta hC;have hb2 := hb2.keep0 hC;have hb6 := hb6.keep0 hC;have hgd := hgd.keep0 hC;obtain ⟨S5, b5, hdec, rfl, _, _, _⟩ | ⟨hdec, rfl⟩ := hu
      ·refine zm rfl (zx rfl rfl (zx rfl rfl (za rfl (za rfl (zz (kh37 (Sr fun _ kh39 => zm rfl ?_)))))));refine WL.ev (Ev.neq rfl rfl) rfl ?_;refine zz (kh39 ?_);refine CW.condF rfl ?_;refine zkk ?_;refine kh36 (Sr fun _ kh41 => zg hb6 rfl ?_);refine zss rfl rfl ao hb2 rfl fun ws11 hb2_ hcs11 => ?_;(try simp only [Sx.splice, qt] at hb2_);have hch := hch.s1 hcs11;have hgd := hgd.keepV hcs11 (fun y hy => by rw [List.mem_singleton.1 hy]; exact hgd.notBK hb2 (by decide));have hb2 := hb2_;refine za rfl (zz (kh41 ?_));refine zr (bodyA.retR2 rfl (RVal.cell rfl (hb2.varA rfl rfl)) (RVal.tmp rfl) ?_);have hR : rdRec bs = (0, (bs.drop 1).take n, (bs.drop (4 + n)).take L) := by
        unfold rdRec; rw [hn, if_neg hq1, if_neg hq2, hL, if_neg hq3, if_neg hq4, if_neg (by rw [hdec]; simp)]
       rw [hR];exact ⟨.inl ⟨rfl, _, rfl, hgd⟩, hch⟩
      ·refine zm rfl (zx rfl rfl (zx rfl rfl (za rfl (za rfl (zz (kh37 (Sr fun _ kh43 => zm rfl ?_)))))));refine WL.ev (Ev.neq rfl rfl) rfl ?_;refine zz (kh43 ?_);refine CW.condT rfl ?_;refine zc fun _ kh45 => ?_;refine CW.regionHT [b2] 4 rfl hmix fun kR46 kr46 hS hdr => ?_;have hch := hch.ta hdr;have hb2 := hb2.keep0 hdr;have hEr := hE.keep0 hch;refine wh 0 rfl hS (fun _ _ => Ev.build (vs := _) (cs := [_, _]) rfl rfl) (wh 1 rfl hS (fun _ hw' => Ev.load (v := ev 4) rfl rfl (hw'.cell hEr.d (by simp only [List.mem_singleton]; intro e9; have e8 : 5 = b2 := e9; have := block_lt_of_cell hE.d; have e7 : (5 : Nat) < w.heap.size := this; omega))) ?_);refine WH.storeBT 2 rfl (by kernel_rfl) hS (.inl (by simp)) rfl rfl rfl (by intro u hu; simp only [List.mem_cons, List.not_mem_nil, or_false] at hu; rcases hu with rfl | rfl <;> rfl) hb2 (by simp) rfl fun w9 hb2 hcs9 hS => ?_;simp only [Sx.splice, List.set_cons_zero, List.set_cons_succ, Nat.zero_add] at hb2;have hch := hch.step hcs9 (fun y hy => by rw [List.mem_singleton.1 hy]; exact .inr (by omega));refine wh 3 rfl hS (fun _ _ => Ev.assign rfl) ?_;refine WH.done (by kernel_rfl) (kr46 _ _ _ ?_);refine kh45 ?_;refine zr (bodyA.retR2 rfl (RVal.cell rfl (hb2.varA rfl rfl)) (RVal.tmp rfl) ?_);have hR : rdRec bs = (4, [], []) := by
        unfold rdRec; rw [hn, if_neg hq1, if_neg hq2, hL, if_neg hq3, if_neg hq4, if_pos hdec]
       rw [hR];exact ⟨.inr ⟨by decide, rfl⟩, hch⟩

end

/- A range over a function: its rounds, the calls of yield. No condition. -/
namespace Sx
open Go

/-- Every function is let in; the frame is a round's, or a plain one. -/
abbrev RO (r : Option Nat) : Fence := { Fence.wide with round := r }
def noDef (l : List Oper) : Bool := l.all fun o => match o.op with
  | .defer _ => false
  | _ => true
theorem noDef_cons {o : Oper} {l : List Oper} (h : noDef (o :: l) = true) : (∀ c, o.op ≠ .defer c) ∧ noDef l = true := by
  simp only [noDef, List.all_cons, Bool.and_eq_true] at h
  refine ⟨fun c e => ?_, h.2⟩
  rw [e] at h
  exact absurd h.1 (by simp)
section
variable {P : Program} {r : Option Nat} {m : Nat}
theorem uponIn_of {o : Oper} {a : Act} {next next' : Act → World → Prop} {Q Q' : Exit → Act → World → Prop} (hn : ∀ a w, next a w → next' a w) (hp : ∀ c a w, Q (.panic c) a w → Q' (.panic c) a w) (ho : ¬ LetsOut Q) (x : Result Next) (h : o.upon P a next Q x) : o.uponIn (RO r) m P a next' Q' x := by
  cases x with
  | ok x w =>
    cases x with
    | value v => exact hn _ _ h
    | skip => exact hn _ _ h
    | defer d => exact hn _ _ h
    | enter f args =>
      refine ⟨fun q => (by simp [Fence.wide] at q), ?_⟩
      have h' : CallsIn Fence.wide (m - 1) P f args w _ := (callsIn_wide (n := m - 1)).2 (Calls.mono h (R' := fun e w'' => match e with
        | .returned v => next' (a.put o.dst v) w''
        | .panicked chain => Q' (.panic chain) a w''
        | .outgrown => LetsOut Q') fun e w' he => by
          cases e with
          | returned v => exact hn _ _ he
          | panicked c => exact hp _ _ _ he
          | outgrown => exact absurd he ho)
      have h2 : CallsIn (RO r) (m - 1) P f args w _ := h'
      obtain ⟨hf, hc⟩ := h2
      refine ⟨hf, fun cs hr => ?_⟩
      obtain ⟨e, w', fr, hR, rest⟩ := hc cs hr
      refine ⟨e, w', fr, ?_, rest⟩
      cases e <;> exact hR
    | row rw_ args =>
      refine ⟨fun q => (by simp [Fence.wide] at q), fun c cs hr => ?_⟩
      obtain ⟨v, w', hR, hs⟩ := h c cs
      exact ⟨v, w', hn _ _ hR, stepsIn_wide.2 hs⟩
    | _ => exact h.elim
  | halt x w =>
    cases x with
    | panic v => exact hp _ _ _ h
    | _ => exact h.elim
theorem opIn_of {o : Oper} {a : Act} {w : World} {next next' : Act → World → Prop} {Q Q' : Exit → Act → World → Prop} (hd : ∀ c, o.op ≠ .defer c) (hn : ∀ a w, next a w → next' a w) (hp : ∀ c a w, Q (.panic c) a w → Q' (.panic c) a w) (ho : ¬ LetsOut Q) (h : o.wp P a w next Q) : o.wpIn (RO r) m P a w next' Q' :=
  ⟨fun _ _ => trivial, by rw [Oper.semAt_eq _ _ _ hd]; exact uponIn_of hn hp ho _ h⟩
theorem wpListIn_of {ops : Array Oper} {Q Q' : Exit → Act → World → Prop} {l2 : List Oper} (hp : ∀ c a w, Q (.panic c) a w → Q' (.panic c) a w) (ho : ¬ LetsOut Q) (hn : ∀ a w, Q .normal a w → wpListIn (RO r) m P ops Q' l2 a w) : ∀ (l1 : List Oper) (a : Act) (w : World), noDef l1 = true → wpList P ops Q l1 a w → wpListIn (RO r) m P ops Q' (l1 ++ l2) a w
  | [], a, w, _, h => hn a w h
  | o :: l1, a, w, hd, h => by
    obtain ⟨hd1, hd2⟩ := noDef_cons hd
    unfold wpList at h
    show wpListIn (RO r) m P ops Q' (o :: (l1 ++ l2)) a w
    unfold wpListIn
    split
    · rename_i hw
      rw [if_pos hw] at h
      rcases h with h | ⟨_, h⟩
      · exact opIn_of hd1 (fun a w h => wpListIn_of hp ho hn l1 a w hd2 h) hp ho h
      · exact absurd h ho
    · rename_i hw
      rw [if_neg hw] at h
      exact ⟨fun _ _ => trivial, wpListIn_of hp ho hn l1 _ w hd2 h⟩
theorem wpIn_n {c : Code} {Q : Exit → Act → World → Prop} {a : Act} {w : World} {i j : Nat} (h : c.wpIn (RO r) i P Q a w) : c.wpIn (RO r) j P Q a w := fun b k cs ho hf _ => h b k cs ho hf (fun d hd => by cases hd)
theorem post_out {n : Nat} {K : KK} : ¬ LetsOut (post n K) := fun ⟨_, _, h⟩ => h
/-! ### Code in a round's frame -/
def CWI (r : Option Nat) (P : Program) (c : Code) (A : AQ) (n : Nat) (D : List Deferred) (s : Sl) (w : World) : Prop := ∀ a, Fr n D s a → c.wpIn (RO r) 3 P (liftA n A) a w
def WLI (r : Option Nat) (P : Program) (ops : Array Oper) (K : KK) (l : List Oper) (n : Nat) (D : List Deferred) (s : Sl) (w : World) : Prop := ∀ a, Fr n D s a → wpListIn (RO r) 3 P ops (post n K) l a w
variable {A : AQ} {n : Nat} {D : List Deferred} {s : Sl} {w : World} {ops : Array Oper} {K : KK}
theorem CW.ofI {c : Code} (h : CWI none P c A n D s w) : CW P c A n D s w := fun a ha => (wpIn_wide (n := 3)).1 (h a ha)
theorem CWI.seq {x y : Code} (h : ∀ K : KK, (∀ D s w, CWI r P y A n D s w → K D s w) → CWI r P x (thenK K A) n D s w) : CWI r P (.seq x y) A n D s w := fun a ha => by
  refine wpIn_seq (wpIn_mono (h (fun D s w => CWI r P y A n D s w) (fun _ _ _ h => h) a ha) fun e a w hq => ?_)
  have := liftA_then _ _ _ _ hq
  cases e with
  | normal => obtain ⟨D, s, hf, hk⟩ := this; exact hk a hf
  | _ => exact this
theorem CWI.skip (h : A .normal D s w) : CWI r P .skip A n D s w := fun a ha => wpIn_skip ⟨D, s, ha, h⟩
theorem CWI.block {id : Nat} {c : Code} (h : CWI r P c (inBlk id A) n D s w) : CWI r P (.block id c) A n D s w := fun a ha =>
  wpIn_block (wpIn_mono (h a ha) fun e a w hq => by
    cases e with
    | exit id' =>
      obtain ⟨D, s, hf, hk⟩ := hq
      simp only [inBlk] at hk
      simp only [Exit.inBlock]
      split at hk
      · rename_i h; rw [if_pos h]; exact ⟨D, s, hf, hk⟩
      · rename_i h; rw [if_neg h]; exact ⟨D, s, hf, hk⟩
    | _ => exact hq)
theorem CWI.cond {c : Operand} {x y : Code} {b : Bool} (hc : opnd s c = some (.bool b)) (ht : b = true → CWI r P x A n D s w) (hf : b = false → CWI r P y A n D s w) : CWI r P (.cond c x y) A n D s w := fun a ha =>
  wpIn_cond_split (ha.eval hc) (fun h => ht h a ha) (fun h => hf h a ha)
theorem CWI.condF {c : Operand} {x y : Code} (hc : opnd s c = some (.bool false)) (ht : CWI r P y A n D s w) : CWI r P (.cond c x y) A n D s w := CWI.cond hc (fun h => by cases h) (fun _ => ht)
theorem WLI.at (m : Nat) {l : List Oper} (hd : noDef (l.take m) = true) (h : WL P ops (fun D s w => WLI r P ops K (l.drop m) n D s w) (l.take m) n D s w) : WLI r P ops K l n D s w := fun a ha => by
  have := wpListIn_of (r := r) (m := 3) (Q' := post n K) (l2 := l.drop m) (fun c a w h => h.elim) post_out (fun a w ⟨D, s, hf, hk⟩ => hk a hf) (l.take m) a w hd (h a ha)
  rwa [List.take_append_drop] at this
theorem WLI.of {l : List Oper} (hd : noDef l = true) (h : WL P ops K l n D s w) : WLI r P ops K l n D s w := fun a ha => by
  have := wpListIn_of (r := r) (m := 3) (Q' := post n K) (l2 := []) (fun c a w h => h.elim) post_out (fun a w h => h) l a w hd (h a ha)
  rwa [List.append_nil] at this
theorem WLI.nil (h : K D s w) : WLI r P ops K [] n D s w := fun a ha => wpListIn_nil ⟨D, s, ha, h⟩
theorem CWI.regionI {id : Nat} {l : List Oper} (h : ∀ K : KK, (∀ D s w, A .normal D s w → K D s w) → WLI r P l.toArray K l n D s w) : CWI r P (.region id l.toArray false) A n D s w := fun a ha =>
  wpIn_mono (wpIn_region_lit (h (fun D s w => A .normal D s w) (fun _ _ _ h => h) a ha)) (post_lift fun _ _ _ h => h)
theorem CWI.region {id : Nat} {l : List Oper} (hd : noDef l = true) (h : ∀ K : KK, (∀ D s w, A .normal D s w → K D s w) → WL P l.toArray K l n D s w) : CWI r P (.region id l.toArray false) A n D s w :=
  CWI.regionI fun K hK => WLI.of hd (h K hK)
/-! ### A call of yield -/
def YldAt (r : Option Nat) (P : Program) (l : Nat) (vs : List Value) (w : World) (R : Value → World → Prop) : Prop :=
  ∃ fn tmps assign body, (Instr.yield l vs.toArray).run P w = .ok (.round l fn tmps assign body) w ∧ RoundIn (RO r) 2 P l fn tmps assign body w fun e w' => ∃ v, e = .returned v ∧ R v w'
variable {rest : List Oper} {ty : TypeId} {pos : String} {af : Array Edge} {d : Nat}
theorem exec_yield {l : Nat} {y : Operand} {xs : List Operand} {at_ : Array TypeId} {vs : List Value} {ρ : Operand → Value} {o : Oper} {x : Next} {w' : World} (ho : o.op = .call ⟨.value y, xs.toArray, at_⟩) (hy : opnd s y = some (.func (.yield l) #[] #[])) (hx : opnds s xs = some vs)
    (h : ∀ x u, opnd s x = some u → ρ x = u) (hY : (Instr.yield l vs.toArray).run P w = .ok x w') : (execOp ρ o).run P w = .ok x w' := by
  have e1 : ρ y = .func (.yield l) #[] #[] := h _ _ hy
  have e2 := opnds_map h xs vs hx
  unfold execOp
  simp [ho, resolve, e1, Deferred.ofValue, invoke, e2, hY]
theorem WLI.yield {l : Nat} {y : Operand} {xs : List Operand} {at_ : Array TypeId} {vs : List Value} {R : Value → World → Prop} (hy : opnd s y = some (.func (.yield l) #[] #[])) (hx : opnds s xs = some vs) (hd : Nat.blt d n = true) (hY : YldAt r P l vs w R)
    (k : ∀ v w', R v w' → WLI r P ops K rest n D ((d, v) :: s) w') : WLI r P ops K (⟨some d, .call ⟨.value y, xs.toArray, at_⟩, ty, pos, af, none⟩ :: rest) n D s w := fun a ha =>
  wpListIn_plain rfl fun K' hK => by
    obtain ⟨fn, tmps, assign, body, hrun, hR⟩ := hY
    refine ⟨fun _ _ => trivial, ?_⟩
    rw [Oper.semAt_eq _ _ _ (by intro c e; cases e), exec_yield rfl hy hx (fun x u hx => ha.eval hx) hrun]
    exact ⟨fun q => (by simp [Fence.wide] at q), hR.mono fun e w' ⟨v, he, hv⟩ => by subst he; exact hK _ _ (k v w' hv _ (ha.put hd v))⟩
/-! ### The loop's record -/
structure LoopAt (n : Nat) (s : Sl) (ps : Array Tmp) (assign body : Code) (st : LoopState) (pend : Option Code) (l k : Nat) (w : World) : Prop where
  rec_ : ∃ x : Loop, w.heap[l]? = some (.loop x) ∧ x.state = st ∧ x.pending = pend ∧ x.params = ps ∧ x.assign = assign ∧ x.body = body ∧ Fr n [] s { tmps := x.tmps, defers := [] }
  dfr : w.heap[k]? = some (.deferred (some []))
variable {ps : Array Tmp} {assign body : Code} {st : LoopState} {pend : Option Code} {l k : Nat}
theorem LoopAt.keep {T : List Nat} {w' : World} (h : LoopAt n s ps assign body st pend l k w) (hc : Chg T w w') (hl : l ∉ T) (hk : k ∉ T) : LoopAt n s ps assign body st pend l k w' := by
  obtain ⟨⟨x, h1, h2⟩, h3⟩ := h
  exact ⟨⟨x, hc.heap h1 hl, h2⟩, hc.heap h3 hk⟩
theorem LoopAt.keep0 {w' : World} (h : LoopAt n s ps assign body st pend l k w) (hc : Chg [] w w') : LoopAt n s ps assign body st pend l k w' := h.keep hc (by simp) (by simp)
theorem LoopAt.ne {c : Array Value} {e : TypeId} {z : Nat × Nat} {b : Nat} (h : LoopAt n s ps assign body st pend l k w) (hb : w.heap[b]? = some (.cells c e z)) : b ≠ l ∧ b ≠ k := by
  obtain ⟨⟨x, h1, _⟩, h3⟩ := h
  exact ⟨(fun q => by rw [q, h1] at hb; cases hb), (fun q => by rw [q, h3] at hb; cases hb)⟩
theorem chg_putObj (w : World) (l : Nat) (o : Obj) : Chg [l] w (w.putObj l o) := ⟨rfl, rfl, rfl, by simp, fun k _ hk => World.putObj_heap_other (fun e => hk (by rw [e]; simp))⟩
theorem chg_allocO (w : World) (o : Obj) : Chg [] w (w.alloc o) := Chg.of_grown (World.grownBy_alloc w o none)
/-- What a round's body must come to. -/
def roundA (n : Nat) (s : Sl) (ps : Array Tmp) (assign body : Code) (l k : Nat) (R : Value → World → Prop) : AQ
  | .normal, _, _, w => LoopAt n s ps assign body .busy none l k w ∧ ∀ w', Chg [l] w w' → LoopAt n s ps assign body .ready none l k w' → R (.bool true) w'
  | .ret, _, _, w => LoopAt n s ps assign body .busy none l k w ∧ ∀ w', Chg [l] w w' → LoopAt n s ps assign body .done (some .ret) l k w' → R (.bool false) w'
  | _, _, _, _ => False
theorem round2 {p q : Nat} {x y : Value} {R : Value → World → Prop} (hL : LoopAt n s #[p, q] assign body .ready none l k w) (hp : Nat.blt p n = true) (hq : Nat.blt q n = true)
    (h : CWI (some l) P assign (thenK (fun D' s' w1 => LoopAt n s #[p, q] assign body .ready none l k w1 ∧ D' = [] ∧ ∀ w2, Chg [l] w1 w2 → LoopAt n s #[p, q] assign body .busy none l k w2 → CWI (some l) P body (roundA n s #[p, q] assign body l k R) n [] s' w2) (fun _ _ _ _ => False)) n [] ((q, y) :: (p, x) :: s) w) : YldAt none P l [x, y] w R := by
  obtain ⟨⟨rc, h1, h2, h3, h4, h5, h6, hf⟩, hk⟩ := hL
  have hy := run_yield (P := P) (args := #[x, y]) h1 (by rw [h4]; rfl)
  refine ⟨_, _, _, _, hy, roundIn_of_wpIn trivial ?_⟩
  rw [h4, h5, h6]
  have hfr : Fr n [] ((q, y) :: (p, x) :: s) { tmps := (#[p, q].zip #[x, y]).foldl (fun t (p, v) => t.setIfInBounds p v) rc.tmps, defers := [] } := by
    have e : (#[p, q].zip #[x, y]).foldl (fun t (p, v) => t.setIfInBounds p v) rc.tmps = (rc.tmps.setIfInBounds p x).setIfInBounds q y := by simp
    rw [e]
    exact (hf.put hp x).put hq y
  refine wpIn_mono (wpIn_n (r := some l) (h _ hfr)) fun e a w1 hq1 => ?_
  have hq2 := liftA_then _ _ _ _ hq1
  cases e with
  | normal =>
    obtain ⟨D', s', hf', hL1, rfl, hb⟩ := hq2
    obtain ⟨⟨rc1, g1, g2, g3, g4, g5, g6, gf⟩, gk⟩ := hL1
    have hlt := (Array.getElem?_eq_some_iff.1 g1).1
    have hkl : k ≠ l := fun e => by rw [e, g1] at gk; cases gk
    refine ⟨_, run_beginRound g1 g2, ?_⟩
    have hc := chg_putObj w1 l (.loop { rc1 with state := .busy })
    have hL2 : LoopAt n s #[p, q] assign body .busy none l k (w1.putObj l (.loop { rc1 with state := .busy })) := ⟨⟨_, World.putObj_heap_same hlt, rfl, g3, g4, g5, g6, gf⟩, (World.putObj_heap_other hkl).trans gk⟩
    refine wpIn_mono (wpIn_n (r := some l) (hb _ hc hL2 a hf')) fun e2 a2 w2 hr => ?_
    obtain ⟨D2, s2, hf2, hr⟩ := hr
    cases e2 with
    | normal =>
      obtain ⟨⟨⟨rc2, k1, k2, k3, k4, k5, k6, kf⟩, kk⟩, hR⟩ := hr
      have hlt2 := (Array.getElem?_eq_some_iff.1 k1).1
      exact ⟨_, _, run_endRound none k1, _, rfl, hR _ (chg_putObj w2 l _) ⟨⟨_, World.putObj_heap_same hlt2, rfl, rfl, k4, k5, k6, kf⟩, (World.putObj_heap_other hkl).trans kk⟩⟩
    | ret =>
      obtain ⟨⟨⟨rc2, k1, k2, k3, k4, k5, k6, kf⟩, kk⟩, hR⟩ := hr
      have hlt2 := (Array.getElem?_eq_some_iff.1 k1).1
      exact ⟨_, _, run_endRound (some .ret) k1, _, rfl, hR _ (chg_putObj w2 l _) ⟨⟨_, World.putObj_heap_same hlt2, rfl, rfl, k4, k5, k6, kf⟩, (World.putObj_heap_other hkl).trans kk⟩⟩
    | _ => exact hr.elim
  | _ => obtain ⟨_, _, _, hq3⟩ := hq1; exact hq3.elim
abbrev mk_ (k : Nat) : Deferred := { target := .collected k, args := #[] }
/-- The statement: its record is laid; the function is called with yield. -/
theorem CW.rangeFunc {g : Operand} {gf : Nat} {lb : List Value} (hg : opnd s g = some (.func (.func gf) #[] lb.toArray)) (hF : HasF P gf)
    (h : ∀ (l k : Nat) (w1 : World), w.heap.size ≤ k → w.heap.size ≤ l → Chg [] w w1 → LoopAt n s ps assign body .ready none l k w1 → Ret P gf (.func (.yield l) #[] #[] :: lb) w1 fun _ w2 =>
      (LoopAt n s ps assign body .ready none l k w2 ∧ ∀ w3, Chg [l] w2 w3 → w3.heap[k]? = some (.deferred (some [])) → A .normal (mk_ k :: D) s w3) ∨
      (LoopAt n s ps assign body .done (some .ret) l k w2 ∧ ∀ w3, Chg [l] w2 w3 → w3.heap[k]? = some (.deferred (some [])) → A .ret (mk_ k :: D) s w3)) : CW P (.rangeFunc g ps assign body) A n D s w := CW.ofI fun a ha => by
  refine wpIn_rangeFunc ?_
  intro fn _
  have hev := ha.eval hg
  obtain ⟨W1, hW1⟩ : ∃ W1, (w.alloc (.deferred (some []))).alloc (.loop { state := .ready, pending := none, fn, tmps := a.tmps, params := ps, assign, body, defers := w.heap.size }) = W1 := ⟨_, rfl⟩
  have hL1 : W1.heap[w.heap.size + 1]? = some (.loop { state := .ready, pending := none, fn, tmps := a.tmps, params := ps, assign, body, defers := w.heap.size }) := by
    rw [← hW1]; have := World.alloc_heap_new (w.alloc (.deferred (some []))) (.loop { state := .ready, pending := none, fn, tmps := a.tmps, params := ps, assign, body, defers := w.heap.size }); rwa [World.size_alloc] at this
  have hK1 : W1.heap[w.heap.size]? = some (.deferred (some [])) := by
    rw [← hW1]; exact (Chg.heap (chg_allocO _ _) (World.alloc_heap_new w _) (by simp))
  have hch : Chg [] w W1 := by rw [← hW1]; exact (chg_allocO _ _).trans (chg_allocO _ _)
  have hLoop : LoopAt n s ps assign body .ready none (w.heap.size + 1) w.heap.size W1 := ⟨⟨_, hL1, rfl, rfl, rfl, rfl, rfl, ⟨ha.size, rfl, ha.cell⟩⟩, hK1⟩
  have hcall := h (w.heap.size + 1) w.heap.size W1 (Nat.le_refl _) (by omega) hch hLoop
  refine ⟨w.heap.size + 1, [mk_ w.heap.size], W1, { target := .fn (.func gf) lb.toArray, args := #[.func (.yield (w.heap.size + 1)) #[] #[]] }, W1, gf,
    (.func (.yield (w.heap.size + 1)) #[] #[] :: lb).toArray, W1, ?_, ?_, fun _ _ => trivial, ?_, fun q => (by simp [Fence.wide] at q), ?_⟩
  · rw [← hW1]; exact run_enterLoop_outer _ _ _ _ _
  · simp only [resolve, hev]
    simp [go_sem]
  · have := hF.run (P := P) (w := W1) (.func (.yield (w.heap.size + 1)) #[] #[] :: lb).toArray
    simp [invoke] at this ⊢
    exact this
  · refine (callsIn_wide (n := 2)).2 (Calls.mono hcall fun e w2 ⟨v, he, hR⟩ => ?_)
    subst he
    rcases hR with ⟨⟨⟨rc, g1, g2, g3, _⟩, gk⟩, hA⟩ | ⟨⟨⟨rc, g1, g2, g3, _⟩, gk⟩, hA⟩
    · have hkl : w.heap.size ≠ w.heap.size + 1 := by omega
      refine ⟨_, _, run_endLoop g1 (by rw [g2]; simp), ?_⟩
      rw [g3]
      exact ⟨_, s, ⟨ha.size, by show [mk_ _] ++ a.defers = _; rw [ha.defers]; rfl, ha.cell⟩, hA _ (chg_putObj _ _ _) ((World.putObj_heap_other hkl).trans gk)⟩
    · have hkl : w.heap.size ≠ w.heap.size + 1 := by omega
      refine ⟨_, _, run_endLoop g1 (by rw [g2]; simp), ?_⟩
      rw [g3]
      exact wpIn_ret ⟨_, s, ⟨ha.size, by show [mk_ _] ++ a.defers = _; rw [ha.defers]; rfl, ha.cell⟩, hA _ (chg_putObj _ _ _) ((World.putObj_heap_other hkl).trans gk)⟩
/-! ### A function that holds such a statement -/
def bodyM (P : Program) (fn : Func) (n : Nat) (R : Value → World → Prop) : AQ
  | .normal, D, s, w | .ret, D, s, w => (D = [] ∧ ∃ v, ResS P fn n D s w v ∧ R v w) ∨ (∃ k, D = [mk_ k] ∧ w.heap[k]? = some (.deferred (some [])) ∧ ∀ w', Chg [k] w w' → ∃ v, ResS P fn n D s w' v ∧ R v w')
  | _, _, _, _ => False
theorem Ret.enterM {f : FuncId} {fn : Func} {c : Code} {args : List Value} {R : Value → World → Prop} (hf : P.funcs[f]? = some fn) (hb : fn.body = some c) (hn : Nat.ble args.length fn.ntmps = true)
    (h : CW P c (bodyM P fn fn.ntmps R) fn.ntmps [] (args0 0 args) w) : Ret P f args w R := by
  refine (callsIn_wide (n := 3)).1 (callsIn_of_wp_marks hf hb trivial (wpIn_mono ((wpIn_wide (n := 3)).2 (h _ (frame0 hn))) fun e a w1 hq => ?_))
  obtain ⟨D, s, hfr, hk⟩ := hq
  have go : ((D = [] ∧ ∃ v, ResS P fn fn.ntmps D s w1 v ∧ R v w1) ∨ (∃ k, D = [mk_ k] ∧ w1.heap[k]? = some (.deferred (some [])) ∧ ∀ w', Chg [k] w1 w' → ∃ v, ResS P fn fn.ntmps D s w' v ∧ R v w')) → LeavesInM Fence.wide 3 P fn a.tmps (fun e w' => ∃ v, e = .returned v ∧ R v w') a.defers .returning w1 := by
    rw [hfr.defers]
    rintro (⟨rfl, v, hv, hR⟩ | ⟨k, rfl, hk1, hall⟩)
    · exact ⟨v, hv a hfr, v, rfl, hR⟩
    · refine ⟨by simp, .inl ⟨k, _, rfl, run_takeDeferred hk1, ?_⟩⟩
      obtain ⟨v, hv, hR⟩ := hall _ (chg_putObj _ _ _)
      exact ⟨v, hv a hfr, v, rfl, hR⟩
  cases e with
  | normal => exact go hk
  | ret => exact go hk
  | _ => exact hk.elim
end
end Sx

/- Store: walk. No condition. -/
section
open Go Sx Wd Fl

namespace Sx
section
variable {P : Program} {s : Sl} {w : World} {ty : TypeId} {x : Operand}
theorem Ev.neqNilN {t t' : TypeId} {ms : Array (String × TypeId)} {sz by_ : Nat} {z : Value} [hT : HasT P t (.interface ms) sz by_ z] (hx : opnd s x = some .nilIface) : Ev P s (.binOp .neq t x (.const .nilIface) t') ty w (.bool false) w := fun ρ d pos af g hρ => by
  have e1 := hρ x _ hx
  have e2 : ρ (.const .nilIface) = .nilIface := hρ _ _ rfl
  have := run_eqIn (P := P) (w := w) (t := t) (u := .nilIface) (v := .nilIface) (r := true) (fun d => by simp [Op.equalIn, hT.underlying])
  simp [execOp, e1, e2, eqGuard, binOp, this]
theorem Ev.neqNilI {t t' T : TypeId} {ms : Array (String × TypeId)} {sz by_ : Nat} {z v : Value} [hT : HasT P t (.interface ms) sz by_ z] (hx : opnd s x = some (.iface T v)) : Ev P s (.binOp .neq t x (.const .nilIface) t') ty w (.bool true) w := fun ρ d pos af g hρ => by
  have e1 := hρ x _ hx
  have e2 : ρ (.const .nilIface) = .nilIface := hρ _ _ rfl
  have := run_eqIn (P := P) (w := w) (t := t) (u := .iface T v) (v := .nilIface) (r := false) (fun d => by simp [Op.equalIn, hT.underlying])
  simp [execOp, e1, e2, eqGuard, binOp, this]
theorem Ev.mkIface {t e : TypeId} {sz by_ : Nat} {z v : Value} [hT : HasT P t (.pointer e) sz by_ z] (hx : opnd s x = some v) : Ev P s (.makeInterface t x) ty w (.iface t v) w := fun ρ d pos af g hρ => by
  have e1 := hρ x _ hx
  simp [execOp, e1, Instr.makeInterface, hT.underlying]
theorem Ev.makeFunc1 {f : FuncId} {v : Value} (hx : opnd s x = some v) : Ev P s (.makeFunc (.func f) #[] #[x]) ty w (.func (.func f) #[] #[v]) w := fun ρ d' pos af g hρ => by
  have e1 := hρ x _ hx
  simp [execOp, Instr.makeFunc, e1]
theorem Ev.sliceD (lo : Nat) {t : TypeId} {a : Option Addr} {bs : List Nat} {c e be : Nat} {k' : IntKind} {lo' : Int} {de : TypeDesc} {ze : Value} {sz by_ : Nat} {z : Value} {p : Operand} [hT : HasT P t (.slice e) sz by_ z] [hE : HasT P e de 1 be ze]
    (hx : opnd s x = some (.slice a bs.length c)) (hp : opnd s p = some (.int k' lo')) (e1 : lo' = (lo : Int)) (h2 : lo ≤ bs.length) : Ev P s (.slice t x (some p) none none) ty w (.slice (cutAt a lo c 1) (bs.drop lo).length (c - lo)) w := by
  have := Ev.sliceLn (P := P) (w := w) (ty := ty) (t := t) (hT := hT) (hE := hE) lo hx hp e1 h2
  rwa [show bs.length - lo = (bs.drop lo).length by rw [List.length_drop]] at this
end
end Sx
/-- The store's errors as values: where they lie. -/
def evV (ea : Nat → Addr) (c : Nat) : Value := .iface 404 (.pointer (some (ea c)))
theorem rdRec_ok {bs nm dat : List Nat} (hB : B8 bs) (h : rdRec bs = (0, nm, dat)) : 1 ≤ nm.length ∧ nm.length ≤ 64 ∧ 8 + nm.length + dat.length ≤ bs.length ∧ B8 nm ∧ B8 dat := by
  unfold rdRec at h
  split at h
  · cases h
  split at h
  · cases h
  split at h
  · cases h
  split at h
  · cases h
  split at h
  · cases h
  rename_i q1 q2 q3 q4 q5
  injection h with h1 h2
  injection h2 with h2 h3
  subst h2; subst h3
  rw [mid_len (by omega), mid_len (by omega)]
  exact ⟨by omega, by omega, by omega, (hB.drop _).take _, (hB.drop _).take _⟩
/-- Records that were read, up to place p. -/
inductive Wk (bs : List Nat) : List (ByteArray × List Nat) → Nat → Prop
  | nil : Wk bs [] 0
  | step {R : List (ByteArray × List Nat)} {p : Nat} {nm dat : List Nat} : Wk bs R p → p < bs.length → rdRec (bs.drop p) = (0, nm, dat) → Wk bs (R ++ [(bA nm, dat)]) (p + (8 + nm.length + dat.length))
theorem Wk.le {bs : List Nat} (hB : B8 bs) {R : List (ByteArray × List Nat)} {p : Nat} (h : Wk bs R p) : p ≤ bs.length := by
  cases h with
  | nil => exact Nat.zero_le _
  | step h1 h2 h3 =>
    have := (rdRec_ok (hB.drop _) h3).2.2.1
    rw [List.length_drop] at this
    omega
/-- What the caller's rounds must hold, round by round. -/
structure Walks (l cb cl : Nat) (al : Option Addr) (bs : List Nat) (ea : Nat → Addr) (J : List (ByteArray × List Nat) → Nat → World → Prop) (Jx : Nat → Nat → World → Prop) : Prop where
  keep : ∀ R p W W', J R p W → Chg [] W W' → J R p W'
  has : ∀ R p W, J R p W → BK W cb 35 [.slice al bs.length cl] ∧ RW W al (bs.map u8v) ∧ GE W (evV ea) ∧ GW W
  one : ∀ R p nm dat W0 W dv, Wk bs R p → J R p W0 → Chg [] W0 W → p < bs.length → rdRec (bs.drop p) = (0, nm, dat) → GR W 5 u8v 0 [] dv dat →
    YldAt none Tryz.prog l [.agg [.string (bA nm), dv].toArray, .nilIface] W fun v W' => v = .bool true ∧ J (R ++ [(bA nm, dat)]) (p + (8 + nm.length + dat.length)) W' ∧ ∃ X : List Nat, Chg X W W' ∧ ∀ b ∈ X, b < W0.heap.size
  bad : ∀ R p c W bf, Wk bs R p → J R p W → p < bs.length → (rdRec (bs.drop p)).1 = c → c ≠ 0 → BK W bf 128 [.int .i64 (p : Int), evV ea c] →
    YldAt none Tryz.prog l [.agg [.string ⟨#[]⟩, .slice none 0 0].toArray, .iface 124 (.pointer (some ⟨bf, 0, none⟩))] W fun v W' => Jx p c W'
theorem stWalk_spec (al : Option Addr) (m cl : Nat) (w : World) : Ret Tryz.prog 69 [.slice al m cl] w fun u w' => (∃ cb, u = .func (.func 158) #[] [Value.pointer (some ⟨cb, 0, none⟩)].toArray ∧ BK w' cb 35 [.slice al m cl] ∧ w.heap.size ≤ cb) ∧ Chg [] w w' := by
 have hch : Chg [] w w := Chg.refl _ _;refine zE1 Tryz.func69 rfl ?_;refine Sr fun _ kh1 => ?_;refine zBh rfl rfl rfl hch fun b1 wm1 hb1 hcm1 hge1 hgehch1 hch => ?_;refine za rfl (zz (kh1 (Sr fun _ kh3 => ?_)));refine WL.ev (Ev.makeFunc1 rfl) rfl ?_;refine za rfl (zz (kh3 ?_));refine zr (zr1 rfl rfl ?_);exact ⟨⟨b1, rfl, hb1, by omega⟩, hch⟩

theorem stWalk1_spec (l cb cl : Nat) (al : Option Addr) (bs : List Nat) (ea : Nat → Addr) (J : List (ByteArray × List Nat) → Nat → World → Prop) (Jx : Nat → Nat → World → Prop) (w : World) (hW : Walks l cb cl al bs ea J Jx) (h0 : J [] 0 w) (hcap : bs.length ≤ cl) (hB : B8 bs) (hlen : bs.length ≤ 1048576) : Ret Tryz.prog 158 [.func (.yield l) #[] #[], .pointer (some ⟨cb, 0, none⟩)] w fun u w' => (∃ R, Wk bs R bs.length ∧ J R bs.length w') ∨ (∃ R p c, Wk bs R p ∧ p < bs.length ∧ (rdRec (bs.drop p)).1 = c ∧ c ≠ 0 ∧ Jx p c w') := by
 refine zE2 Tryz.func158 rfl ?_;refine Sr fun _ kh1 => za rfl (zz (kh1 ?_));refine CW.block ?_;refine CW.loop (S := fun g : List (ByteArray × List Nat) × Nat => [(0, .func (.yield l) #[] #[]), (1, .pointer (some ⟨cb, 0, none⟩)), (3, .int .i64 (g.2 : Int))]) (Inv := fun g w1 => Wk bs g.1 g.2 ∧ J g.1 g.2 w1) (mu := fun g => bs.length - g.2) (([], 0)) ?_ ?_ ?_
 ·exact ⟨Wk.nil, h0⟩
 ·exact SLp
 ·rintro ⟨R, p⟩ wr ⟨hwk, hJ⟩;dsimp only at hwk hJ;dsimp only;have hple := hwk.le hB;obtain ⟨hcb, hrow, hE, hg⟩ := hW.has _ _ _ hJ;have hch : Chg [] wr wr := Chg.refl _ _;refine zc fun _ kh3 => Sr fun _ kh4 => zm rfl (zl hcb rfl rfl (zn rfl ?_));refine WL.ev (Ev.lss rfl rfl) rfl ?_;refine zz (kh4 ?_);refine zy rfl ?_ ?_<;>intro hc1<;>try simp only [qs] at hc1
  ·have hpl : p < bs.length := by omega
   refine zkk ?_;refine kh3 ?_;refine CW.block ?_;refine Sr fun _ kh6 => zl hcb rfl rfl (zm rfl ?_);refine WL.ev (Ev.sliceD (bs := bs) p rfl rfl (by omega) (by omega)) rfl ?_;refine WL.call hasF159 rfl rfl (stRead_spec (cutAt al p cl 1) (bs.drop p) (cl - p) _ (evV ea) (RW.slice_drop (hrow.keep0 hch) hple hcap) (by rw [List.length_drop]; omega) (hB.drop p) (by rw [List.length_drop]; omega) (by rw [List.length_drop]; omega) (hE.keep0 hch) (hg.keep hch (fun b hb => by cases hb))) fun v w1 h' => ?_;obtain ⟨hu, hC⟩ := h';have hch := hch.ta hC;have hcb := hcb.keep0 hC;rcases hu with ⟨hz, dv, rfl, hgd⟩ | ⟨hnz, rfl⟩
   ·obtain ⟨nm, dat, hz⟩ : ∃ nm dat, rdRec (bs.drop p) = (0, nm, dat) := by
     cases q : rdRec (bs.drop p) with
     | mk a b => obtain ⟨nm, dat⟩ := b; rw [q] at hz; cases hz; exact ⟨_, _, rfl⟩
    rw [hz] at hgd;dsimp only at hgd;rw [hz];dsimp only;obtain ⟨ad, cd, rfl, hcapd, hrd⟩ := hgd.row;have hok := rdRec_ok (hB.drop p) hz;rw [List.length_drop] at hok;refine zm rfl (zx rfl rfl (zx rfl rfl ?_));refine WL.allocB (l := [.string ⟨#[]⟩, .slice none 0 0]) rfl rfl fun b4 wm4 hb4 hcm4 hge4 => ?_;have hgehch4 := Nat.le_trans hch.size hge4;have hch := hch.ta hcm4;have hnecb4 : cb ≠ b4 := by have := hcb.lt; omega
    have hgd := hgd.keep0 hcm4;refine zss rfl rfl ao hb4 rfl fun ws12 hb4_ hcs12 => ?_;(try simp only [Sx.splice, qt] at hb4_);have hch := hch.s1 hcs12;have hgd := hgd.keepV hcs12 (fun y hy => by rw [List.mem_singleton.1 hy]; exact hgd.notBK hb4 (by decide));have hb4 := hb4_;refine za rfl (zz (kh6 (zc fun _ kh8 => Sr fun _ kh9 => zm rfl ?_)));refine WL.ev (Ev.neqNilN rfl) rfl ?_;refine zz (kh9 ?_);refine CW.condF rfl ?_;refine zkk ?_;refine kh8 (zc fun _ kh11 => zc fun _ kh12 => ?_);refine CW.ofI (CWI.regionI fun kR13 kr13 => ?_);refine WLI.at 2 rfl ?_;refine zm rfl (zg hb4 rfl ?_);refine WL.nil ?_;refine WLI.yield rfl rfl rfl (hW.one R p nm dat wr _ _ hwk hJ hch hpl hz hgd) fun v w2 h' => ?_;obtain ⟨rfl, hJ2, X, hX, hXl⟩ := h';have hb4 := hb4.keep hX (fun hm => by have := hXl _ hm; omega);have hch2 : Chg [] w2 w2 := Chg.refl _ _;refine WLI.of rfl ?_;refine WL.ev (Ev.not rfl) rfl ?_;refine WL.nil (kr13 _ _ _ (kh12 ?_));refine CW.condF rfl ?_;refine zkk ?_;refine kh11 ?_;refine zR fun _ kr14 => ?_;refine zm rfl (zg hb4 rfl ?_);refine WL.call hasF160 rfl rfl (stSize_spec (bA nm) ad dat.length cd _ (by rw [sB_bA hok.2.2.2.1]; omega) (by omega)) fun v w3 h' => ?_;obtain ⟨rfl, hC⟩ := h';have hch2 := hch2.trans hC;rw [sB_bA hok.2.2.2.1];(first | refine zi rfl rfl ?_ | refine zo rfl rfl ?_);refine za rfl ?_;refine WL.nil (kr14 _ _ _ ?_);refine ⟨rfl, (R ++ [(bA nm, dat)], p + (8 + nm.length + dat.length)), ?_, ?_, ?_⟩
    ·exact SLp
    ·exact ⟨hwk.step hpl hz, hW.keep _ _ _ _ hJ2 hch2⟩
    ·show bs.length - (p + (8 + nm.length + dat.length)) < bs.length - p; omega
   ·obtain ⟨c, hc⟩ : ∃ c, (rdRec (bs.drop p)).1 = c := ⟨_, rfl⟩;rw [hc] at hnz;rw [hc];refine zm rfl (zx rfl rfl (zx rfl rfl ?_));refine WL.allocB (l := [.string ⟨#[]⟩, .slice none 0 0]) rfl rfl fun b4 wm4 hb4 hcm4 hge4 => ?_;have hgehch4 := Nat.le_trans hch.size hge4;have hch := hch.ta hcm4;have hnecb4 : cb ≠ b4 := by have := hcb.lt; omega
    have hcb := hcb.keep0 hcm4;refine zss rfl rfl ao hb4 rfl fun ws13 hb4_ hcs13 => ?_;(try simp only [Sx.splice, qt] at hb4_);have hch := hch.s1 hcs13;have hcb := hcb.kq hcs13;have hb4 := hb4_;refine za rfl (zz (kh6 (zc fun _ kh15 => Sr fun _ kh16 => zm rfl ?_)));refine WL.ev (Ev.neqNilI rfl) rfl ?_;refine zz (kh16 ?_);refine CW.condT rfl ?_;refine zc fun _ kh18 => ?_;refine CW.ofI (CWI.regionI fun kR19 kr19 => ?_);refine WLI.at 7 rfl ?_;refine zm rfl (zg hb4 rfl (zm rfl (zm rfl ?_)));refine WL.ev (Ev.build (vs := _) (cs := [_, _]) rfl rfl) rfl ?_;refine zBh rfl rfl rfl hch fun b24 wm24 hb24 hcm24 hge24 hgehch24 hch => ?_;have hnecb24 : cb ≠ b24 := by have := hcb.lt; omega
    refine WL.ev (Ev.mkIface rfl) rfl ?_;refine WL.nil ?_;refine WLI.yield rfl rfl rfl (hW.bad R p c _ b24 hwk (hW.keep _ _ _ _ hJ hch) hpl hc hnz hb24) fun v w4 h' => ?_;refine WLI.nil (kr19 _ _ _ ?_);refine kh18 ?_;refine zr ?_;refine bodyA.ret0 rfl ?_;exact .inr ⟨R, p, c, hwk, hpl, hc, hnz, h'⟩
  ·have hpe : p = bs.length := by omega
   subst hpe;refine CW.exit ?_;refine bodyA.norm0 rfl ?_;exact .inl ⟨R, hwk, hJ⟩

end

/- Store: what Replay needs. No condition. -/
section
open Go Sx Wd Fl

/-- No cells lie there. -/
def NoC (w : World) (k : Nat) : Prop := ∀ c e z, w.heap[k]? ≠ some (.cells c e z)
section
variable {w w' : World} {k : Nat}
theorem Sx.LoopAt.noC {n : Nat} {s : Sl} {ps : Array Tmp} {assign body : Code} {st : LoopState} {pend : Option Code} {l : Nat} (h : LoopAt n s ps assign body st pend l k w) : NoC w l ∧ NoC w k :=
  ⟨fun c e z q => (h.ne q).1 rfl, fun c e z q => (h.ne q).2 rfl⟩
theorem noC_def (h : w.heap[k]? = some (.deferred (some []))) : NoC w k := fun c e z q => by rw [h] at q; cases q
theorem BK.keepN {b : Nat} {T : TypeId} {cs : List Value} (h : BK w b T cs) (hc : Chg [k] w w') (hn : NoC w k) : BK w' b T cs := h.keep hc (by simp only [List.mem_singleton]; rintro rfl; exact hn _ _ _ h)
theorem GR.keepNC {e : TypeId} {f : Nat → Value} {lo : Nat} {X : List Nat} {v : Value} {l : List Nat} (h : GR w e f lo X v l) (hc : Chg [k] w w') (hn : NoC w k) : GR w' e f lo X v l := h.keepV hc fun b hb q => by
  rw [List.mem_singleton.1 hb] at q
  obtain ⟨cur, hcur⟩ := h.cells q
  exact hn _ _ _ hcur
theorem GRc.keepN {e es lo m : Nat} {X : List Nat} {v : Value} {l : List Value} (h : GRc w e es lo X v m l) (hc : Chg [k] w w') (hn : NoC w k) : GRc w' e es lo X v m l := h.keepV hc fun b hb q => by
  rw [List.mem_singleton.1 hb] at q
  obtain ⟨cur, hcur⟩ := h.cells_ q
  exact hn _ _ _ hcur
theorem LgM.keepN {lo b : Nat} {G : List RG} (h : LgM lo w b G) (hc : Chg [k] w w') (hn : NoC w k) : LgM lo w' b G := by
  obtain ⟨⟨v, h1, h2⟩, h3, h4⟩ := h
  exact ⟨⟨v, BK.keepN h1 hc hn, h2.keepN hc hn⟩, fun g hg => ⟨(h3 g hg).1.keepNC hc hn, (h3 g hg).2⟩, h4⟩
/-- Another block turns, of no record, data or log. -/
theorem LgM.blocks {lo b : Nat} {G : List RG} (h : LgM lo w b G) : ∃ v t, BK w b 194 [v, t] ∧ ∀ y ∈ v.ownBlock.toList, y < w.heap.size := by
  obtain ⟨⟨v, h1, h2⟩, _⟩ := h
  exact ⟨v, _, h1, fun y hy => h2.lt (Option.mem_toList.1 hy)⟩
end
namespace Sx
section
variable {P : Program} {n : Nat} {D : List Deferred} {s : Sl} {w : World} {ty : TypeId} {x : Operand} {fn : Func} {R : Value → World → Prop}
theorem Ev.eqlNilN {t t' : TypeId} {ms : Array (String × TypeId)} {sz by_ : Nat} {z : Value} [hT : HasT P t (.interface ms) sz by_ z] (hx : opnd s x = some .nilIface) : Ev P s (.binOp .eql t x (.const .nilIface) t') ty w (.bool true) w := fun ρ d pos af g hρ => by
  have e1 := hρ x _ hx
  have e2 : ρ (.const .nilIface) = .nilIface := hρ _ _ rfl
  have := run_eqIn (P := P) (w := w) (t := t) (u := .nilIface) (v := .nilIface) (r := true) (fun d => by simp [Op.equalIn, hT.underlying])
  simp [execOp, e1, e2, eqGuard, binOp, this]
theorem bodyM.retM3 {r q p : ResultVar} (k : Nat) (hr : fn.results = #[r, q, p]) (hk : w.heap[k]? = some (.deferred (some []))) (h : ∀ w', Chg [k] w w' → ∃ v u x, RVal P n [mk_ k] s w' r v ∧ RVal P n [mk_ k] s w' q u ∧ RVal P n [mk_ k] s w' p x ∧ R (.tuple [v, u, x].toArray) w') : bodyM P fn n R .ret [mk_ k] s w :=
  .inr ⟨k, rfl, hk, fun w' hc => by
    obtain ⟨v, u, x, h1, h2, h3, hR⟩ := h w' hc
    exact ⟨_, fun a ha => by rw [results_rdR, hr]; simp [h1 a ha, h2 a ha, h3 a ha], hR⟩⟩
end
end Sx

theorem asNil_spec (t : Value) (w : World) : Ret Tryz.prog 70 [.nilIface, t] w fun u w' => u = .bool false ∧ w = w' := by
 refine zE2 Tryz.func70 rfl ?_;refine Sr fun _ kh1 => za rfl (zz (kh1 (zc fun _ kh3 => Sr fun _ kh4 => zm rfl ?_)));refine WL.ev (Ev.eqlNilN rfl) rfl ?_;refine zz (kh4 ?_);refine CW.condT rfl ?_;refine Sr fun _ kh6 => za rfl (zz (kh6 ?_));refine zr (zr1 rfl rfl ?_);exact ⟨rfl, rfl⟩

end

/- Store: Replay of bytes that are whole records. No condition. -/
section
open Go Sx Wd Fl

theorem Sx.LoopAt.abs {n : Nat} {s : Sl} {ps : Array Tmp} {assign body : Code} {st : LoopState} {pend : Option Code} {l k : Nat} {w : World} (h : LoopAt n s ps assign body st pend l k w) : ∃ LA : LoopState → Option Code → World → Prop, LA st pend w ∧ ∀ st pe W, LA st pe W ↔ LoopAt n s ps assign body st pe l k W := ⟨fun st pe W => LoopAt n s ps assign body st pe l k W, h, fun _ _ _ => Iff.rfl⟩
theorem Sx.LoopAt.lt {n : Nat} {s : Sl} {ps : Array Tmp} {assign body : Code} {st : LoopState} {pend : Option Code} {l k : Nat} {w : World} (h : LoopAt n s ps assign body st pend l k w) : l < w.heap.size ∧ k < w.heap.size := by
  obtain ⟨⟨x, h1, _⟩, h3⟩ := h
  exact ⟨(Array.getElem?_eq_some_iff.1 h1).1, (Array.getElem?_eq_some_iff.1 h3).1⟩
def tellG (G : List RG) : List (ByteArray × List Nat) := G.map fun g => (g.1, g.2.1)
theorem tellG_snoc (G : List RG) (g : RG) : tellG (G ++ [g]) = tellG G ++ [(g.1, g.2.1)] := by simp [tellG]
/-- Replay's loop between two rounds. -/
structure RepJ (w : World) (bl b2 b3 b4 b5 cb m cl : Nat) (al : Option Addr) (LA : LoopState → Option Code → World → Prop) (R : List (ByteArray × List Nat)) (p : Nat) (W : World) : Prop where
  ex : ∃ G, tellG G = R ∧ LgM w.heap.size W bl G ∧ totG G = p
  la : LA .ready none W
  h2 : BK W b2 46 [.pointer none]
  h3 : BK W b3 3 [.int .i64 0]
  h4 : BK W b4 47 [.int .i64 0]
  h5 : BK W b5 46 [.pointer (some ⟨bl, 0, none⟩)]
  hc : BK W cb 35 [.slice al m cl]
  ch : Chg [] w W
theorem RepJ.keep0 {w W W' : World} {bl b2 b3 b4 b5 cb m cl : Nat} {al : Option Addr} {LA : LoopState → Option Code → World → Prop} {R : List (ByteArray × List Nat)} {p : Nat} (h : RepJ w bl b2 b3 b4 b5 cb m cl al LA R p W) (hk : ∀ st pe W W', LA st pe W → Chg [] W W' → LA st pe W') (hc : Chg [] W W') : RepJ w bl b2 b3 b4 b5 cb m cl al LA R p W' := by
  obtain ⟨⟨G, g1, g2, g3⟩, a1, a2, a3, a4, a5, a6, a7⟩ := h
  exact ⟨⟨G, g1, g2.keep0 hc, g3⟩, hk _ _ _ _ a1 hc, a2.keep0 hc, a3.keep0 hc, a4.keep0 hc, a5.keep0 hc, a6.keep0 hc, a7.trans hc⟩
structure RepE (lo bl k : Nat) (G : List RG) (w : World) : Prop where
  lg : LgM lo w bl G
  kd : w.heap[k]? = some (.deferred (some []))
theorem RepE.keepBK {lo bl k b : Nat} {G : List RG} {w w' : World} {T : TypeId} {cs : List Value} (h : RepE lo bl k G w) (hb : BK w b T cs) (hc : Chg [b] w w') (_ : ∀ c ∈ cs, isU32 c = false) (h0 : 194 ≠ T := by decide) (h1 : 121 ≠ T := by decide) (h2 : 5 ≠ T := by decide) : RepE lo bl k G w' := by
  refine ⟨h.lg.keepBK hb hc (fun e => ?_) h1 h2, hc.heap h.kd fun e => ?_⟩
  · obtain ⟨⟨v, q1, _⟩, _⟩ := h.lg
    subst e
    have := q1.symm.trans hb
    simp at this
    exact h0 this.2
  · have hkb := List.mem_singleton.1 e
    have := h.kd
    rw [hkb, show w.heap[b]? = _ from hb] at this
    cases this
theorem BK.inj {w : World} {b : Nat} {T : TypeId} {cs ds : List Value} (h : BK w b T cs) (h' : BK w b T ds) : cs = ds := by
  have := h.symm.trans h'
  simpa using this

theorem stReplayOk_spec (al : Option Addr) (bs : List Nat) (cl : Nat) (w : World) (ea : Nat → Addr) (hrb : RW w al (bs.map u8v)) (hcap : bs.length ≤ cl) (hB : B8 bs) (hlen : bs.length ≤ 1048576) (hE : GE w (evV ea)) (hg : GW w) (hgood : ∀ R p, Wk bs R p → p < bs.length → (rdRec (bs.drop p)).1 = 0) : Ret Tryz.prog 16 [.slice al bs.length cl] w fun u w' => (∃ bl G, u = .tuple [.pointer (some ⟨bl, 0, none⟩), .int .i64 (bs.length : Int), .int .i64 0].toArray ∧ Wk bs (tellG G) bs.length ∧ LgM w.heap.size w' bl G ∧ w.heap.size ≤ bl) ∧ Chg [] w w' := by
  have hch : Chg [] w w := Chg.refl _ _;refine Ret.enterM Tryz.func16 rfl rfl ?_;simp only [args0, Nat.zero_add, Nat.reduceAdd];refine Sr fun _ kh1 => ?_;refine WL.allocB (l := [.pointer none]) rfl rfl fun b2 wm2 hb2 hcm2 hge2 => ?_;have hgehch2 := Nat.le_trans hch.size hge2;have hch := hch.ta hcm2;refine WL.allocB (l := [.int .i64 0]) rfl rfl fun b3 wm3 hb3 hcm3 hge3 => ?_;have hgehch3 := Nat.le_trans hch.size hge3;have hch := hch.ta hcm3;have hneb23 := zdd hb2.lt hge3;have hb2 := hb2.k0 hcm3;refine WL.allocB (l := [.int .i64 0]) rfl rfl fun b4 wm4 hb4 hcm4 hge4 => ?_;have hgehch4 := Nat.le_trans hch.size hge4;have hch := hch.ta hcm4;have hneb24 := zdd hb2.lt hge4;have hb2 := hb2.k0 hcm4;have hneb34 := zdd hb3.lt hge4;have hb3 := hb3.k0 hcm4;refine zz (kh1 (zc fun _ kh3 => Sr fun _ kh4 => zm rfl (zn rfl ?_)));refine WL.ev (Ev.gtr rfl rfl) rfl ?_;refine zz (kh4 ?_);refine zy rfl ?_ ?_<;>intro hc1<;>try simp only [qs] at hc1
  · omega
  · refine zkk ?_
    refine kh3 (Sr fun _ kh6 => ?_);refine WL.call hasF66 rfl rfl (stNew_spec _) fun v w1 h' => ?_;obtain ⟨⟨bl, rfl, hbl0, hgel⟩, hC⟩ := h';have hgel : w.heap.size ≤ bl := Nat.le_trans hch.size hgel;have hch := hch.ta hC;have hb2 := hb2.k0 hC;have hb3 := hb3.k0 hC;have hb4 := hb4.k0 hC;refine WL.allocB (l := [.pointer none]) rfl rfl fun b5 wm5 hb5 hcm5 hge5 => ?_;have hgehch5 := Nat.le_trans hch.size hge5;have hch := hch.ta hcm5;have hneb25 := zdd hb2.lt hge5;have hb2 := hb2.k0 hcm5;have hneb35 := zdd hb3.lt hge5;have hb3 := hb3.k0 hcm5;have hneb45 := zdd hb4.lt hge5;have hb4 := hb4.k0 hcm5;have hnebl5 := zdd hbl0.lt hge5;have hbl0 := hbl0.keep0 hcm5;refine WL.storeC rfl rfl o1 hb5 (by simp) rfl fun ws14 hb5_ hcs14 => ?_;(try simp only [Sx.splice, qt] at hb5_);have hch := hch.s1 hcs14;have hb2 := hb2.kq hcs14;have hb3 := hb3.kq hcs14;have hb4 := hb4.kq hcs14;have hbl0 := hbl0.kq hcs14;have hb5 := hb5_;refine zz (kh6 (zc fun _ kh8 => Sr fun _ kh9 => zm rfl ?_));refine WL.call hasF69 rfl rfl (stWalk_spec _ _ _ _) fun v w2 h' => ?_;obtain ⟨⟨cb, rfl, hcb, hgec⟩, hC⟩ := h';have hch := hch.ta hC;have hb2 := hb2.k0 hC;have hb3 := hb3.k0 hC;have hb4 := hb4.k0 hC;have hbl0 := hbl0.keep0 hC;have hb5 := hb5.k0 hC;refine zz (kh9 ?_);refine CW.block ?_;refine CW.rangeFunc rfl hasF158 fun l k w1 hkl hll hc1 hL => ?_;have hll : w.heap.size ≤ l := Nat.le_trans hch.size hll;have hkl : w.heap.size ≤ k := Nat.le_trans hch.size hkl;obtain ⟨LA, hLA, hLI⟩ := hL.abs;have hLk : ∀ st pe W W', LA st pe W → Chg [] W W' → LA st pe W' := fun st pe W W' h hc => (hLI _ _ _).2 (((hLI _ _ _).1 h).keep0 hc);have hW : Walks l cb cl al bs ea (RepJ w bl b2 b3 b4 b5 cb bs.length cl al LA) (fun _ _ _ => False) := {
      keep := fun R p W W' h hc => h.keep0 hLk hc
      has := fun R p W h => ⟨h.hc, hrb.keep0 h.ch, hE.keep0 h.ch, hg.keep h.ch (fun b hb => by cases hb)⟩
      bad := fun R p c W bf hwk _ hpl hc hnz _ => absurd (hgood R p hwk hpl) (by rw [hc]; exact hnz)
      one := fun R p nm dat W0 W dv hwk hJ hcW hpl hz hgd => by
        have hok := rdRec_ok (hB.drop p) hz;rw [List.length_drop] at hok;obtain ⟨hn1, hn2, hn3, hn4, hn5⟩ := hok;obtain ⟨⟨G, hG, hLg, htot⟩, hla, h2, h3, h4, h5, hc, hch⟩ := hJ;have hL0 := (hLI _ _ _).1 hla;obtain ⟨v0, t0, hv0, hv0l⟩ := hLg.blocks;have hLl := hL0.lt;have hbl0 := hLg.lt;obtain ⟨ad, cd, rfl, hcapd, hrd⟩ := hgd.row;have hL1 := hL0.keep0 hcW;refine round2 hL1 rfl rfl ?_;refine CWI.seq fun kA kha => ?_;refine CWI.region rfl fun kB khb => ?_;refine WL.allocB (l := [.string ⟨#[]⟩, .slice none 0 0]) rfl rfl fun b6 wm6 hb6 hcm6 hge6 => ?_;refine zss rfl rfl (by intro u hu; simp only [List.mem_cons, List.not_mem_nil, or_false] at hu; rcases hu with rfl | rfl <;> rfl) hb6 rfl fun ws6 hb6_ hcs6 => ?_;(try simp only [Sx.splice, qt] at hb6_);refine WL.nil (khb _ _ _ ?_);refine kha _ _ _ ?_;refine CWI.region rfl fun kC khc => ?_;refine za rfl ?_;refine WL.nil (khc _ _ _ ?_);have hW6 : Chg [] W ws6 := hcm6.step hcs6 fun y hy => by rw [List.mem_singleton.1 hy]; exact .inr hge6
        have h06 := hcW.trans hW6;have hL6 := hL0.keep0 h06;refine ⟨hL6, rfl, fun W2 hc2 hL2 => ?_⟩;have hN6 := hL6.noC;have hLg2 := (hLg.keep0 h06).keepN hc2 hN6.1;have h22 := BK.keepN (h2.keep0 h06) hc2 hN6.1;have h32 := BK.keepN (h3.keep0 h06) hc2 hN6.1;have h42 := BK.keepN (h4.keep0 h06) hc2 hN6.1;have h52 := BK.keepN (h5.keep0 h06) hc2 hN6.1;have hcc2 := BK.keepN (hc.keep0 h06) hc2 hN6.1;have hv2 := BK.keepN (hv0.keep0 h06) hc2 hN6.1;have hb62 := BK.keepN hb6_ hc2 hN6.1;have hgd2 := (hgd.keep0 hW6).keepNC hc2 hN6.1;have hX2 : Chg (l :: bl :: v0.ownBlock.toList) W W2 := (Chg.any hW6).trans (hc2.mono fun y hy => by rw [List.mem_singleton.1 hy]; exact List.mem_cons_self ..);have hch2 : Chg [bl] w W2 := ((Chg.any (hch.trans h06)).step hc2 fun y hy => by rw [List.mem_singleton.1 hy]; exact .inr hll);refine CWI.block ?_;refine CWI.seq fun kD khd => ?_;refine CWI.region rfl fun kE khe => ?_;refine WL.allocB (l := [.pointer none]) rfl rfl fun b8 wm8 hb8 hcm8 hge8 => ?_;refine WL.nil (khe _ _ _ ?_);refine khd _ _ _ ?_;refine CWI.seq fun kF khf => ?_;refine CWI.seq fun kG khg => ?_;refine CWI.region rfl fun kH khh => ?_;refine zm rfl ?_;refine WL.ev (Ev.mkIface rfl) rfl ?_;refine WL.call hasF70 rfl rfl (asNil_spec _ _) fun v w9 h' => ?_;obtain ⟨rfl, rfl⟩ := h';refine WL.nil (khh _ _ _ ?_);refine khg _ _ _ ?_;refine CWI.condF rfl ?_;refine CWI.skip ?_;refine khf _ _ _ ?_;refine CWI.region rfl fun kI khi => ?_;refine WL.ev (Ev.load (v := .pointer (some ⟨bl, 0, none⟩)) rfl rfl ((h52.keep0 hcm8).at_ rfl)) rfl ?_;refine WL.ev (Ev.loadA rfl rfl (hb62.keep0 hcm8) rfl) rfl ?_;have hsz : szG (bA nm, dat, Value.slice ad dat.length cd) = 8 + nm.length + dat.length := by unfold szG; dsimp only; rw [sB_bA hn4]
        refine WL.call hasF72 rfl rfl (stAdd_spec bl w.heap.size G (bA nm) ad dat cd w wm8 (hLg2.keep0 hcm8) (hgd2.keep0 hcm8) hn5 (by rw [sB_bA hn4]; omega) (by omega) (hch2.ta hcm8) (Nat.le_refl _) (hch2.ta hcm8).size) fun v w10 h' => ?_;obtain ⟨h', v1, t1, hv1, hX⟩ := h';have hev := BK.inj (BK.keep0 hv2 hcm8) hv1
        injection hev with hev hev2
        subst hev;refine WL.nil (khi _ _ _ ?_);rcases h' with ⟨hgt, _⟩ | ⟨hle, rfl, hLg3, hch3⟩
        · rw [hsz] at hgt; omega
        have hL8 := hL2.keep0 hcm8;have nl : l ∉ bl :: v0.ownBlock.toList := fun hm => by
          rcases List.mem_cons.1 hm with e | e
          · exact ((hL0.ne (show W0.heap[bl]? = _ from hv0)).1 e.symm)
          · obtain ⟨⟨vv, g1, g2⟩, _⟩ := hLg
            have e9 := BK.inj hv0 g1
            injection e9 with e9 _
            subst e9;obtain ⟨cur, hcur⟩ := g2.cells_ (Option.mem_toList.1 e);exact (hL0.ne hcur).1 rfl
        have nk : k ∉ bl :: v0.ownBlock.toList := fun hm => by
          rcases List.mem_cons.1 hm with e | e
          · exact ((hL0.ne (show W0.heap[bl]? = _ from hv0)).2 e.symm)
          · obtain ⟨⟨vv, g1, g2⟩, _⟩ := hLg
            have e9 := BK.inj hv0 g1
            injection e9 with e9 _
            subst e9;obtain ⟨cur, hcur⟩ := g2.cells_ (Option.mem_toList.1 e);exact (hL0.ne hcur).2 rfl
        have hL10 := hL8.keep hX nl nk;have other : ∀ {b T cs}, BK W0 b T cs → T ≠ 194 → T ≠ 121 → b ∉ bl :: v0.ownBlock.toList := fun {b T cs} hb n1 n2 hm => by
          rcases List.mem_cons.1 hm with e | e
          · subst e
            have := hb.symm.trans hv0;simp at this;exact n1 this.2
          · obtain ⟨⟨vv, g1, g2⟩, _⟩ := hLg
            have e9 := BK.inj hv0 g1
            injection e9 with e9 _
            subst e9;exact g2.notBK hb (Ne.symm n2) (Option.mem_toList.1 e)
        refine ⟨hL10, fun W3 hc3 hL3 => ⟨rfl, ⟨⟨_, ?_, hLg3.keepN hc3 hL10.noC.1, ?_⟩, (hLI _ _ _).2 hL3, BK.keepN ((h22.keep0 hcm8).keep hX (other h2 (by decide) (by decide))) hc3 hL10.noC.1, BK.keepN ((h32.keep0 hcm8).keep hX (other h3 (by decide) (by decide))) hc3 hL10.noC.1, BK.keepN ((h42.keep0 hcm8).keep hX (other h4 (by decide) (by decide))) hc3 hL10.noC.1, BK.keepN ((h52.keep0 hcm8).keep hX (other h5 (by decide) (by decide))) hc3 hL10.noC.1, BK.keepN ((hcc2.keep0 hcm8).keep hX (other hc (by decide) (by decide))) hc3 hL10.noC.1, ?_⟩, l :: bl :: v0.ownBlock.toList, ?_, ?_⟩⟩
        · rw [tellG_snoc, hG]
        · rw [totG_snoc, hsz, htot]
        · exact (hch3.drop hgel).step hc3 fun y hy => by rw [List.mem_singleton.1 hy]; exact .inr hll
        · exact ((hX2.ta hcm8).trans (hX.mono fun y hy => List.mem_cons_of_mem _ hy)).trans (hc3.mono fun y hy => by rw [List.mem_singleton.1 hy]; exact List.mem_cons_self ..)
        · intro y hy
          rcases List.mem_cons.1 hy with rfl | hy
          · exact hLl.1
          rcases List.mem_cons.1 hy with rfl | hy
          · exact hbl0
          · exact hv0l y hy
    }
    have hJ0 : RepJ w bl b2 b3 b4 b5 cb bs.length cl al LA [] 0 w1 := ⟨⟨[], rfl, LgM.new (hbl0.keep0 hc1), rfl⟩, hLA, hb2.keep0 hc1, hb3.keep0 hc1, hb4.keep0 hc1, hb5.keep0 hc1, hcb.keep0 hc1, hch.trans hc1⟩;refine (stWalk1_spec l cb cl al bs ea _ _ w1 hW hJ0 hcap hB hlen).mono fun v w2 h2 => ?_;rcases h2 with ⟨R, hwk, hJ⟩ | ⟨R, p, c, _, _, _, _, hf⟩
    rotate_left
    · exact hf.elim
    obtain ⟨⟨G, hG, hLg, htot⟩, hla, hb2, hb3, hb4, hb5, hcb, hch⟩ := hJ;have hL2 := (hLI _ _ _).1 hla;have hN := hL2.noC;refine .inl ⟨hL2, fun w3 hc3 hk3 => ?_⟩;have hLE : RepE w.heap.size bl k G w3 := ⟨hLg.keepN hc3 hN.1, hk3⟩;have hb2 := BK.keepN hb2 hc3 hN.1;have hb3 := BK.keepN hb3 hc3 hN.1;have hb4 := BK.keepN hb4 hc3 hN.1;have hb5 := BK.keepN hb5 hc3 hN.1;have hch := hch.step hc3 (fun y hy => by rw [List.mem_singleton.1 hy]; exact .inr hll);refine kh8 (Sr fun _ kh11 => zl hb5 rfl rfl (zm rfl (zn rfl ?_)));refine WL.storeC rfl rfl o1 hb2 (by simp) rfl fun ws15 hb2_ hcs15 => ?_;(try simp only [Sx.splice, qt] at hb2_);have hch := hch.s1 hcs15;have hb3 := hb3.kq hcs15;have hb4 := hb4.kq hcs15;have hLE := hLE.keepBK hb2 hcs15 an;have hb2 := hb2_;refine WL.storeC rfl rfl o1 hb3 (by simp) rfl fun ws16 hb3_ hcs16 => ?_;(try simp only [Sx.splice, qt] at hb3_);have hch := hch.s1 hcs16;have hb2 := hb2.kq hcs16;have hb4 := hb4.kq hcs16;have hLE := hLE.keepBK hb3 hcs16 an;have hb3 := hb3_;refine WL.storeC rfl rfl o1 hb4 (by simp) rfl fun ws17 hb4_ hcs17 => ?_;(try simp only [Sx.splice, qt] at hb4_);have hch := hch.s1 hcs17;have hb2 := hb2.kq hcs17;have hb3 := hb3.kq hcs17;have hLE := hLE.keepBK hb4 hcs17 an;have hb4 := hb4_;refine zz (kh11 ?_);refine zr ?_;refine bodyM.retM3 k rfl hLE.kd fun w9 hc9 => ⟨_, _, _, RVal.cell rfl ((BK.keepN hb2 hc9 (noC_def hLE.kd)).var1 rfl rfl), RVal.cell rfl ((BK.keepN hb3 hc9 (noC_def hLE.kd)).var1 rfl rfl), RVal.cell rfl ((BK.keepN hb4 hc9 (noC_def hLE.kd)).var1 rfl rfl), ?_⟩;exact ⟨⟨bl, G, rfl, by rw [hG]; exact hwk, hLE.lg.keepN hc9 (noC_def hLE.kd), hgel⟩, hch.step hc9 (fun y hy => by rw [List.mem_singleton.1 hy]; exact .inr hkl)⟩

end

/- Store: Total. No condition. -/
section
open Go Sx Wd Fl

namespace Sx
theorem Ev.neqStr {P : Program} {s : Sl} {w : World} {ty : TypeId} {x y : Operand} {t t' : TypeId} {a b : ByteArray} (hx : opnd s x = some (.string a)) (hy : opnd s y = some (.string b)) : Ev P s (.binOp .neq t x y t') ty w (.bool (decide (a ≠ b))) w := fun ρ d pos af g hρ => by
  have e1 := hρ x _ hx
  have e2 := hρ y _ hy
  have e3 : (!(a.toList == b.toList)) = decide (a ≠ b) := by
    rw [ByteArray.toList_eq, ByteArray.toList_eq]
    by_cases h : a = b
    · subst h; simp
    · have : a.data.toList ≠ b.data.toList := fun q => h (by cases a; cases b; congr 1; exact Array.ext' q)
      rw [decide_eq_true h, beq_eq_false_iff_ne.2 this]; rfl
  simp [execOp, e1, e2, eqGuard, binOp_string_neq, e3]
end Sx
/-- A name's total, record by record: the shard, whether there was one; or why there is none. -/
def totStep (nm : ByteArray) (acc : Except Nat (Sh × Bool)) (g : RG) : Except Nat (Sh × Bool) :=
  match acc with
  | .error e => .error e
  | .ok (S, a) => if g.1 = nm then (match decS g.2.1 with
    | none => .error 210
    | some U => if 1099511627776 < S.s.al + U.s.al then .error 2 else .ok (S.merge U, true)) else .ok (S, a)
def totW (nm : ByteArray) (G : List RG) : Except Nat (Sh × Bool) := G.foldl (totStep nm) (.ok (Sh.zero, false))
theorem totW_take {nm : ByteArray} {G : List RG} {i : Nat} {g : RG} (h : G[i]? = some g) : totW nm (G.take (i + 1)) = totStep nm (totW nm (G.take i)) g := by
  rw [List.take_add_one, h]
  simp [totW]
theorem totErr (nm : ByteArray) (G : List RG) (e : Nat) : G.foldl (totStep nm) (.error e) = .error e := by
  induction G with
  | nil => rfl
  | cons g G ih => exact ih
theorem totW_err {nm : ByteArray} {G : List RG} {i e : Nat} (h : totW nm (G.take i) = .error e) : totW nm G = .error e := by
  conv => lhs; rw [← List.take_append_drop i G]
  unfold totW at h ⊢
  rw [List.foldl_append, h, totErr]
theorem ShM.keepBK {T T' : TypeId} {w w' : World} {b c : Nat} {S : Sh} {cs : List Value} (h : ShM T w b S) (hb : BK w c T' cs) (hc : Chg [c] w w') (hn : ∀ x ∈ cs, isU32 x = false) (hne : T ≠ T' := by decide) : ShM T w' b S := by
  obtain ⟨rv, rq, hbb, h1, h2⟩ := h
  refine ⟨rv, rq, hbb.keep hc (fun e => ?_), h1.keepBK hb hc hn, h2.keepBK hb hc hn⟩
  have e := List.mem_singleton.1 e
  subst e
  have := hbb.symm.trans hb
  simp at this
  exact hne this.2
/-- All kinds together are no more than all. -/
def Sh.cnt (S : Sh) : Prop := S.s.na + S.s.up + S.s.dn + S.s.mi + S.s.pl ≤ S.s.al
theorem cnt_wf {S U : Sh} (hS : S.wf) (hU : U.wf) (hk : S.cnt) (hk2 : U.cnt) (h : S.s.al + U.s.al ≤ 1099511627776) : (S.merge U).wf ∧ (S.merge U).cnt := by
  unfold Sh.cnt at hk hk2
  exact ⟨Sh.merge_wf hS hU ⟨by show S.s.na + U.s.na ≤ _; omega, by show S.s.up + U.s.up ≤ _; omega, by show S.s.dn + U.s.dn ≤ _; omega, by show S.s.mi + U.s.mi ≤ _; omega, by show S.s.pl + U.s.pl ≤ _; omega, by show S.s.al + U.s.al ≤ _; exact h⟩,
    by show S.s.na + U.s.na + (S.s.up + U.s.up) + (S.s.dn + U.s.dn) + (S.s.mi + U.s.mi) + (S.s.pl + U.s.pl) ≤ S.s.al + U.s.al; omega⟩
theorem decS_cnt {bs : List Nat} {S : Sh} (h : decS bs = some S) : S.cnt := by
  unfold decS at h
  split at h
  · cases h
  rename_i hn
  unfold decD decV decE at h
  split at h
  · cases h
  cases h
  have h2 : ¬ ((Sh.mk (spOf (rdK bs 6).1) Dy.zero Dy.zero 0 0).fin < ((spOf (rdK bs 6).1).mi : Int) + (spOf (rdK bs 6).1).pl) := fun q => hn (.inr q)
  unfold Sh.fin at h2
  show (spOf (rdK bs 6).1).na + (spOf (rdK bs 6).1).up + (spOf (rdK bs 6).1).dn + (spOf (rdK bs 6).1).mi + (spOf (rdK bs 6).1).pl ≤ (spOf (rdK bs 6).1).al
  dsimp only at h2
  omega

theorem stTotal_spec (b lo : Nat) (G : List RG) (nm : ByteArray) (w : World) (hL : LgM lo w b G) (hg0 : GW w) : Ret Tryz.prog 44 [.pointer (some ⟨b, 0, none⟩), .string nm] w fun u w' => ((∃ S bt, totW nm G = .ok (S, true) ∧ u = .tuple [.pointer (some ⟨bt, 0, none⟩), .int .i64 0].toArray ∧ ShM 109 w' bt S ∧ S.wf ∧ w.heap.size ≤ bt) ∨ (∃ S, totW nm G = .ok (S, false) ∧ u = .tuple [.pointer none, .int .i64 3].toArray) ∨ (∃ e, totW nm G = .error e ∧ u = .tuple [.pointer none, .int .i64 (e : Int)].toArray)) ∧ Chg [] w w' := by
 obtain ⟨⟨v, hb, hgc⟩, hda, htot⟩ := hL;obtain ⟨av, cv, rfl, hcapv, hrv, -⟩ := hgc.row;have hGl := totG_len G;have hch : Chg [] w w := Chg.refl _ _;refine zE2 Tryz.func44 rfl ?_;refine Sr fun _ kh1 => za rfl (za rfl (zz (kh1 (Sr fun _ kh3 => ?_))));refine WL.call hasF47 rfl rfl (shNew_spec _) fun v w1 h' => ?_;obtain ⟨⟨bt, rfl, hbt, hget⟩, hC⟩ := h';have hch := hch.ta hC;refine za rfl (za rfl (zz (kh3 (zc fun _ kh5 => Sr fun _ kh6 => zm rfl ?_))));refine WL.ev (Ev.nilPtr rfl) rfl ?_;refine zf rfl ?_;refine WL.ev (Ev.load (v := .slice av G.length cv) rfl rfl ((hb.keep0 hch).at_ rfl)) rfl ?_;refine zn rfl (zm rfl (zz (kh6 ?_)));refine CW.block ?_;refine CW.loop (S := fun g : Nat × Sh × Bool => [(0, .pointer (some ⟨b, 0, none⟩)), (1, .string nm), (6, .pointer (some ⟨bt, 0, none⟩)), (7, .bool g.2.2), (16, .slice av G.length cv), (17, .int .i64 (G.length : Int)), (18, .int .i64 (g.1 : Int))]) (Inv := fun g w1 => g.1 ≤ G.length ∧ totW nm (G.take g.1) = .ok (g.2.1, g.2.2) ∧ ShM 109 w1 bt g.2.1 ∧ g.2.1.wf ∧ g.2.1.cnt ∧ Chg [] w w1) (mu := fun g => G.length - g.1) ((0, Sh.zero, false)) ?_ ?_ ?_
 ·exact ⟨Nat.zero_le _, rfl, hbt, Sh.wf.zero, Nat.le_refl _, hch⟩
 ·exact SLp
 ·rintro ⟨i, S, any⟩ wr ⟨hi, htw, hbt, hwf, hcn, hch⟩;dsimp only at hi htw hbt hwf hcn;dsimp only;have hget : w.heap.size ≤ bt := hget;refine Sr fun _ kh8 => ?_;refine WL.ev (Ev.lss rfl rfl) rfl ?_;refine zz (kh8 (zc fun _ kh10 => ?_));refine zy rfl ?_ ?_<;>intro hc1<;>try simp only [qs] at hc1
  ·obtain ⟨⟨nm1, data, dv⟩, hg⟩ : ∃ g, G[i]? = some g := ⟨_, List.getElem?_eq_getElem (by omega : i < G.length)⟩
   have hm := List.mem_of_getElem? hg;obtain ⟨q, rfl, -⟩ := hgc.at2 hg;obtain ⟨q2, e2, hcell⟩ := (hgc.keep0 hch).at2 hg;cases e2;obtain ⟨hd1, hB⟩ := hda _ hm;dsimp only at hd1 hB;obtain ⟨ad, cd, rfl, hcapd, hrd⟩ := hd1.row;have hs2 := szG_le hm;unfold szG at hs2;dsimp only at hs2;have hstep := totW_take (nm := nm) hg;rw [htw] at hstep;refine zkk ?_;refine kh10 (zc fun _ kh11 => ?_);refine CW.block ?_;refine Sr fun _ kh12 => ?_;refine WL.ev (Ev.indexAddr rfl rfl (by omega) (by omega)) rfl ?_;refine WL.ev (Ev.loadAgg (cs := [.string nm1, .slice ad data.length cd]) rfl rfl rfl hcell) rfl ?_;refine WL.allocB (l := [.string ⟨#[]⟩, .slice none 0 0]) rfl rfl fun b9 wm9 hb9 hcm9 hge9 => ?_;have hgehch9 := Nat.le_trans hch.size hge9;have hch := hch.ta hcm9;have hbt := hbt.keep0 hcm9;refine zss rfl rfl ao hb9 rfl fun ws18 hb9_ hcs18 => ?_;(try simp only [Sx.splice, qt] at hb9_);have hch := hch.s1 hcs18;have hbt := hbt.keepBK hb9 hcs18 an;have hb9 := hb9_;refine zz (kh12 (zc fun _ kh14 => Sr fun _ kh15 => zf rfl (zl hb9 rfl rfl (zm rfl ?_))));refine WL.ev (Ev.neqStr rfl rfl) rfl ?_;refine zz (kh15 ?_);refine zy rfl ?_ ?_<;>intro hc2<;>try simp only [qs] at hc2
   ·have hne : ¬ nm1 = nm := by simpa using hc2
    have hstep2 : totStep nm (.ok (S, any)) (nm1, data, Value.slice ad data.length cd) = .ok (S, any) := if_neg hne;refine CW.exit ?_;refine kh11 ?_;refine zR fun _ kr17 => ?_;(first | refine zi rfl rfl ?_ | refine zo rfl rfl ?_);refine zm rfl ?_;refine WL.nil (kr17 _ _ _ ?_);refine ⟨rfl, (i + 1, S, any), ?_, ?_, ?_⟩
    ·exact SLp
    ·exact ⟨by dsimp only; omega, by rw [hstep]; exact hstep2, hbt, hwf, hcn, hch⟩
    ·show G.length - (i + 1) < G.length - i; omega
   ·have heq : nm1 = nm := by simpa using hc2
    refine zkk ?_;refine kh14 (Sr fun _ kh18 => za rfl (zz (kh18 (Sr fun _ kh20 => zf rfl (zl hb9 rfl rfl ?_)))));refine WL.call hasF26 rfl rfl (Decode_spec21 ad data cd _ (hrd.keep0 hch) hcapd (fun a9 e => by subst e; exact Nat.lt_of_lt_of_le (hd1.lt rfl) hch.size) hB (by omega) (hg0.keep hch (fun b hb => by cases hb))) fun v w2 h' => ?_;obtain ⟨hu, hC⟩ := h';have hbt0 := hbt;have hch := hch.ta hC;have hbt := hbt.keep0 hC;obtain ⟨U, bu, hdec, rfl, hbu, hgeu, hwU⟩ | ⟨hdec, rfl⟩ := hu
    ·refine zm rfl (zx rfl rfl (zx rfl rfl (za rfl (za rfl (zz (kh20 (zc fun _ kh22 => Sr fun _ kh23 => zm rfl (zq rfl rfl (zz (kh23 ?_))))))))));refine CW.condT rfl ?_;refine zR fun _ kr25 => ?_;refine zm rfl (zm rfl ?_);refine WL.call hasF25 rfl rfl (shMerge_spec bt bu S U _ hbt hwf hbu hwU (by have := hbt0.lt; omega) (hg0.keep hch (fun b hb => by cases hb))) fun v w3 h' => ?_;rcases h' with ⟨hbig, rfl, hbt, hC⟩ | ⟨hfit, rfl, hbt, hC⟩
     ·have hch := hch.step hC (fun y hy => by rw [List.mem_singleton.1 hy]; exact .inr hget);refine za rfl ?_;refine WL.nil (kr25 _ _ _ (kh22 ?_));refine Sr fun _ kh26 => zm rfl ?_;refine WL.ev (Ev.neq rfl rfl) rfl ?_;refine zz (kh26 ?_);refine CW.condT rfl ?_;refine Sr fun _ kh28 => zm rfl (za rfl (za rfl (zz (kh28 ?_))));refine zr (zr2 rfl rfl rfl ?_);have herr : totW nm (G.take (i + 1)) = .error 2 := by
       rw [hstep]; unfold totStep; dsimp only; rw [if_pos heq, hdec]; dsimp only; rw [if_pos hbig]
      exact ⟨.inr (.inr ⟨2, totW_err herr, rfl⟩), hch⟩
     ·have hch := hch.step hC (fun y hy => by rw [List.mem_singleton.1 hy]; exact .inr hget);have hcU := decS_cnt hdec;have hwc := cnt_wf hwf hwU hcn hcU hfit;have hstep2 : totStep nm (.ok (S, any)) (nm1, data, Value.slice ad data.length cd) = .ok (S.merge U, true) := by
       unfold totStep; dsimp only; rw [if_pos heq, hdec]; dsimp only; rw [if_neg (by omega)]
      refine za rfl ?_;refine WL.nil (kr25 _ _ _ (kh22 ?_));refine Sr fun _ kh30 => zm rfl ?_;refine WL.ev (Ev.neq rfl rfl) rfl ?_;refine zz (kh30 ?_);refine CW.condF rfl ?_;refine zkk ?_;refine kh11 ?_;refine zR fun _ kr32 => ?_;(first | refine zi rfl rfl ?_ | refine zo rfl rfl ?_);refine zm rfl ?_;refine WL.nil (kr32 _ _ _ ?_);refine ⟨rfl, (i + 1, S.merge U, true), ?_, ?_, ?_⟩
      ·exact SLp
      ·exact ⟨by dsimp only; omega, by rw [hstep]; exact hstep2, hbt, hwc.1, hwc.2, hch⟩
      ·show G.length - (i + 1) < G.length - i; omega
    ·refine zm rfl (zx rfl rfl (zx rfl rfl (za rfl (za rfl (zz (kh20 (zc fun _ kh33 => Sr fun _ kh34 => zm rfl (zq rfl rfl (zz (kh34 ?_))))))))));refine CW.condF rfl ?_;refine zkk ?_;refine kh33 (Sr fun _ kh36 => zm rfl ?_);refine WL.ev (Ev.neq rfl rfl) rfl ?_;refine zz (kh36 ?_);refine CW.condT rfl ?_;refine Sr fun _ kh38 => zm rfl (za rfl (za rfl (zz (kh38 ?_))));refine zr (zr2 rfl rfl rfl ?_);have herr : totW nm (G.take (i + 1)) = .error 210 := by
      rw [hstep]; unfold totStep; dsimp only; rw [if_pos heq, hdec]
     exact ⟨.inr (.inr ⟨210, totW_err herr, rfl⟩), hch⟩
  ·have hiX : i = G.length := by omega
   subst hiX;rw [List.take_length] at htw;refine CW.exit ?_;refine kh5 (zc fun _ kh40 => Sr fun _ kh41 => zm rfl ?_);refine WL.ev (Ev.not rfl) rfl ?_;refine zz (kh41 ?_);refine zy rfl ?_ ?_<;>intro hc3<;>try simp only [qs] at hc3
   ·have hany : any = false := by simpa using hc3
    subst hany;refine Sr fun _ kh43 => za rfl (za rfl (zz (kh43 ?_)));refine zr (zr2 rfl rfl rfl ?_);exact ⟨.inr (.inl ⟨S, htw, rfl⟩), hch⟩
   ·have hany : any = true := by simpa using hc3
    subst hany;refine zkk ?_;refine kh40 (Sr fun _ kh45 => zm rfl (za rfl (za rfl (zz (kh45 ?_)))));refine zr (zr2 rfl rfl rfl ?_);exact ⟨.inl ⟨S, bt, htw, rfl, hbt, hwf, hget⟩, hch⟩

end

/- Store: Records. No condition. -/
section
open Go Sx Wd Fl

namespace Sx
section
variable {P : Program} {ops : Array Oper} {K : KK} {fuel : Nat} {listed : Array Bool} {n : Nat} {D : List Deferred} {s : Sl} {w : World} {ty : TypeId} {pos : String} {af : Array Edge} {d : Nat} {x y : Operand}
end
end Sx
end

/- Store: the empty log's Names. No condition. -/
section
open Go Sx Wd Fl

end

end Go.Proofs.YtnbipejaidbihaaGreatDoor