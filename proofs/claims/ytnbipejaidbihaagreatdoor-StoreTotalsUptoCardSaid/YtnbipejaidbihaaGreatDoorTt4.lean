/- Part 4 of what the proof rests on. No condition. -/
import Derived.Test.YtnbipejaidbihaaGreatDoorTt3
import Derived.Laws.StructEq
import Derived.ArgAppend
import Derived.Lib.AppendStr
import Derived.Laws.BytesString
set_option linter.unusedVariables false
set_option linter.unusedSimpArgs false
set_option maxRecDepth 100000
set_option maxHeartbeats 4000000
namespace Go.Proofs.YtnbipejaidbihaaGreatDoor
/- Package dyad: size, Cmp. No condition. -/
section
open Go Sx Wd Fl

theorem bl_W {l : List Nat} {k : Nat} (h : W l) (hk : l.length ≤ k) : bl (val l) ≤ 32 * k :=
  bl_le.2 (Nat.lt_of_lt_of_le (val_lt h) (Nat.pow_le_pow_right (by decide) (by omega)))
theorem wrap_sub {a b : Int} {d : Nat} (h : (d : Int) = a - b) (hd : d < 18446744073709551616) : IntKind.u64.wrap (IntKind.u64.wrap a - IntKind.u64.wrap b) = (d : Int) := by
  simp only [IntKind.wrap_u64]
  omega

theorem sizeGe_spec (na nb : Bool) (va vb : Value) (la lb : List Nat) (ea eb : Int) (w : World) (ha : NU w va la) (hb : NU w vb lb) (hla : la.length ≤ 1000000) (hlb : lb.length ≤ 1000000) (hea : -1000000000000 ≤ ea ∧ ea ≤ 1000000000000) (heb : -1000000000000 ≤ eb ∧ eb ≤ 1000000000000) (hz : val la ≠ 0) (hge : eb ≤ ea) (d : Nat) (hd : (d : Int) = ea - eb) : Ret Tryz.prog 265 [.agg [.bool na, va, .int .i64 ea].toArray, .agg [.bool nb, vb, .int .i64 eb].toArray] w fun u w' => u = .int .i64 (sgn (val la * 2 ^ d) (val lb)) ∧ Chg [] w w' := by
 have ha0 := ha;have hb0 := hb;have hoa := ha.one;have hob := hb.one;have hch : Chg [] w w := Chg.refl _ _;have hba := bl_W ha.hw hla;have hbb := bl_W hb.hw hlb;have hlw := wd_length_val_le ha.hw;refine zE2 Tryz.func265 rfl ?_;refine Sr fun _ kh1 => ?_;refine zBh rfl rfl rfl hch fun b2 wm2 hb2 hcm2 hge2 hgehch2 hch => ?_;refine zBh rfl rfl rfl hch fun b3 wm3 hb3 hcm3 hge3 hgehch3 hch => ?_;have hneb23 := zdd hb2.lt hge3;have hb2 := hb2.k0 hcm3;refine za rfl (zz (kh1 (zc fun _ kh3 => Sr fun _ kh4 => zf rfl (zl hb2 rfl rfl (zf rfl (zl hb3 rfl rfl ?_))))));refine WL.ev (Ev.lss rfl rfl) rfl ?_;rw [decide_eq_false (show ¬ ea < eb by omega)];refine zz (kh4 ?_);refine CW.condF rfl ?_;refine zkk ?_;refine kh3 (Sr fun _ kh6 => zf rfl (zl hb2 rfl rfl ?_));refine WL.ev (Ev.conv rfl rfl) rfl ?_;refine zf rfl (zl hb3 rfl rfl ?_);refine WL.ev (Ev.conv rfl rfl) rfl ?_;refine WL.ev (Ev.sub rfl rfl) rfl ?_;rw [wrap_sub hd (by omega)];refine za rfl (zz (kh6 (zc fun _ kh8 => ?_)));refine CW.regionHC 10 rfl hmix fun kR9 kr9 hS hdr => ?_;have hch := hch.ta hdr;have hb2 := hb2.k0 hdr;have hb3 := hb3.k0 hdr;have hb2_r := hb2;have hb3_r := hb3;refine wh 0 rfl hS (fun _ _ => Ev.fieldAddr rfl) (wh 1 rfl hS (fun _ hw' => Ev.load rfl rfl ((hb2_r.keep0 hw').at_ rfl)) (wh 4 rfl hS (fun _ _ => Ev.fieldAddr rfl) (wh 5 rfl hS (fun _ hw' => Ev.load rfl rfl ((hb3_r.keep0 hw').at_ rfl)) ?_)));refine WH.oneCall 2 rfl (by kernel_rfl) hasF184 rfl rfl (Len_spec _ la _ (ha0.keep0 hch)) fun v w1 h' => ?_;obtain ⟨rfl, rfl⟩ := h';refine ⟨hS, ?_⟩;refine wh 3 rfl hS (fun _ _ => Ev.convIn rfl rfl (in_u64 (by omega))) ?_;refine WH.oneCall 6 rfl (by kernel_rfl) hasF184 rfl rfl (Len_spec _ lb _ (hb0.keep0 hch)) fun v w2 h' => ?_;obtain ⟨rfl, rfl⟩ := h';refine ⟨hS, ?_⟩;refine wh 7 rfl hS (fun _ _ => Ev.convIn rfl rfl (in_u64 (by omega))) (wh 8 rfl hS (fun _ _ => Ev.assign rfl) (wh 9 rfl hS (fun _ _ => Ev.assign rfl) ?_));refine WH.done (by kernel_rfl) (kr9 _ _ _ ?_);refine kh8 (zc fun _ kh10 => ?_);refine CW.block ?_;refine CW.seqM 32 (decide (bl (val lb) < bl (val la) + d)) ?_ ?_
 ·refine zR fun _ kr11 => ?_;refine zm rfl (zm rfl ?_);refine WL.ev (Ev.gtr rfl rfl) rfl ?_;refine zm rfl ?_;refine zb ?_ ?_<;>intro hg1<;>try simp only [qs] at hg1
  ·refine zv rfl (zv rfl (zv rfl (zv rfl (zv rfl (zt rfl rfl (za rfl ?_))))));refine WL.nil (kr11 _ _ _ ?_);refine ⟨rfl, rfl, Subs.consB rfl ?_ ?_⟩
   ·first | (simp; omega) | (simp_all; done) | (refine decide_eq_decide.2 ?_; omega)
   ·exact SMg
  ·refine zw rfl (zm rfl (zw rfl (zm rfl (zw rfl ?_))))
   first | refine WL.ev (Ev.add64In rfl rfl (by omega)) rfl ?_ | refine WL.ev (Ev.add64 rfl rfl) rfl ?_
   refine zw rfl (zm rfl (zw rfl ?_));refine WL.ev (Ev.gtr rfl rfl) rfl ?_;refine ze rfl rfl (za rfl ?_);refine WL.nil (kr11 _ _ _ ?_);refine ⟨rfl, rfl, Subs.consB rfl ?_ ?_⟩
   ·first | (simp; omega) | (simp_all; done) | (refine decide_eq_decide.2 ?_; omega)
   ·exact SMg
 ·refine zy rfl ?_ ?_<;>intro hc2<;>try simp only [qs] at hc2
  ·have hq : bl (val lb) < bl (val la) + d := hc2
   refine Sr fun _ kh12 => za rfl (zz (kh12 ?_));refine zr (zr1 rfl rfl ?_);refine ⟨?_, hch⟩;rw [bl_sgn.2 (by rw [bl_mul_pow hz]; exact hq)]
  ·have hq : ¬ bl (val lb) < bl (val la) + d := hc2
   refine Sr fun _ kh14 => zm rfl (zm rfl ?_)
   first | refine WL.ev (Ev.add64In rfl rfl (by omega)) rfl ?_ | refine WL.ev (Ev.add64 rfl rfl) rfl ?_
   refine zm rfl ?_;refine WL.ev (Ev.lss rfl rfl) rfl ?_;refine za rfl (zz (kh14 ?_));refine zy rfl ?_ ?_<;>intro hc3<;>try simp only [qs] at hc3
   ·have hq2 : bl (val la) + d < bl (val lb) := by have := hc3; omega
    refine Sr fun _ kh16 => za rfl (zz (kh16 ?_));refine zr (zr1 rfl rfl ?_);refine ⟨?_, hch⟩;rw [bl_sgn.1 (by rw [bl_mul_pow hz]; exact hq2)]
   ·refine zkk ?_
    refine kh10 (zc fun _ kh18 => ?_);refine CW.regionHC 10 rfl hmix fun kR19 kr19 hS hdr => ?_;have hch := hch.ta hdr;have hb2 := hb2.k0 hdr;have hb3 := hb3.k0 hdr;have hb2_r := hb2;have hb3_r := hb3;refine wh 0 rfl hS (fun _ _ => Ev.fieldAddr rfl) (wh 1 rfl hS (fun _ hw' => Ev.load rfl rfl ((hb2_r.keep0 hw').at_ rfl)) (wh 3 rfl hS (fun _ _ => Ev.move rfl) (wh 4 rfl hS (fun _ _ => Ev.convIn rfl rfl (in_i64 (by omega))) (wh 6 rfl hS (fun _ _ => Ev.fieldAddr rfl) (wh 7 rfl hS (fun _ hw' => Ev.load rfl rfl ((hb3_r.keep0 hw').at_ rfl)) ?_)))));refine WH.oneCall 2 rfl (by kernel_rfl) hasF256 rfl rfl (Norm_spec _ la _ (ha0.keep0 hch)) fun v w3 h' => ?_;obtain ⟨hN, hC⟩ := h';have hch := hch.ta hC;have hS := hS.trans hC;refine ⟨hS, ?_⟩;refine WH.oneCall 5 rfl (by kernel_rfl) hasF314 rfl rfl (higher_spec _ (wd (val la)) d _ _ _ hN (by omega) (by omega) rfl rfl) fun v w4 h' => ?_;obtain ⟨L, hL, hvL, hC⟩ := h';have hch := hch.ta hC;have hS := hS.trans hC;refine ⟨hS, ?_⟩;refine WH.oneCall 8 rfl (by kernel_rfl) hasF175 rfl rfl (Cmp_spec _ _ L lb _ hL (hb0.keep0 hch)) fun v w5 h' => ?_;obtain ⟨rfl, hC⟩ := h';have hch := hch.ta hC;have hS := hS.trans hC;refine ⟨hS, ?_⟩;refine wh 9 rfl hS (fun _ _ => Ev.assign rfl) ?_;refine WH.done (by kernel_rfl) (kr19 _ _ _ ?_);refine kh18 ?_;refine zr (zr1 rfl rfl ?_);refine ⟨?_, hch⟩;rw [hvL, val_wd]

theorem sizeLt_spec (na nb : Bool) (va vb : Value) (la lb : List Nat) (ea eb : Int) (w : World) (ha : NU w va la) (hb : NU w vb lb) (hla : la.length ≤ 1000000) (hlb : lb.length ≤ 1000000) (hea : -1000000000000 ≤ ea ∧ ea ≤ 1000000000000) (heb : -1000000000000 ≤ eb ∧ eb ≤ 1000000000000) (hza : val la ≠ 0) (hzb : val lb ≠ 0) (hlt : ea < eb) : Ret Tryz.prog 265 [.agg [.bool na, va, .int .i64 ea].toArray, .agg [.bool nb, vb, .int .i64 eb].toArray] w fun u w' => u = .int .i64 (cmpV (val la) ea (val lb) eb) ∧ Chg [] w w' := by
 have ha0 := ha;have hb0 := hb;have hoa := ha.one;have hob := hb.one;have hch : Chg [] w w := Chg.refl _ _;obtain ⟨d, hd⟩ : ∃ d : Nat, (d : Int) = eb - ea := ⟨(eb - ea).toNat, by omega⟩;refine zE2 Tryz.func265 rfl ?_;refine Sr fun _ kh1 => ?_;refine zBh rfl rfl rfl hch fun b2 wm2 hb2 hcm2 hge2 hgehch2 hch => ?_;refine zBh rfl rfl rfl hch fun b3 wm3 hb3 hcm3 hge3 hgehch3 hch => ?_;have hneb23 := zdd hb2.lt hge3;have hb2 := hb2.k0 hcm3;refine za rfl (zz (kh1 (zc fun _ kh3 => Sr fun _ kh4 => zf rfl (zl hb2 rfl rfl (zf rfl (zl hb3 rfl rfl ?_))))));refine WL.ev (Ev.lss rfl rfl) rfl ?_;rw [decide_eq_true hlt];refine zz (kh4 ?_);refine CW.condT rfl ?_;refine Sr fun _ kh6 => zg hb3 rfl (zg hb2 rfl ?_);refine WL.call hasF265 rfl rfl (sizeGe_spec nb na _ _ lb la eb ea _ (hb0.keep0 hch) (ha0.keep0 hch) hlb hla heb hea hzb (by omega) d hd) fun v w1 h' => ?_;obtain ⟨rfl, hC⟩ := h';have hsg := sgn_swap (val lb * 2 ^ d) (val la);have hs1 : -1 ≤ sgn (val lb * 2 ^ d) (val la) ∧ sgn (val lb * 2 ^ d) (val la) ≤ 1 := by unfold sgn; split <;> (try split) <;> omega
 have hch := hch.ta hC;refine WL.ev (Ev.negIn rfl (by omega)) rfl ?_;refine za rfl (zz (kh6 ?_));refine zr (zr1 rfl rfl ?_);refine ⟨?_, hch⟩;rw [hsg];unfold cmpV;rw [show (ea - min ea eb).toNat = 0 by omega, show (eb - min ea eb).toNat = d by omega, Nat.pow_zero, Nat.mul_one]

theorem dsize_spec (na nb : Bool) (va vb : Value) (la lb : List Nat) (ea eb : Int) (w : World) (ha : NU w va la) (hb : NU w vb lb) (hla : la.length ≤ 1000000) (hlb : lb.length ≤ 1000000) (hea : -1000000000000 ≤ ea ∧ ea ≤ 1000000000000) (heb : -1000000000000 ≤ eb ∧ eb ≤ 1000000000000) (hza : val la ≠ 0) (hzb : val lb ≠ 0) : Ret Tryz.prog 265 [.agg [.bool na, va, .int .i64 ea].toArray, .agg [.bool nb, vb, .int .i64 eb].toArray] w fun u w' => u = .int .i64 (cmpV (val la) ea (val lb) eb) ∧ Chg [] w w' := by
  by_cases h : ea < eb
  · exact sizeLt_spec na nb va vb la lb ea eb w ha hb hla hlb hea heb hza hzb h
  · obtain ⟨d, hd⟩ : ∃ d : Nat, (d : Int) = ea - eb := ⟨(ea - eb).toNat, by omega⟩
    refine (sizeGe_spec na nb va vb la lb ea eb w ha hb hla hlb hea heb hza (by omega) d hd).mono fun u w' ⟨h1, h2⟩ => ⟨?_, h2⟩;rw [h1];unfold cmpV;rw [show (ea - min ea eb).toNat = d by omega, show (eb - min ea eb).toNat = 0 by omega, Nat.pow_zero, Nat.mul_one]

theorem sgD_range (neg : Bool) (n : Nat) : -1 ≤ sgD neg n ∧ sgD neg n ≤ 1 := by unfold sgD; split <;> (try split) <;> omega
theorem cmpV_range (m : Nat) (e : Int) (n : Nat) (f : Int) : -1 ≤ cmpV m e n f ∧ cmpV m e n f ≤ 1 := by unfold cmpV sgn; split <;> (try split) <;> omega
theorem mul_small {a b : Int} (ha : -1 ≤ a ∧ a ≤ 1) (hb : -1 ≤ b ∧ b ≤ 1) : -9223372036854775808 ≤ a * b ∧ a * b ≤ 9223372036854775807 := by
  rcases (by omega : a = -1 ∨ a = 0 ∨ a = 1) with rfl | rfl | rfl <;> rcases (by omega : b = -1 ∨ b = 0 ∨ b = 1) with rfl | rfl | rfl <;> decide

theorem dCmp_spec (na nb : Bool) (va vb : Value) (la lb : List Nat) (ea eb : Int) (w : World) (ha : NU w va la) (hb : NU w vb lb) (hla : la.length ≤ 1000000) (hlb : lb.length ≤ 1000000) (hea : -1000000000000 ≤ ea ∧ ea ≤ 1000000000000) (heb : -1000000000000 ≤ eb ∧ eb ≤ 1000000000000) : Ret Tryz.prog 180 [.agg [.bool na, va, .int .i64 ea].toArray, .agg [.bool nb, vb, .int .i64 eb].toArray] w fun u w' => u = .int .i64 (cmpD na (val la) ea nb (val lb) eb) ∧ Chg [] w w' := by
 have ha0 := ha;have hb0 := hb;have hoa := ha.one;have hob := hb.one;have hch : Chg [] w w := Chg.refl _ _;have hr1 := sgD_range na (val la);have hr2 := sgD_range nb (val lb);refine zE2 Tryz.func180 rfl ?_;refine Sr fun _ kh1 => ?_;refine zBh rfl rfl rfl hch fun b2 wm2 hb2 hcm2 hge2 hgehch2 hch => ?_;refine zBh rfl rfl rfl hch fun b3 wm3 hb3 hcm3 hge3 hgehch3 hch => ?_;have hneb23 := zdd hb2.lt hge3;have hb2 := hb2.k0 hcm3;refine za rfl (zz (kh1 (zc fun _ kh3 => ?_)));refine CW.regionHC 6 rfl hmix fun kR4 kr4 hS hdr => ?_;have hch := hch.ta hdr;have hb2 := hb2.k0 hdr;have hb3 := hb3.k0 hdr;have hb2_r := hb2;have hb3_r := hb3;refine wh 0 rfl hS (fun _ hw' => Ev.loadA rfl rfl (hb2_r.keep0 hw') rfl) (wh 2 rfl hS (fun _ hw' => Ev.loadA rfl rfl (hb3_r.keep0 hw') rfl) ?_);refine WH.oneCall 1 rfl (by kernel_rfl) hasF93 rfl rfl (Sign_dspec na _ la ea _ (ha0.keep0 hch)) fun v w1 h' => ?_;obtain ⟨rfl, hC⟩ := h';have hch := hch.ta hC;have hb2 := hb2.k0 hC;have hb3 := hb3.k0 hC;have hS := hS.trans hC;refine ⟨hS, ?_⟩;refine WH.oneCall 3 rfl (by kernel_rfl) hasF93 rfl rfl (Sign_dspec nb _ lb eb _ (hb0.keep0 hch)) fun v w2 h' => ?_;obtain ⟨rfl, hC⟩ := h';have hch := hch.ta hC;have hb2 := hb2.k0 hC;have hb3 := hb3.k0 hC;have hS := hS.trans hC;refine ⟨hS, ?_⟩;refine wh 4 rfl hS (fun _ _ => Ev.assign rfl) (wh 5 rfl hS (fun _ _ => Ev.assign rfl) ?_);refine WH.done (by kernel_rfl) (kr4 _ _ _ ?_);refine kh3 (zc fun _ kh5 => ?_);refine CW.block ?_;refine Sr fun _ kh6 => zm rfl (zm rfl ?_);refine WL.ev (Ev.lss rfl rfl) rfl ?_;refine za rfl (zz (kh6 ?_));refine zy rfl ?_ ?_<;>intro hc1<;>try simp only [qs] at hc1
 ·have hq : (sgD na (val la)) < (sgD nb (val lb)) := hc1
  refine Sr fun _ kh8 => za rfl (zz (kh8 ?_));refine zr (zr1 rfl rfl ?_);refine ⟨?_, hch⟩;unfold cmpD; rw [if_pos hq]
 ·have hq : ¬ (sgD na (val la)) < (sgD nb (val lb)) := by have := hc1; omega
  refine Sr fun _ kh10 => zm rfl (zm rfl ?_);refine WL.ev (Ev.gtr rfl rfl) rfl ?_;refine za rfl (zz (kh10 ?_));refine zy rfl ?_ ?_<;>intro hc2<;>try simp only [qs] at hc2
  ·have hq2 : (sgD nb (val lb)) < (sgD na (val la)) := hc2
   refine Sr fun _ kh12 => za rfl (zz (kh12 ?_));refine zr (zr1 rfl rfl ?_);refine ⟨?_, hch⟩;unfold cmpD; rw [if_neg hq, if_pos hq2]
  ·have hq2 : ¬ (sgD nb (val lb)) < (sgD na (val la)) := by have := hc2; omega
   refine Sr fun _ kh14 => zm rfl (zq rfl rfl (za rfl (zz (kh14 ?_))));refine zy rfl ?_ ?_<;>intro hc3<;>try simp only [qs] at hc3
   ·have hq3 : (sgD na (val la)) = 0 := hc3
    refine Sr fun _ kh16 => za rfl (zz (kh16 ?_));refine zr (zr1 rfl rfl ?_);refine ⟨?_, hch⟩;unfold cmpD; rw [if_neg hq, if_neg hq2, if_pos hq3]
   ·have hq3 : ¬ (sgD na (val la)) = 0 := hc3
    have hza : val la ≠ 0 := fun q => hq3 (sgD_zero.2 q);have hzb : val lb ≠ 0 := fun q => by have := sgD_zero (neg := nb).2 q; omega
    refine zkk ?_;refine kh5 (Sr fun _ kh18 => zm rfl (zg hb2 rfl (zg hb3 rfl ?_)));refine WL.call hasF265 rfl rfl (dsize_spec na nb _ _ la lb ea eb _ (ha0.keep0 hch) (hb0.keep0 hch) hla hlb hea heb hza hzb) fun v w3 h' => ?_;obtain ⟨rfl, hC⟩ := h';have hcv := cmpV_range (val la) ea (val lb) eb;have hch := hch.ta hC;refine WL.ev (Ev.mulIn rfl rfl (mul_small hr1 hcv)) rfl ?_;refine za rfl (zz (kh18 ?_));refine zr (zr1 rfl rfl ?_);refine ⟨?_, hch⟩;unfold cmpD; rw [if_neg hq, if_neg hq2, if_neg hq3]

end

/- Maps keyed by whole numbers, in the engine. No condition. -/
namespace Sx
open Go

structure ME where
  key : Int
  val : Value
  born : Nat
def meV (kk : IntKind) (e : ME) : MapEntry := ⟨.int kk e.key, e.val, e.born⟩
def mapO (kk : IntKind) (es : List ME) (c : Nat) : Obj := .map (es.map (meV kk)).toArray c
section
variable {P : Program} {t key elem : TypeId} {kk : IntKind} {w : World} {sk bk : Nat} {zk : Value}
end

section
variable {P : Program} {n : Nat} {D : List Deferred} {s : Sl} {w : World} {ty : TypeId} {x y z : Operand} {ops : Array Oper} {K : KK} {rest : List Oper} {pos : String} {af : Array Edge} {d : Nat}
variable {t key elem : TypeId} {kk : IntKind} {sz by_ sk bk se be : Nat} {zt zk ze : Value} {de : TypeDesc} {r c : Nat} {es : List ME} {k : Int}
/-! A range over a map -/
end
end Sx

/- The walks of the small functions on numbers' bits. No condition. -/
section
open Go Sx Fl

theorem andNot_top (b : Nat) (h : 9223372036854775808 ≤ b) (hb : b < 18446744073709551616) : bits2 .andNot .u64 (b : Int) 9223372036854775808 = (b : Int) - 9223372036854775808 := by
  have e : (BitVec.ofInt 64 (b : Int) &&& ~~~BitVec.ofInt 64 9223372036854775808).toNat = b - 9223372036854775808 := by
    rw [BitVec.toNat_and, BitVec.toNat_not]
    have h1 : (BitVec.ofInt 64 (b : Int)).toNat = b := by simp [BitVec.toNat_ofInt]; omega
    have h2 : (BitVec.ofInt 64 9223372036854775808).toNat = 9223372036854775808 := by decide
    rw [h1, h2]
    have h3 : b &&& (2 ^ 64 - 1 - 9223372036854775808) = b % 2 ^ 63 := by
      rw [← Nat.and_two_pow_sub_one_eq_mod]
    rw [h3]
    omega
  show IntKind.u64.wrap ((BitVec.ofInt 64 (b : Int) &&& ~~~BitVec.ofInt 64 9223372036854775808).toNat : Int) = _
  rw [e, IntWalk.u64_in _ (by omega)]
  omega
theorem compl_i64 (n : Int) (h0 : 0 ≤ n) (h1 : n ≤ 9223372036854775807) : bits2 .xor .i64 (-1) n = -1 - n := by
  have e : (BitVec.ofInt 64 (-1) ^^^ BitVec.ofInt 64 n).toNat = 18446744073709551615 - n.toNat := by
    have ha : BitVec.ofInt 64 (-1) = BitVec.allOnes 64 := by decide
    rw [ha, BitVec.allOnes_xor, BitVec.toNat_not]
    have h2 : (BitVec.ofInt 64 n).toNat = n.toNat := by simp [BitVec.toNat_ofInt]; omega
    rw [h2]
  show IntKind.i64.wrap ((BitVec.ofInt 64 (-1) ^^^ BitVec.ofInt 64 n).toNat : Int) = _
  rw [e, IntKind.wrap_i64]
  omega
theorem shr63 (b : Nat) (hb : b < 18446744073709551616) : (b : Int).fdiv (2 ^ (min (63 : Int).toNat IntKind.u64.bits)) = if 9223372036854775808 ≤ b then 1 else 0 := by
  show (b : Int).fdiv 9223372036854775808 = _
  rw [Int.fdiv_eq_ediv_of_nonneg _ (by omega)]
  split <;> omega
theorem key_neg (b : Nat) (hb : b < 18446744073709551616) (h1 : isNaN b = false) (h2 : (b : Int).fdiv (2 ^ (min (63 : Int).toNat IntKind.u64.bits)) = 1) :
    bits2 .xor .i64 (if IntKind.i64.signed then -1 else IntKind.i64.max) (IntKind.i64.wrap (bits2 .andNot .u64 (b : Int) 9223372036854775808)) = key b := by
  rw [shr63 b hb] at h2
  have h3 : 9223372036854775808 ≤ b := by
    by_cases h : 9223372036854775808 ≤ b
    · exact h
    · rw [if_neg h] at h2; cases h2
  rw [key_neg_eq h1 h3, andNot_top b h3 hb, wrap_i64 (by omega)]
  exact compl_i64 _ (by omega) (by omega)
theorem key_pos (b : Nat) (hb : b < 18446744073709551616) (h1 : isNaN b = false) (h2 : ¬ (b : Int).fdiv (2 ^ (min (63 : Int).toNat IntKind.u64.bits)) = 1) : IntKind.i64.wrap (b : Int) = key b := by
  rw [shr63 b hb] at h2
  have h3 : b < 9223372036854775808 := by
    by_cases h : 9223372036854775808 ≤ b
    · rw [if_pos h] at h2; exact absurd rfl h2
    · omega
  rw [key_pos_eq h1 h3, wrap_i64 (by omega)]
theorem math_IsNaN_spec (b : Nat) (w : World) : Ret Tryz.prog 124 [.float .f64 b] w fun v w' => v = .bool (isNaN b) ∧ w = w' := by
 refine Ret.enter Tryz.func124 rfl rfl ?_;refine Sr fun _ kh1 => za rfl (zz (kh1 (Sr fun _ kh3 => zm rfl (zm rfl ?_))));refine WL.ev (Ev.fneq rfl rfl) rfl ?_;refine za rfl (zz (kh3 ?_));refine zr (zr1 rfl rfl ?_);exact ⟨by rw [order_self], rfl⟩

theorem bits_key_spec (b : Nat) (hb : b < 18446744073709551616) (w : World) : Ret Tryz.prog 170 [.float .f64 b] w fun v w' => v = .int .i64 (key b) ∧ w = w' := by
 refine Ret.enter Tryz.func170 rfl rfl ?_;refine Sr fun _ kh1 => za rfl (zz (kh1 (zc fun _ kh3 => Sr fun _ kh4 => zm rfl (zm rfl ?_))));refine WL.ev (Ev.fneq rfl rfl) rfl ?_;refine zz (kh4 ?_);refine zy rfl (fun hc1 => ?_) fun hc1 => ?_
 ·rw [order_self] at hc1;refine Sr fun _ kh6 => za rfl (zz (kh6 ?_));refine zr (zr1 rfl rfl ?_);exact ⟨by simp [key, hc1], rfl⟩
 ·rw [order_self] at hc1;refine zkk ?_;refine kh3 (Sr fun _ kh8 => zm rfl ?_);refine WL.ev (Ev.ext rfl (ext65 _ _)) rfl ?_;refine za rfl (zz (kh8 (zc fun _ kh10 => Sr fun _ kh11 => zm rfl ?_)));refine WL.ev (Ev.shr rfl rfl (by omega)) rfl ?_;refine zq rfl rfl (zz (kh11 ?_));refine zy rfl (fun hc2 => ?_) fun hc2 => ?_
  ·simp only [decide_eq_true_eq, decide_eq_false_iff_not] at hc2;refine Sr fun _ kh13 => zm rfl ?_;refine WL.ev (Ev.andNot rfl rfl) rfl ?_;refine WL.ev (Ev.conv rfl rfl) rfl ?_;refine WL.ev (Ev.compl rfl) rfl ?_;refine za rfl (zz (kh13 ?_));refine zr (zr1 rfl rfl ?_);exact ⟨by rw [key_neg b hb hc1 hc2], rfl⟩
  ·simp only [decide_eq_true_eq, decide_eq_false_iff_not] at hc2;refine zkk ?_;refine kh10 (Sr fun _ kh15 => zm rfl ?_);refine WL.ev (Ev.conv rfl rfl) rfl ?_;refine za rfl (zz (kh15 ?_));refine zr (zr1 rfl rfl ?_);exact ⟨by rw [key_pos b hb hc1 hc2], rfl⟩

theorem bits_Order_spec (a b : Nat) (ha : a < 18446744073709551616) (hb : b < 18446744073709551616) (w : World) : Ret Tryz.prog 82 [.float .f64 a, .float .f64 b] w fun v w' => v = .int .i64 (cmpI (key a) (key b)) ∧ w = w' := by
 refine Ret.enter Tryz.func82 rfl rfl ?_;refine Sr fun _ kh1 => za rfl (zz (kh1 (Sr fun _ kh3 => zm rfl ?_)));refine WL.call hasF170 rfl rfl (bits_key_spec _ ha _) fun v w1 h => ?_;obtain ⟨rfl, rfl⟩ := h;refine zm rfl ?_;refine WL.call hasF170 rfl rfl (bits_key_spec _ hb _) fun v w2 h => ?_;obtain ⟨rfl, rfl⟩ := h;refine za rfl (za rfl (zz (kh3 (zc fun _ kh5 => ?_))));refine CW.block ?_;refine Sr fun _ kh6 => zm rfl (zm rfl ?_);refine WL.ev (Ev.lss rfl rfl) rfl ?_;refine za rfl (zz (kh6 ?_));refine zy rfl (fun hc1 => ?_) fun hc1 => ?_
 ·simp only [decide_eq_true_eq, decide_eq_false_iff_not, Decidable.not_not, Bool.and_eq_true, Bool.or_eq_true, Bool.not_eq_true', ne_eq, Int.not_lt, Int.not_le] at hc1;refine Sr fun _ kh8 => za rfl (zz (kh8 ?_));refine zr (zr1 rfl rfl ?_);exact ⟨by rw [cmpI, if_pos hc1], rfl⟩
 ·simp only [decide_eq_true_eq, decide_eq_false_iff_not, Decidable.not_not, Bool.and_eq_true, Bool.or_eq_true, Bool.not_eq_true', ne_eq, Int.not_lt, Int.not_le] at hc1;refine Sr fun _ kh10 => zm rfl (zm rfl ?_);refine WL.ev (Ev.gtr rfl rfl) rfl ?_;refine za rfl (zz (kh10 ?_));refine zy rfl (fun hc2 => ?_) fun hc2 => ?_
  ·simp only [decide_eq_true_eq, decide_eq_false_iff_not, Decidable.not_not, Bool.and_eq_true, Bool.or_eq_true, Bool.not_eq_true', ne_eq, Int.not_lt, Int.not_le] at hc2;refine Sr fun _ kh12 => za rfl (zz (kh12 ?_));refine zr (zr1 rfl rfl ?_);exact ⟨by rw [cmpI, if_neg (by omega), if_pos hc2], rfl⟩
  ·simp only [decide_eq_true_eq, decide_eq_false_iff_not, Decidable.not_not, Bool.and_eq_true, Bool.or_eq_true, Bool.not_eq_true', ne_eq, Int.not_lt, Int.not_le] at hc2;refine zkk ?_;refine kh5 (Sr fun _ kh14 => za rfl (zz (kh14 ?_)));refine zr (zr1 rfl rfl ?_);exact ⟨by rw [cmpI, if_neg (by omega), if_neg (by omega)], rfl⟩

end

/- Shards in memory. No condition. -/
section
open Go Sx Wd Fl

/-- All that is kept of some numbers. -/
structure Sh where
  s : SP
  V : Dy
  Q : Dy
  lo : Nat
  hi : Nat
def Sh.zero : Sh := ⟨SP.zero, Dy.zero, Dy.zero, 0, 0⟩
/-- A shard in its block (the program's or the document's). -/
def ShM (T : TypeId) (w : World) (b : Nat) (S : Sh) : Prop := ∃ rv rq, BK w b T [.int .i64 (S.s.na : Int), .int .i64 (S.s.up : Int), .int .i64 (S.s.dn : Int), .int .i64 (S.s.mi : Int), .int .i64 (S.s.pl : Int), .int .i64 (S.s.al : Int), .bool S.V.neg, rv, .int .i64 S.V.e, .bool S.Q.neg, rq, .int .i64 S.Q.e, .float .f64 S.lo, .float .f64 S.hi] ∧ NU w rv (wd S.V.m) ∧ NU w rq (wd S.Q.m)
structure Sh.wf (S : Sh) : Prop where
  s : S.s.le 1099511627776
  V : S.V.ok
  Q : S.Q.ok
  lo : S.lo < 18446744073709551616
  hi : S.hi < 18446744073709551616
def Sh.some (S : Sh) : Prop := S.s.na < S.s.al
instance (S : Sh) : Decidable S.some := by unfold Sh.some; exact inferInstance
def SP.add (s t : SP) : SP := ⟨s.na + t.na, s.up + t.up, s.dn + t.dn, s.mi + t.mi, s.pl + t.pl, s.al + t.al⟩
/-- One shard with another. -/
def Sh.merge (S U : Sh) : Sh :=
  ⟨S.s.add U.s, (addD S.V U.V).getD Dy.zero, (addD S.Q U.Q).getD Dy.zero, if U.some ∧ (¬ S.some ∨ key U.lo < key S.lo) then U.lo else S.lo, if U.some ∧ (¬ S.some ∨ key S.hi < key U.hi) then U.hi else S.hi⟩
theorem Sh.wf.zero : Sh.zero.wf := ⟨by unfold SP.le; decide, formD_ok (neg := false) (n := 0) (e := 0) rfl, formD_ok (neg := false) (n := 0) (e := 0) rfl, by decide, by decide⟩
theorem addD_ok {x y d : Dy} (hx : x.ok) (hy : y.ok) (h : addD x y = .some d) : d.ok := by
  unfold addD at h
  split at h
  · cases h; exact hy
  split at h
  · cases h; exact hx
  split at h
  · cases h
  split at h
  · exact formD_ok h
  split at h
  · exact formD_ok h
  · exact formD_ok h
theorem ok_zero : Dy.zero.ok := formD_ok (neg := false) (n := 0) (e := 0) rfl
theorem getD_ok {x : Option Dy} (h : ∀ d, x = .some d → d.ok) : (x.getD Dy.zero).ok := by
  cases hx : x with
  | none => exact ok_zero
  | some d => exact h d hx
theorem Sh.merge_wf {S U : Sh} (hS : S.wf) (hU : U.wf) (hm : (S.s.add U.s).le 1099511627776) : (S.merge U).wf :=
  ⟨hm, getD_ok fun d h => addD_ok hS.V hU.V h, getD_ok fun d h => addD_ok hS.Q hU.Q h, by show (if _ then _ else _) < _; split; exact hU.lo; exact hS.lo, by show (if _ then _ else _) < _; split; exact hU.hi; exact hS.hi⟩
theorem ShM.keep0 {T : TypeId} {w w' : World} {b : Nat} {S : Sh} (h : ShM T w b S) (hc : Chg [] w w') : ShM T w' b S := by
  obtain ⟨rv, rq, hb, h1, h2⟩ := h
  exact ⟨rv, rq, hb.keep0 hc, h1.keep0 hc, h2.keep0 hc⟩
theorem ShM.lt {T : TypeId} {w : World} {b : Nat} {S : Sh} (h : ShM T w b S) : b < w.heap.size := by
  obtain ⟨rv, rq, hb, _⟩ := h
  exact hb.lt
theorem some_spec (b : Nat) (S : Sh) (w : World) (hS : ShM 109 w b S) (hle : S.s.le 1099511627776) : Ret Tryz.prog 64 [.pointer (some ⟨b, 0, none⟩)] w fun u w' => u = .bool (decide S.some) ∧ Chg [] w w' := by
 obtain ⟨rv, rq, hb, hNv, hNq⟩ := hS;obtain ⟨hs1, hs2, hs3, hs4, hs5, hs6⟩ := hle;have hch : Chg [] w w := Chg.refl _ _;refine zE1 Tryz.func64 rfl ?_;refine Sr fun _ kh1 => za rfl (zz (kh1 (zc fun _ kh3 => ?_)));refine CW.regionSC hmix (by kernel_rfl) fun kR4 kr4 hdr => ?_;have hch := hch.ta hdr;have hb := hb.keep0 hdr;refine ym rfl ?_;refine WS.ev (Ev.nilPtr rfl) rfl ?_;refine WS.ev (Ev.fieldAddr rfl) rfl ?_;refine WS.ev (Ev.fieldAddr rfl) rfl ?_;refine WS.ev (Ev.load rfl rfl (hb.at_ rfl)) rfl ?_;refine ym rfl ?_;refine WS.ev (Ev.nilPtr rfl) rfl ?_;refine WS.ev (Ev.fieldAddr rfl) rfl ?_;refine WS.ev (Ev.fieldAddr rfl) rfl ?_;refine WS.ev (Ev.load rfl rfl (hb.at_ rfl)) rfl ?_;refine WS.ev (Ev.gtr rfl rfl) rfl ?_;refine ya rfl ?_;refine WS.nil (kr4 _ _ ?_);refine kh3 ?_;refine zr (zr1 rfl rfl ?_);refine ⟨congrArg Value.bool (decide_eq_decide.2 ?_), hch⟩;unfold Sh.some; omega

theorem Count_spec_ (b : Nat) (S : Sh) (w : World) (hS : ShM 109 w b S) (hle : S.s.le 1099511627776) : Ret Tryz.prog 34 [.pointer (some ⟨b, 0, none⟩)] w fun u w' => u = .int .i64 (S.s.al : Int) ∧ Chg [] w w' := by
 obtain ⟨rv, rq, hb, hNv, hNq⟩ := hS;obtain ⟨hs1, hs2, hs3, hs4, hs5, hs6⟩ := hle;have hch : Chg [] w w := Chg.refl _ _;refine zE1 Tryz.func34 rfl ?_;refine Sr fun _ kh1 => za rfl (zz (kh1 (Sr fun _ kh3 => zm rfl ?_)));refine WL.ev (Ev.nilPtr rfl) rfl ?_;refine zf rfl (zf rfl (zl hb rfl rfl (za rfl (zz (kh3 ?_)))));refine zr (zr1 rfl rfl ?_);exact ⟨rfl, hch⟩

def Sh.fin (S : Sh) : Int := (S.s.al : Int) - S.s.na - S.s.up - S.s.dn
def Sh.pln (S : Sh) : Int := S.fin - S.s.mi - S.s.pl

theorem finite_spec (b : Nat) (S : Sh) (w : World) (hS : ShM 109 w b S) (hle : S.s.le 1099511627776) : Ret Tryz.prog 85 [.pointer (some ⟨b, 0, none⟩)] w fun u w' => u = .int .i64 S.fin ∧ Chg [] w w' := by
 obtain ⟨rv, rq, hb, hNv, hNq⟩ := hS;obtain ⟨hs1, hs2, hs3, hs4, hs5, hs6⟩ := hle;have hch : Chg [] w w := Chg.refl _ _;refine zE1 Tryz.func85 rfl ?_;refine Sr fun _ kh1 => za rfl (zz (kh1 (zc fun _ kh3 => ?_)));refine CW.regionSC hmix (by kernel_rfl) fun kR4 kr4 hdr => ?_;have hch := hch.ta hdr;have hb := hb.keep0 hdr;refine ym rfl ?_;refine WS.ev (Ev.nilPtr rfl) rfl ?_;refine WS.ev (Ev.fieldAddr rfl) rfl ?_;refine WS.ev (Ev.fieldAddr rfl) rfl ?_;refine WS.ev (Ev.load rfl rfl (hb.at_ rfl)) rfl ?_;refine ym rfl ?_;refine WS.ev (Ev.nilPtr rfl) rfl ?_;refine WS.ev (Ev.fieldAddr rfl) rfl ?_;refine WS.ev (Ev.fieldAddr rfl) rfl ?_;refine WS.ev (Ev.load rfl rfl (hb.at_ rfl)) rfl ?_;refine WS.ev (Ev.subIn rfl rfl (by omega)) rfl ?_;refine ym rfl ?_;refine WS.ev (Ev.nilPtr rfl) rfl ?_;refine WS.ev (Ev.fieldAddr rfl) rfl ?_;refine WS.ev (Ev.fieldAddr rfl) rfl ?_;refine WS.ev (Ev.load rfl rfl (hb.at_ rfl)) rfl ?_;refine WS.ev (Ev.subIn rfl rfl (by omega)) rfl ?_;refine ym rfl ?_;refine WS.ev (Ev.nilPtr rfl) rfl ?_;refine WS.ev (Ev.fieldAddr rfl) rfl ?_;refine WS.ev (Ev.fieldAddr rfl) rfl ?_;refine WS.ev (Ev.load rfl rfl (hb.at_ rfl)) rfl ?_;refine WS.ev (Ev.subIn rfl rfl (by omega)) rfl ?_;refine ya rfl ?_;refine WS.nil (kr4 _ _ ?_);refine kh3 ?_;refine zr (zr1 rfl rfl ?_);exact ⟨rfl, hch⟩

theorem plain_spec (b : Nat) (S : Sh) (w : World) (hS : ShM 109 w b S) (hle : S.s.le 1099511627776) : Ret Tryz.prog 178 [.pointer (some ⟨b, 0, none⟩)] w fun u w' => u = .int .i64 S.pln ∧ Chg [] w w' := by
 obtain ⟨rv, rq, hb, hNv, hNq⟩ := hS;obtain ⟨hs1, hs2, hs3, hs4, hs5, hs6⟩ := hle;have hch : Chg [] w w := Chg.refl _ _;refine zE1 Tryz.func178 rfl ?_;refine Sr fun _ kh1 => za rfl (zz (kh1 (zc fun _ kh3 => ?_)));refine CW.regionHC 15 rfl hmix fun kR4 kr4 hS hdr => ?_;have hch := hch.ta hdr;have hb := hb.keep0 hdr;have hNv := hNv.keep0 hdr;have hNq := hNq.keep0 hdr;have hb_r := hb;refine wh 0 rfl hS (fun _ _ => Ev.move rfl) (wh 2 rfl hS (fun _ _ => Ev.move rfl) (wh 3 rfl hS (fun _ _ => Ev.nilPtr rfl) (wh 4 rfl hS (fun _ _ => Ev.fieldAddr rfl) (wh 5 rfl hS (fun _ _ => Ev.fieldAddr rfl) (wh 6 rfl hS (fun _ hw' => Ev.load rfl rfl ((hb_r.keep0 hw').at_ rfl)) (wh 8 rfl hS (fun _ _ => Ev.move rfl) (wh 9 rfl hS (fun _ _ => Ev.nilPtr rfl) (wh 10 rfl hS (fun _ _ => Ev.fieldAddr rfl) (wh 11 rfl hS (fun _ _ => Ev.fieldAddr rfl) (wh 12 rfl hS (fun _ hw' => Ev.load rfl rfl ((hb_r.keep0 hw').at_ rfl)) ?_))))))))));refine WH.oneCall 1 rfl (by kernel_rfl) hasF85 rfl rfl (finite_spec b S _ ⟨rv, rq, hb, hNv, hNq⟩ ⟨hs1, hs2, hs3, hs4, hs5, hs6⟩) fun v w1 h' => ?_;obtain ⟨rfl, hC⟩ := h';unfold Sh.fin;have hch := hch.ta hC;have hS := hS.trans hC;refine ⟨hS, ?_⟩;refine wh 7 rfl hS (fun _ _ => Ev.subIn rfl rfl (by omega)) (wh 13 rfl hS (fun _ _ => Ev.subIn rfl rfl (by omega)) (wh 14 rfl hS (fun _ _ => Ev.assign rfl) ?_));refine WH.done (by kernel_rfl) (kr4 _ _ _ ?_);refine kh3 ?_;refine zr (zr1 rfl rfl ?_);exact ⟨rfl, hch⟩

theorem shNew_spec (w : World) : Ret Tryz.prog 47 [] w fun u w' => (∃ b, u = .pointer (some ⟨b, 0, none⟩) ∧ ShM 109 w' b Sh.zero ∧ w.heap.size ≤ b) ∧ Chg [] w w' := by
 have hch : Chg [] w w := Chg.refl _ _;refine zE0 Tryz.func47 rfl ?_;refine Sr fun _ kh1 => za rfl (zz (kh1 (Sr fun _ kh3 => ?_)));refine WL.ev (Ev.build (vs := _) (cs := [_, _, _, _, _, _, _, _, _, _, _, _, _, _]) rfl rfl) rfl ?_;refine zBh rfl rfl rfl hch fun b2 wm2 hb2 hcm2 hge2 hgehch2 hch => ?_;refine za rfl (zz (kh3 ?_));refine zr (zr1 rfl rfl ?_);refine ⟨⟨b2, rfl, ⟨_, _, hb2, ?_, ?_⟩, by omega⟩, hch⟩
 · rw [show Sh.zero.V.m = 0 from rfl, wd_zero]; exact NU.nil
 · rw [show Sh.zero.Q.m = 0 from rfl, wd_zero]; exact NU.nil

end

/- A condition's region that may touch the world, and ends in one answer. No condition. -/
namespace Sx
open Go
section
variable {P : Program} {n : Nat} {D : List Deferred} {s : Sl} {w : World}
theorem CW.seqMC {A : AQ} {x y : Code} (c : Nat) (b : Bool) (hx : Chg [] w w → CW P x (thenK (fun D' s' w' => D' = D ∧ Chg [] w w' ∧ Subs ((c, .bool b) :: s) s') A) n D s w) (hy : ∀ w', Chg [] w w' → CW P y A n D ((c, .bool b) :: s) w') : CW P (.seq x y) A n D s w :=
  CW.seqJ _ (hx (Chg.refl _ _)) fun D' s' w' ⟨h1, h2, h3⟩ => by subst h1; exact (hy w' h2).sub h3
end
section
variable {P : Program} {n : Nat} {D : List Deferred} {s : Sl} {w : World} {ops : Array Oper} {K : KK} {S : World → Prop} {fuel : Nat} {listed : Array Bool}
variable {op : Op} {ty : TypeId} {pos : String} {af : Array Edge} {d : Nat}
/-- A guarded operation of a drawn region that does not run. -/
theorem WH.passG (i : Nat) {j : Nat} {b : Bool} {g : Oper} {x : Bool} {t : Nat} (hi : ops[i]? = some ⟨some d, op, ty, pos, af, some (j, b)⟩) (hs : Region.noSelect ops = true) (hf : Region.free .any ops listed i = true) (hr : (Region.ready .any ops listed).contains i = true)
    (hg : ops[j]? = some g) (ht : g.dst = some t) (hx : look s t = some (.bool x)) (hb : (x == b) = false)
    (hS : S w) (hd : Nat.blt d n = true) (k : WH P ops K S fuel (listed.setIfInBounds i true) n D ((d, undef) :: s) w) : WH P ops K S (fuel + 1) listed n D s w := fun a ha =>
  wpAnyH_take hi hs hf hr (fun c a w h => h.elim) (.inr ⟨by rw [yieldedAt ha hg ht hx]; exact hb, rfl⟩) hS (k _ (ha.put hd undef))
theorem WH.passG1 (i : Nat) {j : Nat} {b : Bool} {g : Oper} {x : Bool} {t : Nat} (hi : ops[i]? = some ⟨some d, op, ty, pos, af, some (j, b)⟩) (hr : Region.ready .any ops listed = [i])
    (hg : ops[j]? = some g) (ht : g.dst = some t) (hx : look s t = some (.bool x)) (hb : (x == b) = false)
    (hS : S w) (hd : Nat.blt d n = true) (k : WH P ops K S fuel (listed.setIfInBounds i true) n D ((d, undef) :: s) w) : WH P ops K S (fuel + 1) listed n D s w := fun a ha =>
  wpAnyH_all hr (by simp) fun j' hj => by
    obtain rfl : j' = i := by simpa using hj
    unfold wpOp
    simp only [hi]
    rw [if_neg (by rw [yieldedAt ha hg ht hx, hb]; simp)]
    exact ⟨hS, k _ (ha.put hd undef)⟩
end
end Sx

/- Shards: Merge. No condition. -/
section
open Go Sx Wd Fl

theorem both_ok {f : Dy → Dy → Option Dy} {x y : Dy} (hx : x.ok) (hy : y.ok) : both2 f (formD x.neg (val (wd x.m)) x.e) (formD y.neg (val (wd y.m)) y.e) = f x y := by
  rw [val_wd, val_wd, formD_self hx, formD_self hy]; rfl
/-- What is put where an answer may be none. -/
theorem DR.cells {w : World} {u : Value} {x : Option Dy} (h : DR w u x) : ∃ r k, u = .tuple [.agg [.bool (x.getD Dy.zero).neg, r, .int .i64 (x.getD Dy.zero).e].toArray, .int .i64 k].toArray ∧ NU w r (wd (x.getD Dy.zero).m) := by
  rcases h with ⟨r, d, rfl, rfl, hN⟩ | ⟨rfl, rfl⟩
  · exact ⟨r, 0, rfl, hN⟩
  · exact ⟨_, 2, rfl, by rw [show (Option.none.getD Dy.zero).m = 0 from rfl, wd_zero]; exact NU.nil⟩
theorem cmpI_neg {a b : Int} : cmpI a b < 0 ↔ a < b := by
  unfold cmpI; split
  · omega
  · split <;> omega
theorem cmpI_pos {a b : Int} : 0 < cmpI a b ↔ b < a := by
  unfold cmpI; split
  · omega
  · split <;> omega

theorem GW.keepI {w w' : World} {b : Nat} {T : TypeId} {x : Int} {l : List Value} (hg : GW w) (hb : BK w b T (.int .i64 x :: l)) (hc : Chg [b] w w') : GW w' := fun i hi => by
  refine hc.cell (hg i hi) fun hm => ?_
  have hm2 : 6 = b := by simpa using hm
  have h0 := hg 0 (by decide)
  rw [hm2, hb.at_ (i := 0) rfl] at h0
  cases h0
theorem ok_i64 {d : Dy} (h : d.ok) : -9223372036854775808 ≤ d.e ∧ d.e ≤ 9223372036854775807 := by have := h.e; omega

theorem shMerge_spec (b c : Nat) (S U : Sh) (w : World) (hS : ShM 109 w b S) (hwS : S.wf) (hU : ShM 109 w c U) (hwU : U.wf) (hne : b ≠ c) (hg : GW w) : Ret Tryz.prog 25 [.pointer (some ⟨b, 0, none⟩), .pointer (some ⟨c, 0, none⟩)] w fun u w' => (1099511627776 < S.s.al + U.s.al ∧ u = .int .i64 2 ∧ ShM 109 w' b S ∧ Chg [b] w w') ∨ (S.s.al + U.s.al ≤ 1099511627776 ∧ u = .int .i64 0 ∧ ShM 109 w' b (S.merge U) ∧ Chg [b] w w') := by
 obtain ⟨rv, rq, hb, hNv, hNq⟩ := hS;have hb0 := hb;have hwS0 := hwS;obtain ⟨⟨hs1, hs2, hs3, hs4, hs5, hs6⟩, hokV, hokQ, hloS, hhiS⟩ := hwS;obtain ⟨sv, sq, hck, hMv, hMq⟩ := hU;obtain ⟨⟨hu1, hu2, hu3, hu4, hu5, hu6⟩, hokVU, hokQU, hloU, hhiU⟩ := hwU;have hch : Chg [b] w w := Chg.refl _ _;refine zE2 Tryz.func25 rfl ?_;refine Sr fun _ kh1 => za rfl (zz (kh1 (zc fun _ kh3 => zc fun _ kh4 => ?_)));refine CW.regionSC hmix (by kernel_rfl) fun kR5 kr5 hdr => ?_;have hch := hch.ta hdr;have hb := hb.keep0 hdr;have hck := hck.keep0 hdr;have hNv := hNv.keep0 hdr;have hNq := hNq.keep0 hdr;have hMv := hMv.keep0 hdr;have hMq := hMq.keep0 hdr;refine ym rfl ?_;refine WS.ev (Ev.nilPtr rfl) rfl ?_;refine WS.ev (Ev.fieldAddr rfl) rfl ?_;refine WS.ev (Ev.fieldAddr rfl) rfl ?_;refine WS.ev (Ev.load rfl rfl (hb.at_ rfl)) rfl ?_;refine ym rfl ?_;refine WS.ev (Ev.nilPtr rfl) rfl ?_;refine WS.ev (Ev.fieldAddr rfl) rfl ?_;refine WS.ev (Ev.fieldAddr rfl) rfl ?_;refine WS.ev (Ev.load rfl rfl (hck.at_ rfl)) rfl ?_;refine WS.ev (Ev.addIn rfl rfl (by omega)) rfl ?_;refine WS.ev (Ev.gtr rfl rfl) rfl ?_;refine WS.nil (kr5 _ _ ?_);refine kh4 ?_;refine zy rfl ?_ ?_<;>intro hc1<;>try simp only [qs] at hc1
 ·have hbig : 1099511627776 < S.s.al + U.s.al := by have := hc1; omega
  refine Sr fun _ kh6 => za rfl (zz (kh6 ?_));refine zr (zr1 rfl rfl ?_);exact .inl ⟨hbig, rfl, ⟨_, _, hb, hNv, hNq⟩, hch⟩
 ·have hsml : S.s.al + U.s.al ≤ 1099511627776 := by have := hc1; omega
  refine zkk ?_;refine kh3 ?_;refine CW.seqJ (fun D s' w' => D = [] ∧ ∃ lo' hi' : Nat, lo' = (if U.some ∧ (¬ S.some ∨ key U.lo < key S.lo) then U.lo else S.lo) ∧ hi' = (if U.some ∧ (¬ S.some ∨ key S.hi < key U.hi) then U.hi else S.hi) ∧ BK w' b 109 [.int .i64 (S.s.na : Int), .int .i64 (S.s.up : Int), .int .i64 (S.s.dn : Int), .int .i64 (S.s.mi : Int), .int .i64 (S.s.pl : Int), .int .i64 (S.s.al : Int), .bool S.V.neg, rv, .int .i64 S.V.e, .bool S.Q.neg, rq, .int .i64 S.Q.e, .float .f64 lo', .float .f64 hi'] ∧ NU w' rv (wd S.V.m) ∧ NU w' rq (wd S.Q.m) ∧ BK w' c 109 [.int .i64 (U.s.na : Int), .int .i64 (U.s.up : Int), .int .i64 (U.s.dn : Int), .int .i64 (U.s.mi : Int), .int .i64 (U.s.pl : Int), .int .i64 (U.s.al : Int), .bool U.V.neg, sv, .int .i64 U.V.e, .bool U.Q.neg, sq, .int .i64 U.Q.e, .float .f64 U.lo, .float .f64 U.hi] ∧ NU w' sv (wd U.V.m) ∧ NU w' sq (wd U.Q.m) ∧ Chg [b] w w' ∧ Subs [(0, .pointer (some ⟨b, 0, none⟩)), (1, .pointer (some ⟨c, 0, none⟩))] s') ?_ ?_
  ·refine Sr fun _ kh9 => zm rfl ?_;refine WL.call hasF64 rfl rfl (some_spec c U _ ⟨sv, sq, hck, hMv, hMq⟩ ⟨hu1, hu2, hu3, hu4, hu5, hu6⟩) fun v w1 h' => ?_;obtain ⟨rfl, hC⟩ := h';have hch := hch.ta hC;have hb := hb.keep0 hC;have hck := hck.keep0 hC;have hNv := hNv.keep0 hC;have hNq := hNq.keep0 hC;have hMv := hMv.keep0 hC;have hMq := hMq.keep0 hC;refine zz (kh9 ?_);refine zy rfl ?_ ?_<;>intro hc2<;>try simp only [qs] at hc2
   ·have hsome : U.some := by simpa using hc2
    refine CW.seqJ (fun D s' w' => D = [] ∧ ∃ lo' : Nat, lo' = (if U.some ∧ (¬ S.some ∨ key U.lo < key S.lo) then U.lo else S.lo) ∧ BK w' b 109 [.int .i64 (S.s.na : Int), .int .i64 (S.s.up : Int), .int .i64 (S.s.dn : Int), .int .i64 (S.s.mi : Int), .int .i64 (S.s.pl : Int), .int .i64 (S.s.al : Int), .bool S.V.neg, rv, .int .i64 S.V.e, .bool S.Q.neg, rq, .int .i64 S.Q.e, .float .f64 lo', .float .f64 S.hi] ∧ NU w' rv (wd S.V.m) ∧ NU w' rq (wd S.Q.m) ∧ BK w' c 109 [.int .i64 (U.s.na : Int), .int .i64 (U.s.up : Int), .int .i64 (U.s.dn : Int), .int .i64 (U.s.mi : Int), .int .i64 (U.s.pl : Int), .int .i64 (U.s.al : Int), .bool U.V.neg, sv, .int .i64 U.V.e, .bool U.Q.neg, sq, .int .i64 U.Q.e, .float .f64 U.lo, .float .f64 U.hi] ∧ NU w' sv (wd U.V.m) ∧ NU w' sq (wd U.Q.m) ∧ Chg [b] w w' ∧ Subs [(0, .pointer (some ⟨b, 0, none⟩)), (1, .pointer (some ⟨c, 0, none⟩))] s') ?_ ?_
    ·refine CW.seqMC 34 (decide (¬ S.some ∨ key U.lo < key S.lo)) ?_ ?_
     ·intro hcM;refine CW.regionHC 15 rfl hmix fun kR12 kr12 hS hdr => ?_;have hcM := hcM.ta hdr;have hb := hb.keep0 hdr;have hck := hck.keep0 hdr;have hNv := hNv.keep0 hdr;have hNq := hNq.keep0 hdr;have hb_r := hb;have hck_r := hck;refine wh 0 rfl hS (fun _ _ => Ev.move rfl) ?_;refine WH.oneCall 1 rfl (by kernel_rfl) hasF64 rfl rfl (some_spec b S _ ⟨rv, rq, hb, hNv, hNq⟩ ⟨hs1, hs2, hs3, hs4, hs5, hs6⟩) fun v w2 h' => ?_;obtain ⟨rfl, hC⟩ := h';have hcM := hcM.ta hC;have hS := hS.trans hC;refine ⟨hS, ?_⟩
      by_cases hsm : S.some
      ·rw [show decide (Sh.some S) = true from decide_eq_true hsm];refine wh 2 rfl hS (fun _ _ => Ev.not rfl) (wh 3 rfl hS (fun _ _ => Ev.move rfl) ?_);refine WH.takeG 4 rfl (by kernel_rfl) (by kernel_rfl) (by kernel_rfl) rfl rfl rfl rfl hS (fun w' hw' => Ev.move rfl) rfl ?_;refine WH.takeG 5 rfl (by kernel_rfl) (by kernel_rfl) (by kernel_rfl) rfl rfl rfl rfl hS (fun w' hw' => Ev.nilPtr rfl) rfl ?_;refine WH.takeG 6 rfl (by kernel_rfl) (by kernel_rfl) (by kernel_rfl) rfl rfl rfl rfl hS (fun w' hw' => Ev.fieldAddr rfl) rfl ?_;refine WH.takeG 7 rfl (by kernel_rfl) (by kernel_rfl) (by kernel_rfl) rfl rfl rfl rfl hS (fun w' hw' => Ev.load rfl rfl ((hck_r.keep0 hw').at_ rfl)) rfl ?_;refine WH.takeG 8 rfl (by kernel_rfl) (by kernel_rfl) (by kernel_rfl) rfl rfl rfl rfl hS (fun w' hw' => Ev.move rfl) rfl ?_;refine WH.takeG 9 rfl (by kernel_rfl) (by kernel_rfl) (by kernel_rfl) rfl rfl rfl rfl hS (fun w' hw' => Ev.nilPtr rfl) rfl ?_;refine WH.takeG 10 rfl (by kernel_rfl) (by kernel_rfl) (by kernel_rfl) rfl rfl rfl rfl hS (fun w' hw' => Ev.fieldAddr rfl) rfl ?_;refine WH.takeG 11 rfl (by kernel_rfl) (by kernel_rfl) (by kernel_rfl) rfl rfl rfl rfl hS (fun w' hw' => Ev.load rfl rfl ((hb_r.keep0 hw').at_ rfl)) rfl ?_;refine WH.oneCallG 12 rfl (by kernel_rfl) rfl rfl rfl rfl hasF82 rfl rfl (bits_Order_spec U.lo S.lo (by omega) (by omega) _) fun v w3 h' => ?_;obtain ⟨rfl, rfl⟩ := h';refine ⟨hS, ?_⟩;refine WH.takeG 13 rfl (by kernel_rfl) (by kernel_rfl) (by kernel_rfl) rfl rfl rfl rfl hS (fun w' hw' => Ev.lss rfl rfl) rfl ?_;refine wh 14 rfl hS (fun _ _ => Ev.pickF rfl rfl rfl) ?_;refine WH.done (by kernel_rfl) (kr12 _ _ _ ?_);refine ⟨rfl, hcM, Subs.consB rfl ?_ ?_⟩
       ·first | exact (decide_eq_true (.inl hsm)).symm | exact decide_eq_decide.2 (by rw [cmpI_neg]; exact ⟨.inr, fun q => q.resolve_left (fun z => z hsm)⟩)
       ·exact SMg
      ·rw [show decide (Sh.some S) = false from decide_eq_false hsm];refine wh 2 rfl hS (fun _ _ => Ev.not rfl) (wh 3 rfl hS (fun _ _ => Ev.move rfl) ?_);refine WH.passG 4 rfl (by kernel_rfl) (by kernel_rfl) (by kernel_rfl) rfl rfl rfl rfl hS rfl ?_;refine WH.passG 5 rfl (by kernel_rfl) (by kernel_rfl) (by kernel_rfl) rfl rfl rfl rfl hS rfl ?_;refine WH.passG 6 rfl (by kernel_rfl) (by kernel_rfl) (by kernel_rfl) rfl rfl rfl rfl hS rfl ?_;refine WH.passG 7 rfl (by kernel_rfl) (by kernel_rfl) (by kernel_rfl) rfl rfl rfl rfl hS rfl ?_;refine WH.passG 8 rfl (by kernel_rfl) (by kernel_rfl) (by kernel_rfl) rfl rfl rfl rfl hS rfl ?_;refine WH.passG 9 rfl (by kernel_rfl) (by kernel_rfl) (by kernel_rfl) rfl rfl rfl rfl hS rfl ?_;refine WH.passG 10 rfl (by kernel_rfl) (by kernel_rfl) (by kernel_rfl) rfl rfl rfl rfl hS rfl ?_;refine WH.passG 11 rfl (by kernel_rfl) (by kernel_rfl) (by kernel_rfl) rfl rfl rfl rfl hS rfl ?_;refine WH.passG1 12 rfl (by kernel_rfl) rfl rfl rfl rfl hS rfl ?_;refine WH.passG 13 rfl (by kernel_rfl) (by kernel_rfl) (by kernel_rfl) rfl rfl rfl rfl hS rfl ?_;refine wh 14 rfl hS (fun _ _ => Ev.pickT rfl rfl rfl) ?_;refine WH.done (by kernel_rfl) (kr12 _ _ _ ?_);refine ⟨rfl, hcM, Subs.consB rfl ?_ ?_⟩
       ·first | exact (decide_eq_true (.inl hsm)).symm | exact decide_eq_decide.2 (by rw [cmpI_neg]; exact ⟨.inr, fun q => q.resolve_left (fun z => z hsm)⟩)
       ·exact SMg
     ·intro wM hcM;have hch := hch.ta hcM;have hb := hb.keep0 hcM;have hck := hck.keep0 hcM;have hNv := hNv.keep0 hcM;have hNq := hNq.keep0 hcM;have hMv := hMv.keep0 hcM;have hMq := hMq.keep0 hcM;refine zy rfl ?_ ?_<;>intro hc3<;>try simp only [qs] at hc3
      ·have hq : ¬ S.some ∨ key U.lo < key S.lo := by simpa using hc3
       refine zR fun _ kr13 => ?_;refine zm rfl (zm rfl ?_);refine WL.ev (Ev.nilPtr rfl) rfl ?_;refine zf rfl (zl hck rfl rfl ?_);refine WL.ev (Ev.nilPtr rfl) rfl ?_;refine zf rfl ?_;refine WL.storeC rfl rfl o1 hb (by simp) rfl fun ws1 hb_ hcs1 => ?_;(try simp only [Sx.splice, qt] at hb_);have hch := hch.s1 hcs1;have hck := hck.kq hcs1;have hNv := hNv.keepBK hb hcs1 an;have hNq := hNq.keepBK hb hcs1 an;have hMv := hMv.keepBK hb hcs1 an;have hMq := hMq.keepBK hb hcs1 an;have hb := hb_;refine WL.nil (kr13 _ _ _ ?_);exact ⟨rfl, U.lo, (if_pos ⟨hsome, hq⟩).symm, hb, hNv, hNq, hck, hMv, hMq, hch, (by first | ((repeat (first | exact Subs.refl | refine Subs.drop1 (by rfl) ?_)); done) | ((repeat (first | exact Subs.nil | refine Subs.cons rfl ?_)); done))⟩
      ·have hq : ¬ (¬ S.some ∨ key U.lo < key S.lo) := by simpa using hc3
       refine zkk ?_;exact ⟨rfl, S.lo, (if_neg (fun q => hq q.2)).symm, hb, hNv, hNq, hck, hMv, hMq, hch, (by first | ((repeat (first | exact Subs.refl | refine Subs.drop1 (by rfl) ?_)); done) | ((repeat (first | exact Subs.nil | refine Subs.cons rfl ?_)); done))⟩
    ·rintro _ s' wJ ⟨rfl, lo', hlo, hb, hNv, hNq, hck, hMv, hMq, hch, hsub⟩;refine CW.sub hsub ?_;refine CW.seqMC 56 (decide (¬ S.some ∨ key S.hi < key U.hi)) ?_ ?_
     ·intro hcM;refine CW.regionHC 15 rfl hmix fun kR14 kr14 hS hdr => ?_;have hcM := hcM.ta hdr;have hb := hb.keep0 hdr;have hck := hck.keep0 hdr;have hNv := hNv.keep0 hdr;have hNq := hNq.keep0 hdr;have hb_r := hb;have hck_r := hck;refine wh 0 rfl hS (fun _ _ => Ev.move rfl) ?_;refine WH.oneCall 1 rfl (by kernel_rfl) hasF64 rfl rfl (some_spec b ⟨S.s, S.V, S.Q, lo', S.hi⟩ _ ⟨rv, rq, hb, hNv, hNq⟩ ⟨hs1, hs2, hs3, hs4, hs5, hs6⟩) fun v w4 h' => ?_;obtain ⟨rfl, hC⟩ := h';have hcM := hcM.ta hC;have hS := hS.trans hC;refine ⟨hS, ?_⟩
      by_cases hsm : S.some
      ·rw [show decide (Sh.some ⟨S.s, S.V, S.Q, lo', S.hi⟩) = true from decide_eq_true hsm];refine wh 2 rfl hS (fun _ _ => Ev.not rfl) (wh 3 rfl hS (fun _ _ => Ev.move rfl) ?_);refine WH.takeG 4 rfl (by kernel_rfl) (by kernel_rfl) (by kernel_rfl) rfl rfl rfl rfl hS (fun w' hw' => Ev.move rfl) rfl ?_;refine WH.takeG 5 rfl (by kernel_rfl) (by kernel_rfl) (by kernel_rfl) rfl rfl rfl rfl hS (fun w' hw' => Ev.nilPtr rfl) rfl ?_;refine WH.takeG 6 rfl (by kernel_rfl) (by kernel_rfl) (by kernel_rfl) rfl rfl rfl rfl hS (fun w' hw' => Ev.fieldAddr rfl) rfl ?_;refine WH.takeG 7 rfl (by kernel_rfl) (by kernel_rfl) (by kernel_rfl) rfl rfl rfl rfl hS (fun w' hw' => Ev.load rfl rfl ((hck_r.keep0 hw').at_ rfl)) rfl ?_;refine WH.takeG 8 rfl (by kernel_rfl) (by kernel_rfl) (by kernel_rfl) rfl rfl rfl rfl hS (fun w' hw' => Ev.move rfl) rfl ?_;refine WH.takeG 9 rfl (by kernel_rfl) (by kernel_rfl) (by kernel_rfl) rfl rfl rfl rfl hS (fun w' hw' => Ev.nilPtr rfl) rfl ?_;refine WH.takeG 10 rfl (by kernel_rfl) (by kernel_rfl) (by kernel_rfl) rfl rfl rfl rfl hS (fun w' hw' => Ev.fieldAddr rfl) rfl ?_;refine WH.takeG 11 rfl (by kernel_rfl) (by kernel_rfl) (by kernel_rfl) rfl rfl rfl rfl hS (fun w' hw' => Ev.load rfl rfl ((hb_r.keep0 hw').at_ rfl)) rfl ?_;refine WH.oneCallG 12 rfl (by kernel_rfl) rfl rfl rfl rfl hasF82 rfl rfl (bits_Order_spec U.hi S.hi (by omega) (by omega) _) fun v w5 h' => ?_;obtain ⟨rfl, rfl⟩ := h';refine ⟨hS, ?_⟩;refine WH.takeG 13 rfl (by kernel_rfl) (by kernel_rfl) (by kernel_rfl) rfl rfl rfl rfl hS (fun w' hw' => Ev.gtr rfl rfl) rfl ?_;refine wh 14 rfl hS (fun _ _ => Ev.pickF rfl rfl rfl) ?_;refine WH.done (by kernel_rfl) (kr14 _ _ _ ?_);refine ⟨rfl, hcM, Subs.consB rfl ?_ ?_⟩
       ·first | exact (decide_eq_true (.inl hsm)).symm | exact decide_eq_decide.2 (by rw [cmpI_pos]; exact ⟨.inr, fun q => q.resolve_left (fun z => z hsm)⟩)
       ·exact SMg
      ·rw [show decide (Sh.some ⟨S.s, S.V, S.Q, lo', S.hi⟩) = false from decide_eq_false hsm];refine wh 2 rfl hS (fun _ _ => Ev.not rfl) (wh 3 rfl hS (fun _ _ => Ev.move rfl) ?_);refine WH.passG 4 rfl (by kernel_rfl) (by kernel_rfl) (by kernel_rfl) rfl rfl rfl rfl hS rfl ?_;refine WH.passG 5 rfl (by kernel_rfl) (by kernel_rfl) (by kernel_rfl) rfl rfl rfl rfl hS rfl ?_;refine WH.passG 6 rfl (by kernel_rfl) (by kernel_rfl) (by kernel_rfl) rfl rfl rfl rfl hS rfl ?_;refine WH.passG 7 rfl (by kernel_rfl) (by kernel_rfl) (by kernel_rfl) rfl rfl rfl rfl hS rfl ?_;refine WH.passG 8 rfl (by kernel_rfl) (by kernel_rfl) (by kernel_rfl) rfl rfl rfl rfl hS rfl ?_;refine WH.passG 9 rfl (by kernel_rfl) (by kernel_rfl) (by kernel_rfl) rfl rfl rfl rfl hS rfl ?_;refine WH.passG 10 rfl (by kernel_rfl) (by kernel_rfl) (by kernel_rfl) rfl rfl rfl rfl hS rfl ?_;refine WH.passG 11 rfl (by kernel_rfl) (by kernel_rfl) (by kernel_rfl) rfl rfl rfl rfl hS rfl ?_;refine WH.passG1 12 rfl (by kernel_rfl) rfl rfl rfl rfl hS rfl ?_;refine WH.passG 13 rfl (by kernel_rfl) (by kernel_rfl) (by kernel_rfl) rfl rfl rfl rfl hS rfl ?_;refine wh 14 rfl hS (fun _ _ => Ev.pickT rfl rfl rfl) ?_;refine WH.done (by kernel_rfl) (kr14 _ _ _ ?_);refine ⟨rfl, hcM, Subs.consB rfl ?_ ?_⟩
       ·first | exact (decide_eq_true (.inl hsm)).symm | exact decide_eq_decide.2 (by rw [cmpI_pos]; exact ⟨.inr, fun q => q.resolve_left (fun z => z hsm)⟩)
       ·exact SMg
     ·intro wM hcM;have hch := hch.ta hcM;have hb := hb.keep0 hcM;have hck := hck.keep0 hcM;have hNv := hNv.keep0 hcM;have hNq := hNq.keep0 hcM;have hMv := hMv.keep0 hcM;have hMq := hMq.keep0 hcM;refine zy rfl ?_ ?_<;>intro hc4<;>try simp only [qs] at hc4
      ·have hq : ¬ S.some ∨ key S.hi < key U.hi := by simpa using hc4
       refine zR fun _ kr15 => ?_;refine zm rfl (zm rfl ?_);refine WL.ev (Ev.nilPtr rfl) rfl ?_;refine zf rfl (zl hck rfl rfl ?_);refine WL.ev (Ev.nilPtr rfl) rfl ?_;refine zf rfl ?_;refine WL.storeC rfl rfl o1 hb (by simp) rfl fun ws2 hb_ hcs2 => ?_;(try simp only [Sx.splice, qt] at hb_);have hch := hch.s1 hcs2;have hck := hck.kq hcs2;have hNv := hNv.keepBK hb hcs2 an;have hNq := hNq.keepBK hb hcs2 an;have hMv := hMv.keepBK hb hcs2 an;have hMq := hMq.keepBK hb hcs2 an;have hb := hb_;refine WL.nil (kr15 _ _ _ ?_);exact ⟨rfl, lo', U.hi, hlo, (if_pos ⟨hsome, hq⟩).symm, hb, hNv, hNq, hck, hMv, hMq, hch, (by first | ((repeat (first | exact Subs.refl | refine Subs.drop1 (by rfl) ?_)); done) | ((repeat (first | exact Subs.nil | refine Subs.cons rfl ?_)); done))⟩
      ·have hq : ¬ (¬ S.some ∨ key S.hi < key U.hi) := by simpa using hc4
       refine zkk ?_;exact ⟨rfl, lo', S.hi, hlo, (if_neg (fun q => hq q.2)).symm, hb, hNv, hNq, hck, hMv, hMq, hch, (by first | ((repeat (first | exact Subs.refl | refine Subs.drop1 (by rfl) ?_)); done) | ((repeat (first | exact Subs.nil | refine Subs.cons rfl ?_)); done))⟩
   ·have hsome : ¬ U.some := by simpa using hc2
    refine zkk ?_;exact ⟨rfl, S.lo, S.hi, (if_neg (fun q => hsome q.1)).symm, (if_neg (fun q => hsome q.1)).symm, hb, hNv, hNq, hck, hMv, hMq, hch, (by first | ((repeat (first | exact Subs.refl | refine Subs.drop1 (by rfl) ?_)); done) | ((repeat (first | exact Subs.nil | refine Subs.cons rfl ?_)); done))⟩
  ·rintro _ s' wJ ⟨rfl, lo', hi', hlo, hhi, hb, hNv, hNq, hck, hMv, hMq, hch, hsub⟩;refine CW.sub hsub ?_;refine Sr fun _ kh16 => zm rfl ?_;refine WL.ev (Ev.nilPtr rfl) rfl ?_;refine zf rfl ?_;refine WL.ev (Ev.loadB (cs := [.int .i64 (U.s.na : Int), .int .i64 (U.s.up : Int), .int .i64 (U.s.dn : Int), .int .i64 (U.s.mi : Int), .int .i64 (U.s.pl : Int), .int .i64 (U.s.al : Int)]) rfl rfl hck rfl rfl) rfl ?_;refine WL.allocB (l := [.int .i64 0, .int .i64 0, .int .i64 0, .int .i64 0, .int .i64 0, .int .i64 0]) rfl rfl fun b5 wm5 hb5 hcm5 hge5 => ?_;have hgehch5 := Nat.le_trans hch.size hge5;have hch := hch.ta hcm5;have hNv := hNv.keep0 hcm5;have hNq := hNq.keep0 hcm5;have hMv := hMv.keep0 hcm5;have hMq := hMq.keep0 hcm5;have hneb5 : b ≠ b5 := by have := hb.lt; omega
   have hb := hb.keep0 hcm5;have hnec5 : c ≠ b5 := by have := hck.lt; omega
   have hck := hck.keep0 hcm5;refine zss rfl rfl ao hb5 rfl fun ws3 hb5_ hcs3 => ?_;(try simp only [Sx.splice, qt] at hb5_);have hch := hch.s1 hcs3;have hb := hb.kq hcs3;have hck := hck.kq hcs3;have hNv := hNv.keepBK hb5 hcs3 an;have hNq := hNq.keepBK hb5 hcs3 an;have hMv := hMv.keepBK hb5 hcs3 an;have hMq := hMq.keepBK hb5 hcs3 an;have hb5 := hb5_;refine zz (kh16 (zc fun _ kh18 => ?_));refine CW.regionKC 11 12 rfl hmix fun kR19 kr19 hS hdr => ?_;have hch := hch.ta hdr;have hb := hb.keep0 hdr;have hck := hck.keep0 hdr;have hb5 := hb5.k0 hdr;have hNv := hNv.keep0 hdr;have hNq := hNq.keep0 hdr;have hMv := hMv.keep0 hdr;have hMq := hMq.keep0 hdr;have hb_r := hb;have hck_r := hck;have hb5_r := hb5;refine wk 0 rfl hS (fun _ _ => Ev.move rfl) (wk 1 rfl hS (fun _ _ => Ev.nilPtr rfl) (wk 2 rfl hS (fun _ _ => Ev.fieldAddr rfl) (wk 3 rfl hS (fun _ _ => Ev.fieldAddr rfl) (wk 4 rfl hS (fun _ hw' => Ev.load rfl rfl ((hb_r.keep0 hw').at_ rfl)) (wk 5 rfl hS (fun _ _ => Ev.fieldAddr rfl) (wk 6 rfl hS (fun _ hw' => Ev.load rfl rfl ((hb5_r.keep0 hw').at_ rfl)) (wk 7 rfl hS (fun _ _ => Ev.addIn rfl rfl (by omega)) ?_)))))));refine WK.takeT 8 rfl (by kernel_rfl) (by kernel_rfl) (by kernel_rfl) (by kernel_rfl) (fun _ => hS) (fun w' => Ev.nilPtr rfl) rfl ?_;refine WK.takeT 9 rfl (by kernel_rfl) (by kernel_rfl) (by kernel_rfl) (by kernel_rfl) (fun _ => hS) (fun w' => Ev.fieldAddr rfl) rfl ?_;refine wk 10 rfl hS (fun _ _ => Ev.fieldAddr rfl) ?_;refine WK.storeC 11 rfl (by kernel_rfl) (by kernel_rfl) rfl rfl o1 hb (by simp) rfl fun ws4 hb_ hcs4 => ?_;(try simp only [Sx.splice, qt] at hb_);have hch := hch.s1 hcs4;have hck := hck.kq hcs4;have hb5 := hb5.kq hcs4;have hNv := hNv.keepBK hb hcs4 an;have hNq := hNq.keepBK hb hcs4 an;have hMv := hMv.keepBK hb hcs4 an;have hMq := hMq.keepBK hb hcs4 an;have hb := hb_;refine WK.done (by kernel_rfl) (kr19 _ _ _ ?_);refine kh18 (zc fun _ kh20 => ?_);refine CW.regionKC 11 12 rfl hmix fun kR21 kr21 hS hdr => ?_;have hch := hch.ta hdr;have hb := hb.keep0 hdr;have hck := hck.keep0 hdr;have hb5 := hb5.k0 hdr;have hNv := hNv.keep0 hdr;have hNq := hNq.keep0 hdr;have hMv := hMv.keep0 hdr;have hMq := hMq.keep0 hdr;have hb_r := hb;have hck_r := hck;have hb5_r := hb5;refine wk 0 rfl hS (fun _ _ => Ev.move rfl) (wk 1 rfl hS (fun _ _ => Ev.nilPtr rfl) (wk 2 rfl hS (fun _ _ => Ev.fieldAddr rfl) (wk 3 rfl hS (fun _ _ => Ev.fieldAddr rfl) (wk 4 rfl hS (fun _ hw' => Ev.load rfl rfl ((hb_r.keep0 hw').at_ rfl)) (wk 5 rfl hS (fun _ _ => Ev.fieldAddr rfl) (wk 6 rfl hS (fun _ hw' => Ev.load rfl rfl ((hb5_r.keep0 hw').at_ rfl)) (wk 7 rfl hS (fun _ _ => Ev.addIn rfl rfl (by omega)) ?_)))))));refine WK.takeT 8 rfl (by kernel_rfl) (by kernel_rfl) (by kernel_rfl) (by kernel_rfl) (fun _ => hS) (fun w' => Ev.nilPtr rfl) rfl ?_;refine WK.takeT 9 rfl (by kernel_rfl) (by kernel_rfl) (by kernel_rfl) (by kernel_rfl) (fun _ => hS) (fun w' => Ev.fieldAddr rfl) rfl ?_;refine wk 10 rfl hS (fun _ _ => Ev.fieldAddr rfl) ?_;refine WK.storeC 11 rfl (by kernel_rfl) (by kernel_rfl) rfl rfl o1 hb (by simp) rfl fun ws5 hb_ hcs5 => ?_
   (try simp only [Sx.splice, qt] at hb_);have hch := hch.s1 hcs5
   have hck := hck.kq hcs5;have hb5 := hb5.kq hcs5;have hNv := hNv.keepBK hb hcs5 an;have hNq := hNq.keepBK hb hcs5 an;have hMv := hMv.keepBK hb hcs5 an;have hMq := hMq.keepBK hb hcs5 an;have hb := hb_;refine WK.done (by kernel_rfl) (kr21 _ _ _ ?_);refine kh20 (zc fun _ kh22 => ?_);refine CW.regionKC 11 12 rfl hmix fun kR23 kr23 hS hdr => ?_;have hch := hch.ta hdr;have hb := hb.keep0 hdr;have hck := hck.keep0 hdr;have hb5 := hb5.k0 hdr;have hNv := hNv.keep0 hdr;have hNq := hNq.keep0 hdr;have hMv := hMv.keep0 hdr;have hMq := hMq.keep0 hdr;have hb_r := hb;have hck_r := hck;have hb5_r := hb5;refine wk 0 rfl hS (fun _ _ => Ev.move rfl) (wk 1 rfl hS (fun _ _ => Ev.nilPtr rfl) (wk 2 rfl hS (fun _ _ => Ev.fieldAddr rfl) (wk 3 rfl hS (fun _ _ => Ev.fieldAddr rfl) (wk 4 rfl hS (fun _ hw' => Ev.load rfl rfl ((hb_r.keep0 hw').at_ rfl)) (wk 5 rfl hS (fun _ _ => Ev.fieldAddr rfl) (wk 6 rfl hS (fun _ hw' => Ev.load rfl rfl ((hb5_r.keep0 hw').at_ rfl)) (wk 7 rfl hS (fun _ _ => Ev.addIn rfl rfl (by omega)) ?_)))))));refine WK.takeT 8 rfl (by kernel_rfl) (by kernel_rfl) (by kernel_rfl) (by kernel_rfl) (fun _ => hS) (fun w' => Ev.nilPtr rfl) rfl ?_;refine WK.takeT 9 rfl (by kernel_rfl) (by kernel_rfl) (by kernel_rfl) (by kernel_rfl) (fun _ => hS) (fun w' => Ev.fieldAddr rfl) rfl ?_;refine wk 10 rfl hS (fun _ _ => Ev.fieldAddr rfl) ?_;refine WK.storeC 11 rfl (by kernel_rfl) (by kernel_rfl) rfl rfl o1 hb (by simp) rfl fun ws6 hb_ hcs6 => ?_;(try simp only [Sx.splice, qt] at hb_);have hch := hch.s1 hcs6;have hck := hck.kq hcs6;have hb5 := hb5.kq hcs6;have hNv := hNv.keepBK hb hcs6 an;have hNq := hNq.keepBK hb hcs6 an;have hMv := hMv.keepBK hb hcs6 an;have hMq := hMq.keepBK hb hcs6 an;have hb := hb_;refine WK.done (by kernel_rfl) (kr23 _ _ _ ?_);refine kh22 (zc fun _ kh24 => ?_);refine CW.regionKC 11 12 rfl hmix fun kR25 kr25 hS hdr => ?_;have hch := hch.ta hdr;have hb := hb.keep0 hdr;have hck := hck.keep0 hdr;have hb5 := hb5.k0 hdr;have hNv := hNv.keep0 hdr;have hNq := hNq.keep0 hdr;have hMv := hMv.keep0 hdr;have hMq := hMq.keep0 hdr;have hb_r := hb;have hck_r := hck;have hb5_r := hb5;refine wk 0 rfl hS (fun _ _ => Ev.move rfl) (wk 1 rfl hS (fun _ _ => Ev.nilPtr rfl) (wk 2 rfl hS (fun _ _ => Ev.fieldAddr rfl) (wk 3 rfl hS (fun _ _ => Ev.fieldAddr rfl) (wk 4 rfl hS (fun _ hw' => Ev.load rfl rfl ((hb_r.keep0 hw').at_ rfl)) (wk 5 rfl hS (fun _ _ => Ev.fieldAddr rfl) (wk 6 rfl hS (fun _ hw' => Ev.load rfl rfl ((hb5_r.keep0 hw').at_ rfl)) (wk 7 rfl hS (fun _ _ => Ev.addIn rfl rfl (by omega)) ?_)))))));refine WK.takeT 8 rfl (by kernel_rfl) (by kernel_rfl) (by kernel_rfl) (by kernel_rfl) (fun _ => hS) (fun w' => Ev.nilPtr rfl) rfl ?_;refine WK.takeT 9 rfl (by kernel_rfl) (by kernel_rfl) (by kernel_rfl) (by kernel_rfl) (fun _ => hS) (fun w' => Ev.fieldAddr rfl) rfl ?_;refine wk 10 rfl hS (fun _ _ => Ev.fieldAddr rfl) ?_;refine WK.storeC 11 rfl (by kernel_rfl) (by kernel_rfl) rfl rfl o1 hb (by simp) rfl fun ws7 hb_ hcs7 => ?_;(try simp only [Sx.splice, qt] at hb_)
   have hch := hch.s1 hcs7;have hck := hck.kq hcs7;have hb5 := hb5.kq hcs7;have hNv := hNv.keepBK hb hcs7 an;have hNq := hNq.keepBK hb hcs7 an;have hMv := hMv.keepBK hb hcs7 an;have hMq := hMq.keepBK hb hcs7 an;have hb := hb_;refine WK.done (by kernel_rfl) (kr25 _ _ _ ?_);refine kh24 (zc fun _ kh26 => ?_);refine CW.regionKC 11 12 rfl hmix fun kR27 kr27 hS hdr => ?_;have hch := hch.ta hdr;have hb := hb.keep0 hdr;have hck := hck.keep0 hdr;have hb5 := hb5.k0 hdr;have hNv := hNv.keep0 hdr;have hNq := hNq.keep0 hdr;have hMv := hMv.keep0 hdr;have hMq := hMq.keep0 hdr;have hb_r := hb;have hck_r := hck;have hb5_r := hb5;refine wk 0 rfl hS (fun _ _ => Ev.move rfl) (wk 1 rfl hS (fun _ _ => Ev.nilPtr rfl) (wk 2 rfl hS (fun _ _ => Ev.fieldAddr rfl) (wk 3 rfl hS (fun _ _ => Ev.fieldAddr rfl) (wk 4 rfl hS (fun _ hw' => Ev.load rfl rfl ((hb_r.keep0 hw').at_ rfl)) (wk 5 rfl hS (fun _ _ => Ev.fieldAddr rfl) (wk 6 rfl hS (fun _ hw' => Ev.load rfl rfl ((hb5_r.keep0 hw').at_ rfl)) (wk 7 rfl hS (fun _ _ => Ev.addIn rfl rfl (by omega)) ?_)))))));refine WK.takeT 8 rfl (by kernel_rfl) (by kernel_rfl) (by kernel_rfl) (by kernel_rfl) (fun _ => hS) (fun w' => Ev.nilPtr rfl) rfl ?_;refine WK.takeT 9 rfl (by kernel_rfl) (by kernel_rfl) (by kernel_rfl) (by kernel_rfl) (fun _ => hS) (fun w' => Ev.fieldAddr rfl) rfl ?_;refine wk 10 rfl hS (fun _ _ => Ev.fieldAddr rfl) ?_;refine WK.storeC 11 rfl (by kernel_rfl) (by kernel_rfl) rfl rfl o1 hb (by simp) rfl fun ws8 hb_ hcs8 => ?_;(try simp only [Sx.splice, qt] at hb_);have hch := hch.s1 hcs8;have hck := hck.kq hcs8;have hb5 := hb5.kq hcs8;have hNv := hNv.keepBK hb hcs8 an;have hNq := hNq.keepBK hb hcs8 an;have hMv := hMv.keepBK hb hcs8 an;have hMq := hMq.keepBK hb hcs8 an;have hb := hb_;refine WK.done (by kernel_rfl) (kr27 _ _ _ ?_);refine kh26 (zc fun _ kh28 => ?_);refine CW.regionKC 11 12 rfl hmix fun kR29 kr29 hS hdr => ?_;have hch := hch.ta hdr;have hb := hb.keep0 hdr;have hck := hck.keep0 hdr;have hb5 := hb5.k0 hdr;have hNv := hNv.keep0 hdr;have hNq := hNq.keep0 hdr;have hMv := hMv.keep0 hdr;have hMq := hMq.keep0 hdr;have hb_r := hb;have hck_r := hck;have hb5_r := hb5;refine wk 0 rfl hS (fun _ _ => Ev.move rfl) (wk 1 rfl hS (fun _ _ => Ev.nilPtr rfl) (wk 2 rfl hS (fun _ _ => Ev.fieldAddr rfl) (wk 3 rfl hS (fun _ _ => Ev.fieldAddr rfl) (wk 4 rfl hS (fun _ hw' => Ev.load rfl rfl ((hb_r.keep0 hw').at_ rfl)) (wk 5 rfl hS (fun _ _ => Ev.fieldAddr rfl) (wk 6 rfl hS (fun _ hw' => Ev.load rfl rfl ((hb5_r.keep0 hw').at_ rfl)) (wk 7 rfl hS (fun _ _ => Ev.addIn rfl rfl (by omega)) ?_)))))));refine WK.takeT 8 rfl (by kernel_rfl) (by kernel_rfl) (by kernel_rfl) (by kernel_rfl) (fun _ => hS) (fun w' => Ev.nilPtr rfl) rfl ?_;refine WK.takeT 9 rfl (by kernel_rfl) (by kernel_rfl) (by kernel_rfl) (by kernel_rfl) (fun _ => hS) (fun w' => Ev.fieldAddr rfl) rfl ?_;refine wk 10 rfl hS (fun _ _ => Ev.fieldAddr rfl) ?_;refine WK.storeC 11 rfl (by kernel_rfl) (by kernel_rfl) rfl rfl o1 hb (by simp) rfl fun ws9 hb_ hcs9 => ?_
   (try simp only [Sx.splice, qt] at hb_);have hch := hch.s1 hcs9
   have hck := hck.kq hcs9;have hNv := hNv.keepBK hb hcs9 an;have hNq := hNq.keepBK hb hcs9 an;have hMv := hMv.keepBK hb hcs9 an;have hMq := hMq.keepBK hb hcs9 an;have hb := hb_;refine WK.done (by kernel_rfl) (kr29 _ _ _ ?_);refine kh28 (zc fun _ kh30 => ?_);refine CW.regionKC 15 16 rfl hmix fun kR31 kr31 hS hdr => ?_;have hch := hch.ta hdr;have hb := hb.keep0 hdr;have hck := hck.keep0 hdr;have hNv := hNv.keep0 hdr;have hNq := hNq.keep0 hdr;have hMv := hMv.keep0 hdr;have hMq := hMq.keep0 hdr;have hb_r := hb;have hck_r := hck;refine wk 0 rfl hS (fun _ _ => Ev.move rfl) (wk 1 rfl hS (fun _ _ => Ev.move rfl) (wk 2 rfl hS (fun _ _ => Ev.nilPtr rfl) (wk 3 rfl hS (fun _ _ => Ev.fieldAddr rfl) (wk 4 rfl hS (fun _ hw' => Ev.loadB rfl rfl (hb_r.keep0 hw') rfl rfl) ?_))))
   try simp only [List.drop_succ_cons, List.drop_zero, List.take_succ_cons, List.take_zero]
   refine wk 5 rfl hS (fun _ _ => Ev.move rfl) (wk 6 rfl hS (fun _ _ => Ev.nilPtr rfl) (wk 7 rfl hS (fun _ _ => Ev.fieldAddr rfl) (wk 8 rfl hS (fun _ hw' => Ev.loadB rfl rfl (hck_r.keep0 hw') rfl rfl) ?_)))
   try simp only [List.drop_succ_cons, List.drop_zero, List.take_succ_cons, List.take_zero]
   refine WK.oneCall 9 rfl (by kernel_rfl) hasF83 rfl rfl (Add_dspec _ _ _ _ _ _ _ _ _ hNv hMv (hg.keepI hb0 hch) (ok_i64 hokV) (ok_i64 hokVU)) fun v w6 h' => ?_;obtain ⟨hD, hC⟩ := h';rw [both_ok hokV hokVU] at hD;obtain ⟨rn1, kn1, rfl, hRV⟩ := hD.cells;have hch := hch.ta hC;have hb := hb.keep0 hC;have hck := hck.keep0 hC;have hNq := hNq.keep0 hC;have hMq := hMq.keep0 hC;have hS := hS.trans hC;refine ⟨hS, ?_⟩;refine wk 10 rfl hS (fun _ _ => Ev.move rfl) (wk 11 rfl hS (fun _ _ => Ev.extract rfl rfl) ?_);refine WK.takeT 12 rfl (by kernel_rfl) (by kernel_rfl) (by kernel_rfl) (by kernel_rfl) (fun _ => hS) (fun w' => Ev.extract rfl rfl) rfl ?_;refine WK.takeT 13 rfl (by kernel_rfl) (by kernel_rfl) (by kernel_rfl) (by kernel_rfl) (fun _ => hS) (fun w' => Ev.nilPtr rfl) rfl ?_;refine wk 14 rfl hS (fun _ _ => Ev.fieldAddr rfl) ?_;refine WK.storeB 15 rfl (by kernel_rfl) (by kernel_rfl) rfl rfl rfl ao hb (by simp) rfl fun ws10 hb_ hcs10 => ?_;(try simp only [Sx.splice, qt] at hb_);have hch := hch.s1 hcs10;have hck := hck.kq hcs10;have hNq := hNq.keepBK hb hcs10 an;have hMq := hMq.keepBK hb hcs10 an;have hRV := hRV.keepBK hb hcs10 an;have hb := hb_;refine WK.done (by kernel_rfl) (kr31 _ _ _ ?_);refine kh30 (zc fun _ kh32 => ?_);refine CW.regionKC 15 16 rfl hmix fun kR33 kr33 hS hdr => ?_;have hch := hch.ta hdr;have hb := hb.keep0 hdr;have hck := hck.keep0 hdr;have hNq := hNq.keep0 hdr;have hMq := hMq.keep0 hdr;have hRV := hRV.keep0 hdr;have hb_r := hb;have hck_r := hck;refine wk 0 rfl hS (fun _ _ => Ev.move rfl) (wk 1 rfl hS (fun _ _ => Ev.move rfl) (wk 2 rfl hS (fun _ _ => Ev.nilPtr rfl) (wk 3 rfl hS (fun _ _ => Ev.fieldAddr rfl) (wk 4 rfl hS (fun _ hw' => Ev.loadB rfl rfl (hb_r.keep0 hw') rfl rfl) ?_))))
   try simp only [List.drop_succ_cons, List.drop_zero, List.take_succ_cons, List.take_zero]
   refine wk 5 rfl hS (fun _ _ => Ev.move rfl) (wk 6 rfl hS (fun _ _ => Ev.nilPtr rfl) (wk 7 rfl hS (fun _ _ => Ev.fieldAddr rfl) (wk 8 rfl hS (fun _ hw' => Ev.loadB rfl rfl (hck_r.keep0 hw') rfl rfl) ?_)))
   try simp only [List.drop_succ_cons, List.drop_zero, List.take_succ_cons, List.take_zero]
   refine WK.oneCall 9 rfl (by kernel_rfl) hasF83 rfl rfl (Add_dspec _ _ _ _ _ _ _ _ _ hNq hMq (hg.keepI hb0 hch) (ok_i64 hokQ) (ok_i64 hokQU)) fun v w7 h' => ?_;obtain ⟨hD, hC⟩ := h';rw [both_ok hokQ hokQU] at hD;obtain ⟨rn2, kn2, rfl, hRQ⟩ := hD.cells;have hch := hch.ta hC;have hb := hb.keep0 hC;have hRV := hRV.keep0 hC;have hS := hS.trans hC;refine ⟨hS, ?_⟩;refine wk 10 rfl hS (fun _ _ => Ev.move rfl) (wk 11 rfl hS (fun _ _ => Ev.extract rfl rfl) ?_);refine WK.takeT 12 rfl (by kernel_rfl) (by kernel_rfl) (by kernel_rfl) (by kernel_rfl) (fun _ => hS) (fun w' => Ev.extract rfl rfl) rfl ?_;refine WK.takeT 13 rfl (by kernel_rfl) (by kernel_rfl) (by kernel_rfl) (by kernel_rfl) (fun _ => hS) (fun w' => Ev.nilPtr rfl) rfl ?_;refine wk 14 rfl hS (fun _ _ => Ev.fieldAddr rfl) ?_;refine WK.storeB 15 rfl (by kernel_rfl) (by kernel_rfl) rfl rfl rfl ao hb (by simp) rfl fun ws11 hb_ hcs11 => ?_;(try simp only [Sx.splice, qt] at hb_);have hch := hch.s1 hcs11;have hRV := hRV.keepBK hb hcs11 an;have hRQ := hRQ.keepBK hb hcs11 an;have hb := hb_;refine WK.done (by kernel_rfl) (kr33 _ _ _ ?_);refine kh32 (Sr fun _ kh34 => za rfl (zz (kh34 ?_)));refine zr (zr1 rfl rfl ?_);refine .inr ⟨hsml, rfl, ⟨rn1, rn2, ?_, hRV, hRQ⟩, hch⟩;unfold Sh.merge SP.add;dsimp only;rw [← hlo, ← hhi];exact hb

end

/- Slices against nil; an empty slice that is laid and grows. No condition. -/
section
open Go Sx Wd
section
variable {P : Program} {n : Nat} {D : List Deferred} {s : Sl} {w : World} {ops : Array Oper} {K : KK} {rest : List Oper} {ty : TypeId} {pos : String} {af : Array Edge} {d : Nat} {x y : Operand}
theorem eqGuard_slice (op : BinOp) (t : TypeId) (x y : Operand) (a b : Option Addr) (i j k l : Nat) : (eqGuard op t x y (.slice a i j) (.slice b k l)).run P w = .ok () w := by
  unfold eqGuard; split <;> simp
/-- A slice against nil. -/
theorem Ev.eqlSliceNil {t t' e : TypeId} {sz by_ : Nat} {z : Value} {a : Option Addr} {m c : Nat} [hT : HasT P t (.slice e) sz by_ z] (hx : opnd s x = some (.slice a m c)) (hy : opnd s y = some (.slice none 0 0)) : Ev P s (.binOp .eql t x y t') ty w (.bool a.isNone) w :=
  run_bin hx hy (fun _ _ => eqGuard_slice _ _ _ _ _ _ _ _ _ _) (by
    have := run_eqIn (P := P) (w := w) (t := t) (u := .slice a m c) (v := .slice none 0 0) (r := a.isNone) (fun d => by cases a <;> simp [Op.equalIn, hT.underlying])
    simp only [binOp]
    simp [this])
/-- A drawn region's answer in one slot. -/
theorem Sx.CW.seqMD {A : AQ} {x y : Code} (c : Nat) (b : Bool) (hx : CW P x (thenK (fun D' s' w' => D' = D ∧ w' = w.drew ∧ Subs ((c, .bool b) :: s) s') A) n D s w) (hy : Chg [] w w.drew → CW P y A n D ((c, .bool b) :: s) w.drew) : CW P (.seq x y) A n D s w :=
  CW.seqJ _ hx fun D' s' w' ⟨h1, h2, h3⟩ => by subst h1; subst h2; exact (hy (Chg.drew _ _)).sub h3
/-- An empty slice of one's own. -/
theorem WL.emptySlice {t e : TypeId} {de : TypeDesc} {sz by_ es be : Nat} {z ze : Value} {f : Nat → Value} {lo : Nat} {X : List Nat} [hT : HasT P t (.slice e) sz by_ z] [hE : HasT P e de es be ze] (hlo : lo ≤ w.heap.size) (hX : ∀ b ∈ X, b < w.heap.size) (hd : Nat.blt d n = true)
    (k : ∀ v w', GR w' e f lo X v [] → Chg [] w w' → WL P ops K rest n D ((d, v) :: s) w') : WL P ops K (⟨some d, .buildSlice t 0 #[], ty, pos, af, none⟩ :: rest) n D s w := by
  refine WL.ev (v := .slice (some ⟨w.heap.size, 0, none⟩) 0 0) (w' := w.alloc (.cells #[] e)) (fun ρ d' pos af g hρ => ?_) hd (k _ _ ?_ (new_alloc w _).chg)
  · simp [execOp, Instr.buildSlice, hT.underlying, hE.sizeOf, Instr.fill, newRow]
    rw [show Array.range 0 = #[] from by decide, Array.map_empty]
  · refine ⟨⟨by simp, .inr ⟨w.heap.size, 0, #[], rfl, Nat.zero_le _, ?_, Nat.le_refl _, by unfold maxLen; omega, by simp, by simp⟩⟩, fun b hb => ?_⟩
    · exact (new_alloc w (.cells #[] e)).at_
    · cases hb
      exact ⟨hlo, fun hm => Nat.lt_irrefl _ (hX _ hm)⟩
end
end

/- Shards: what is refused, Sum, Mean, the ends. No condition. -/
section
open Go Sx Wd Fl

/-- What a shard refuses. -/
def shE (s : SP) (mode pn pi : Int) : Int := if ¬ ((0 ≤ mode ∧ mode ≤ 4) ∧ mayQ pn pi) then 1 else refE s pn pi
/-- What Sum answers. -/
def sumShR (S : Sh) (mode pn pi : Int) (b : Nat) (e : Int) : Prop :=
  (shE S.s mode pn pi ≠ 0 ∧ b = 0 ∧ e = shE S.s mode pn pi) ∨ (shE S.s mode pn pi = 0 ∧ ((∃ x, verdP S.s pn pi = .some x ∧ b = x ∧ e = 0) ∨ (verdP S.s pn pi = .none ∧
    ((S.V.m = 0 ∧ b = noughtP S.s mode ∧ e = 0) ∨ (S.V.m ≠ 0 ∧ RoundR (.some S.V) mode b e)))))
theorem verd_cases (s : SP) (pn pi : Int) : (∃ x, verdP s pn pi = .some x ∧ (verdP s pn pi).isSome = true ∧ (verdP s pn pi).getD 0 = x) ∨ (verdP s pn pi = .none ∧ (verdP s pn pi).isSome = false) := by
  cases h : verdP s pn pi with
  | none => exact .inr ⟨rfl, rfl⟩
  | some x => exact .inl ⟨x, rfl, rfl, rfl⟩
theorem sgD_nz {d : Dy} : sgD d.neg d.m = 0 ↔ d.m = 0 := sgD_zero

theorem refusedSh_spec (b : Nat) (S : Sh) (mode pn pi : Int) (w : World) (hS : ShM 109 w b S) (hwf : S.wf) (hg : GW w) : Ret Tryz.prog 91 [.pointer (some ⟨b, 0, none⟩), .int .i64 mode, .agg [.int .i64 pn, .int .i64 pi].toArray] w fun u w' => u = .int .i64 (shE S.s mode pn pi) ∧ Chg [] w w' := by
 obtain ⟨rv, rq, hb, hNv, hNq⟩ := hS;obtain ⟨hle, hokV, hokQ, hloS, hhiS⟩ := hwf;obtain ⟨hs1, hs2, hs3, hs4, hs5, hs6⟩ := hle;have hch : Chg [] w w := Chg.refl _ _;have hg0 := hg;refine zE3 Tryz.func91 rfl ?_;refine Sr fun _ kh1 => ?_;refine zBh rfl rfl rfl hch fun b5 wm5 hb5 hcm5 hge5 hgehch5 hch => ?_;have hneb5 : b ≠ b5 := by have := hb.lt; omega
 have hb := hb.keep0 hcm5;refine za rfl (zz (kh1 (zc fun _ kh3 => ?_)));refine CW.block ?_;refine CW.seqMC 7 (decide (¬ ((0 ≤ mode ∧ mode ≤ 4) ∧ mayQ pn pi))) ?_ ?_
 ·intro hcM;refine zR fun _ kr4 => ?_;refine zm rfl ?_;refine WL.ev (Ev.lss rfl rfl) rfl ?_;refine zm rfl ?_;refine zb ?_ ?_<;>intro hg1<;>try simp only [qs] at hg1
  ·refine zv rfl (zv rfl (zt rfl rfl (zm rfl (zv rfl (zv rfl (zv rfl (zt rfl rfl (za rfl ?_))))))));refine WL.nil (kr4 _ _ _ ?_);refine ⟨rfl, hcM, Subs.consB rfl ?_ ?_⟩
   ·first | (simp_all; done) | (simp; omega) | (refine decide_eq_decide.2 ?_; omega) | (cases hdm : decide (mayQ pn pi) <;> simp_all <;> omega)
   ·exact SMg
  ·refine zw rfl (zm rfl (zw rfl ?_));refine WL.ev (Ev.gtr rfl rfl) rfl ?_
   refine ze rfl rfl (zm rfl ?_);refine zb ?_ ?_<;>intro hg2<;>try simp only [qs] at hg2
   ·refine zv rfl (zv rfl (zv rfl (zt rfl rfl (za rfl ?_))));refine WL.nil (kr4 _ _ _ ?_);refine ⟨rfl, hcM, Subs.consB rfl ?_ ?_⟩
    ·first | (simp_all; done) | (simp; omega) | (refine decide_eq_decide.2 ?_; omega) | (cases hdm : decide (mayQ pn pi) <;> simp_all <;> omega)
    ·exact SMg
   ·refine zw rfl (zg hb5 rfl (zw rfl ?_));refine WL.call hasF99 rfl rfl (May_spec pn pi _) fun v w1 h' => ?_
    obtain ⟨rfl, hC⟩ := h';have hcM := hcM.ta hC;refine zw rfl ?_;refine WL.ev (Ev.not rfl) rfl ?_;refine ze rfl rfl (za rfl ?_);refine WL.nil (kr4 _ _ _ ?_);refine ⟨rfl, hcM, Subs.consB rfl ?_ ?_⟩
    ·first | (simp_all; done) | (simp; omega) | (refine decide_eq_decide.2 ?_; omega) | (cases hdm : decide (mayQ pn pi) <;> simp_all <;> omega)
    ·exact SMg
 ·intro wM hcM;have hch := hch.ta hcM;have hb := hb.keep0 hcM;have hb5 := hb5.k0 hcM;refine zy rfl ?_ ?_<;>intro hc3<;>try simp only [qs] at hc3
  ·have hq : ¬ ((0 ≤ mode ∧ mode ≤ 4) ∧ mayQ pn pi) := hc3
   refine Sr fun _ kh5 => za rfl (zz (kh5 ?_));refine zr (zr1 rfl rfl ?_);refine ⟨?_, hch⟩;rw [show shE S.s mode pn pi = 1 from if_pos hq]
  ·have hq : ¬ ¬ ((0 ≤ mode ∧ mode ≤ 4) ∧ mayQ pn pi) := fun z => z hc3
   have he : shE S.s mode pn pi = refE S.s pn pi := if_neg hq;rw [he];refine CW.seqM 19 (decide (0 < S.s.na ∧ pn = 2)) ?_ ?_
   ·refine zR fun _ kr7 => ?_;refine zm rfl ?_;refine WL.ev (Ev.nilPtr rfl) rfl ?_;refine zf rfl (zf rfl (zl hb rfl rfl ?_));refine WL.ev (Ev.gtr rfl rfl) rfl ?_;refine zm rfl ?_;refine zb ?_ ?_<;>intro hg4<;>try simp only [qs] at hg4
    ·refine zw rfl (zf rfl (zw rfl (zl hb5 rfl rfl (zw rfl (zq rfl rfl (zt rfl rfl (za rfl ?_)))))));refine WL.nil (kr7 _ _ _ ?_);refine ⟨rfl, rfl, Subs.consB rfl ?_ ?_⟩
     ·first | (simp_all; done) | (simp; omega) | (refine decide_eq_decide.2 ?_; omega)
     ·exact SMg
    ·refine zv rfl (zv rfl (zv rfl (ze rfl rfl (za rfl ?_))));refine WL.nil (kr7 _ _ _ ?_);refine ⟨rfl, rfl, Subs.consB rfl ?_ ?_⟩
     ·first | (simp_all; done) | (simp; omega) | (refine decide_eq_decide.2 ?_; omega)
     ·exact SMg
   ·refine zy rfl ?_ ?_<;>intro hc5<;>try simp only [qs] at hc5
    ·have h1 : 0 < S.s.na ∧ pn = 2 := hc5
     refine Sr fun _ kh8 => za rfl (zz (kh8 ?_));refine zr (zr1 rfl rfl ?_);refine ⟨?_, hch⟩;rw [show refE S.s pn pi = 60 from if_pos h1]
    ·have h1 : ¬ (0 < S.s.na ∧ pn = 2) := hc5
     refine CW.seqMD 31 (decide (0 < S.s.up + S.s.dn ∧ pi = 2)) ?_ ?_
     ·refine CW.regionSC hmix (by kernel_rfl) fun kR10 kr10 hdr => ?_;have hb := hb.keep0 hdr;have hb5 := hb5.k0 hdr;refine ym rfl ?_;refine WS.ev (Ev.nilPtr rfl) rfl ?_;refine WS.ev (Ev.fieldAddr rfl) rfl ?_;refine WS.ev (Ev.fieldAddr rfl) rfl ?_;refine WS.ev (Ev.load rfl rfl (hb.at_ rfl)) rfl ?_;refine ym rfl ?_;refine WS.ev (Ev.nilPtr rfl) rfl ?_;refine WS.ev (Ev.fieldAddr rfl) rfl ?_;refine WS.ev (Ev.fieldAddr rfl) rfl ?_;refine WS.ev (Ev.load rfl rfl (hb.at_ rfl)) rfl ?_
      first | refine WS.ev (Ev.addIn rfl rfl (by omega)) rfl ?_ | refine WS.ev (Ev.add rfl rfl) rfl ?_
      refine WS.ev (Ev.gtr rfl rfl) rfl ?_;refine ym rfl ?_;refine WS.boolCase (fun hg6 => ?_) (fun hg6 => ?_)
      ·(try simp only [qs] at hg6);refine yw rfl ?_
       refine WS.ev (Ev.fieldAddr rfl) rfl ?_;refine yw rfl ?_;refine WS.ev (Ev.load rfl rfl (hb5.at_ rfl)) rfl ?_;refine yw rfl ?_;refine WS.ev (Ev.eql rfl rfl) rfl ?_;refine yt rfl rfl (ya rfl ?_);refine WS.nil (kr10 _ _ ?_);refine ⟨rfl, rfl, Subs.consB rfl ?_ ?_⟩
       ·first | (simp_all; done) | (simp; omega) | (refine decide_eq_decide.2 ?_; omega)
       ·exact SMg
      ·(try simp only [qs] at hg6);refine yv rfl (yv rfl (yv rfl (ye rfl rfl (ya rfl ?_))));refine WS.nil (kr10 _ _ ?_);refine ⟨rfl, rfl, Subs.consB rfl ?_ ?_⟩
       ·first | (simp_all; done) | (simp; omega) | (refine decide_eq_decide.2 ?_; omega)
       ·exact SMg
     ·intro hdr;have hch := hch.ta hdr;refine zy rfl ?_ ?_<;>intro hc7<;>try simp only [qs] at hc7
      ·have h2 : 0 < S.s.up + S.s.dn ∧ pi = 2 := hc7
       refine Sr fun _ kh11 => za rfl (zz (kh11 ?_));refine zr (zr1 rfl rfl ?_);refine ⟨?_, hch⟩;rw [show refE S.s pn pi = 61 from (if_neg h1).trans (if_pos h2)]
      ·have h2 : ¬ (0 < S.s.up + S.s.dn ∧ pi = 2) := hc7
       refine zkk ?_;refine kh3 (Sr fun _ kh13 => za rfl (zz (kh13 ?_)));refine zr (zr1 rfl rfl ?_);refine ⟨?_, hch⟩;rw [he, show refE S.s pn pi = 0 from (if_neg h1).trans (if_neg h2)]

theorem shSum_spec (b : Nat) (S : Sh) (mode pn pi : Int) (w : World) (hS : ShM 109 w b S) (hwf : S.wf) (hg : GW w) : Ret Tryz.prog 27 [.pointer (some ⟨b, 0, none⟩), .int .i64 mode, .agg [.int .i64 pn, .int .i64 pi].toArray] w fun u w' => (∃ x e, u = .tuple [.float .f64 x, .int .i64 e].toArray ∧ sumShR S mode pn pi x e) ∧ Chg [] w w' := by
 obtain ⟨rv, rq, hb, hNv, hNq⟩ := hS;obtain ⟨hle, hokV, hokQ, hloS, hhiS⟩ := hwf;obtain ⟨hs1, hs2, hs3, hs4, hs5, hs6⟩ := hle;have hch : Chg [] w w := Chg.refl _ _;have hg0 := hg;refine zE3 Tryz.func27 rfl ?_;refine Sr fun _ kh1 => ?_;refine zBh rfl rfl rfl hch fun b5 wm5 hb5 hcm5 hge5 hgehch5 hch => ?_;have hNv := hNv.keep0 hcm5;have hNq := hNq.keep0 hcm5;have hneb5 : b ≠ b5 := by have := hb.lt; omega
 have hb := hb.keep0 hcm5;refine za rfl (za rfl (zz (kh1 (zc fun _ kh3 => Sr fun _ kh4 => zm rfl (zm rfl (zg hb5 rfl ?_))))));refine WL.call hasF91 rfl rfl (refusedSh_spec b S mode pn pi _ ⟨rv, rq, hb, hNv, hNq⟩ ⟨⟨hs1, hs2, hs3, hs4, hs5, hs6⟩, hokV, hokQ, hloS, hhiS⟩ (hg0.keep0 hch)) fun v w1 h' => ?_;obtain ⟨rfl, hC⟩ := h';have hch := hch.ta hC;have hb := hb.keep0 hC;have hb5 := hb5.k0 hC;have hNv := hNv.keep0 hC;refine za rfl (zz (kh4 (Sr fun _ kh6 => zm rfl ?_)));refine WL.ev (Ev.neq rfl rfl) rfl ?_;refine zz (kh6 ?_);refine zy rfl ?_ ?_<;>intro hc1<;>try simp only [qs] at hc1
 ·have h0 : shE S.s mode pn pi ≠ 0 := hc1
  refine Sr fun _ kh8 => zm rfl (za rfl (za rfl (zz (kh8 ?_))));refine zr (zr2 rfl rfl rfl ?_);refine ⟨⟨_, _, rfl, ?_⟩, hch⟩;exact .inl ⟨h0, rfl, rfl⟩
 ·have h0 : shE S.s mode pn pi = 0 := by have := hc1; omega
  refine zkk ?_;refine kh3 (zc fun _ kh10 => zc fun _ kh11 => ?_);refine CW.regionHC 11 rfl hmix fun kR12 kr12 hS hdr => ?_;have hch := hch.ta hdr;have hb := hb.keep0 hdr;have hb5 := hb5.k0 hdr;have hNv := hNv.keep0 hdr;have hb_r := hb;have hb5_r := hb5;refine wh 0 rfl hS (fun _ _ => Ev.move rfl) (wh 1 rfl hS (fun _ _ => Ev.nilPtr rfl) (wh 2 rfl hS (fun _ _ => Ev.fieldAddr rfl) (wh 3 rfl hS (fun _ hw' => Ev.loadB rfl rfl (hb_r.keep0 hw') rfl rfl) ?_)))
  try simp only [List.drop_succ_cons, List.drop_zero, List.take_succ_cons, List.take_zero]
  refine wh 4 rfl hS (fun _ hw' => Ev.loadA rfl rfl (hb5_r.keep0 hw') rfl) ?_;refine WH.oneCall 5 rfl (by kernel_rfl) hasF92 rfl rfl (Verdict_spec S.s pn pi _ ⟨by omega, by omega, by omega, by omega, by omega, by omega⟩) fun v w2 h' => ?_;obtain ⟨rfl, hC⟩ := h';have hvc := verd_cases S.s pn pi;have hch := hch.ta hC;have hb := hb.keep0 hC;have hNv := hNv.keep0 hC;have hS := hS.trans hC;refine ⟨hS, ?_⟩;refine wh 6 rfl hS (fun _ _ => Ev.move rfl) (wh 7 rfl hS (fun _ _ => Ev.extract rfl rfl) (wh 8 rfl hS (fun _ _ => Ev.extract rfl rfl) (wh 9 rfl hS (fun _ _ => Ev.assign rfl) (wh 10 rfl hS (fun _ _ => Ev.assign rfl) ?_))));refine WH.done (by kernel_rfl) (kr12 _ _ _ ?_);refine kh11 (Sr fun _ kh13 => zm rfl (zz (kh13 ?_)));refine zy rfl ?_ ?_<;>intro hc2<;>try simp only [qs] at hc2
  ·obtain ⟨x, hv1, hv2, hv3⟩ : ∃ x, verdP S.s pn pi = .some x ∧ (verdP S.s pn pi).isSome = true ∧ (verdP S.s pn pi).getD 0 = x := hvc.resolve_right (fun q => by have := hc2; rw [q.2] at this; exact Bool.false_ne_true this);rw [hv3]
   refine Sr fun _ kh15 => zm rfl (za rfl (za rfl (zz (kh15 ?_))));refine zr (zr2 rfl rfl rfl ?_);refine ⟨⟨_, _, rfl, ?_⟩, hch⟩;exact .inr ⟨h0, .inl ⟨x, hv1, rfl, rfl⟩⟩
  ·have hv : verdP S.s pn pi = .none := by
    rcases hvc with ⟨_, _, q2, _⟩ | q
    · have := hc2; rw [q2] at this; exact absurd this (by decide)
    · exact q.1
   refine zkk ?_;refine kh10 (zc fun _ kh17 => Sr fun _ kh18 => zm rfl ?_);refine WL.ev (Ev.nilPtr rfl) rfl ?_;refine zf rfl ?_;refine WL.ev (Ev.loadB rfl rfl hb rfl rfl) rfl ?_
   try simp only [List.drop_succ_cons, List.drop_zero, List.take_succ_cons, List.take_zero]
   refine WL.call hasF93 rfl rfl (Sign_dspec _ _ _ _ _ hNv) fun v w3 h' => ?_;obtain ⟨rfl, hC⟩ := h';rw [val_wd];have hch := hch.ta hC;have hb := hb.keep0 hC;have hNv := hNv.keep0 hC;refine zq rfl rfl (zz (kh18 ?_));refine zy rfl ?_ ?_<;>intro hc3<;>try simp only [qs] at hc3
   ·have hm0 : S.V.m = 0 := sgD_nz.1 hc3
    refine Sr fun _ kh20 => zm rfl ?_;refine WL.ev (Ev.nilPtr rfl) rfl ?_;refine zf rfl ?_;refine WL.ev (Ev.loadB rfl rfl hb rfl rfl) rfl ?_
    try simp only [List.drop_succ_cons, List.drop_zero, List.take_succ_cons, List.take_zero]
    refine zm rfl ?_;refine WL.call hasF94 rfl rfl (Nought_spec S.s mode _ ⟨by omega, by omega, by omega, by omega, by omega, by omega⟩) fun v w4 h' => ?_;obtain ⟨rfl, hC⟩ := h';have hch := hch.ta hC;refine za rfl (za rfl (zz (kh20 ?_)));refine zr (zr2 rfl rfl rfl ?_);refine ⟨⟨_, _, rfl, ?_⟩, hch⟩;exact .inr ⟨h0, .inr ⟨hv, .inl ⟨hm0, rfl, rfl⟩⟩⟩
   ·have hm0 : S.V.m ≠ 0 := fun q => hc3 (sgD_nz.2 q);refine zkk ?_
    refine kh17 (Sr fun _ kh22 => zm rfl ?_);refine WL.ev (Ev.nilPtr rfl) rfl ?_;refine zf rfl ?_;refine WL.ev (Ev.loadB rfl rfl hb rfl rfl) rfl ?_
    try simp only [List.drop_succ_cons, List.drop_zero, List.take_succ_cons, List.take_zero]
    refine zm rfl ?_;refine WL.call hasF95 rfl rfl (Round_dspec _ _ _ _ mode _ hNv (hg0.keep0 hch) (ok_i64 hokV)) fun v w5 h' => ?_;obtain ⟨⟨xb, xe, rfl, hR⟩, hC⟩ := h';rw [val_wd, formD_self hokV] at hR;have hch := hch.ta hC;refine zx rfl rfl (zx rfl rfl (za rfl (za rfl (zz (kh22 ?_)))));refine zr (zr2 rfl rfl rfl ?_);refine ⟨⟨_, _, rfl, ?_⟩, hch⟩;exact .inr ⟨h0, .inr ⟨hv, .inr ⟨hm0, hR⟩⟩⟩

end

/- Package moment: times, by, Of; Shards: Var. No condition. -/
section
open Go Sx Wd Fl

theorem mulD_ok {x y d : Dy} (h : mulD x y = .some d) : d.ok := by
  unfold mulD at h; split at h
  · cases h
  · exact formD_ok h
/-- What is put where an answer may be none, and the error. -/
theorem DR.cellsK {w : World} {u : Value} {x : Option Dy} (h : DR w u x) : ∃ (r : Value) (k : Int), u = .tuple [.agg [.bool (x.getD Dy.zero).neg, r, .int .i64 (x.getD Dy.zero).e].toArray, .int .i64 k].toArray ∧ NU w r (wd (x.getD Dy.zero).m) ∧ ((k = 0 ∧ ∃ d, x = .some d) ∨ (k = 2 ∧ x = .none)) := by
  rcases h with ⟨r, d, rfl, rfl, hN⟩ | ⟨rfl, rfl⟩
  · exact ⟨r, 0, rfl, hN, .inl ⟨rfl, d, rfl⟩⟩
  · exact ⟨_, 2, rfl, by rw [show (Option.none.getD Dy.zero).m = 0 from rfl, wd_zero]; exact NU.nil, .inr ⟨rfl, rfl⟩⟩
end

/- Package moment: Of; Shards: Var. No condition. -/
section
open Go Sx Wd Fl

def carSh (s : SP) (pn pi : Int) : Prop := (0 < s.na ∧ pn = 0) ∨ (0 < s.up + s.dn ∧ pi = 0)
instance (s : SP) (pn pi : Int) : Decidable (carSh s pn pi) := by unfold carSh; exact inferInstance
end

/- Equality of numbers' parts. No condition. -/
section
open Go Sx

theorem fieldsOf_of {P : Program} {t : TypeId} {fs : Array Field} (h : P.underlying t = some (.struct fs)) : P.fieldsOf t = fs := by unfold Program.fieldsOf; rw [h]
theorem run_eqParts (n1 n2 : Bool) (c1 c2 e1 e2 f1 f2 : Int) (w : World) : (Op.equalIn 10000 276 (.agg [.bool n1, .int .i64 c1, .int .i64 e1, .int .u64 f1].toArray) (.agg [.bool n2, .int .i64 c2, .int .i64 e2, .int .u64 f2].toArray)).run Tryz.prog w = .ok (n1 == n2 && (c1 == c2 && (e1 == e2 && f1 == f2))) w := by
  have hu := Tryz.underlying276
  have hf := fieldsOf_of hu
  have ht : Tryz.prog.underlying 276 = some (.struct (Program.fieldsOf Tryz.prog 276)) := by rw [hf]; exact hu
  rw [run_equalIn_struct w 9999 _ _ _ ht (by kernel_rfl), hf]
  have b1 : (isAgg 4).run Tryz.prog w = .ok false w := (inferInstance : HasT Tryz.prog 4 _ _ _ _).isAgg
  have b2 : (isAgg 3).run Tryz.prog w = .ok false w := (inferInstance : HasT Tryz.prog 3 _ _ _ _).isAgg
  have b3 : (isAgg 112).run Tryz.prog w = .ok false w := (inferInstance : HasT Tryz.prog 112 _ _ _ _).isAgg
  have q1 : ∀ a b : Bool, (Op.equalIn 9999 4 (.bool a) (.bool b)).run Tryz.prog w = .ok (a == b) w := fun a b => run_equalIn_bool' w 9998 _ a b Tryz.underlying4
  have q2 : ∀ a b : Int, (Op.equalIn 9999 3 (.int .i64 a) (.int .i64 b)).run Tryz.prog w = .ok (a == b) w := fun a b => run_equalIn_int w 9998 _ .i64 .i64 a b Tryz.underlying3
  have q3 : ∀ a b : Int, (Op.equalIn 9999 112 (.int .u64 a) (.int .u64 b)).run Tryz.prog w = .ok (a == b) w := fun a b => run_equalIn_int w 9998 _ .u64 .u64 a b Tryz.underlying112
  cases h1 : (n1 == n2) <;> cases h2 : (c1 == c2) <;> cases h3 : (e1 == e2) <;> cases h4 : (f1 == f2) <;> simp [Op.eqFields, part, b1, b2, b3, q1, q2, q3, h1, h2, h3, h4]
theorem Ev.eqlParts {s : Sl} {w : World} {ty t' : TypeId} {x y : Operand} {n1 n2 : Bool} {c1 c2 e1 e2 f1 f2 : Int} (hx : opnd s x = some (.agg [.bool n1, .int .i64 c1, .int .i64 e1, .int .u64 f1].toArray)) (hy : opnd s y = some (.agg [.bool n2, .int .i64 c2, .int .i64 e2, .int .u64 f2].toArray)) :
    Ev Tryz.prog s (.binOp .eql 276 x y t') ty w (.bool (n1 == n2 && (c1 == c2 && (e1 == e2 && f1 == f2)))) w :=
  run_bin hx hy (fun _ _ => run_eqGuard_agg _ _ _ _ _ _ _ (by kernel_rfl)) (by rw [run_eql_struct, run_eqParts]; rfl)
end

/- Package dyad: Of. No condition. -/
section
open Go Sx Wd Fl

theorem parts_eq (n b : Bool) (c f : Nat) (e : Int) : (n == b && ((c : Int) == 0 && (e == e && (f : Int) == 0))) = ((n == b) && decide (c = 0 ∧ f = 0)) := by
  have h1 : ((c : Int) == 0) = decide (c = 0) := by rw [Bool.eq_iff_iff]; simp
  have h2 : ((f : Int) == 0) = decide (f = 0) := by rw [Bool.eq_iff_iff]; simp
  rw [h1, h2, beq_self_eq_true, Bool.true_and, Bool.decide_and]
theorem cls0_frac {x : Nat} : (splitP x).cls = 0 → (splitP x).frac = 0 := by
  unfold splitP
  by_cases a : x / 4503599627370496 % 2048 = 2047 ∧ x % 4503599627370496 ≠ 0
  · rw [if_pos a]; simp
  · rw [if_neg a]
    by_cases b : x / 4503599627370496 % 2048 = 2047
    · rw [if_pos b]; simp
    · rw [if_neg b]
      by_cases d : 0 < x / 4503599627370496 % 2048
      · rw [if_pos d]; simp
      · rw [if_neg d]
        by_cases f : 0 < x % 4503599627370496
        · rw [if_pos f]; simp
        · rw [if_neg f]; simp
theorem splitP_frac (x : Nat) : (splitP x).frac < 9007199254740992 := by
  unfold splitP
  split
  · simp
  · split
    · simp
    · split
      · dsimp only; omega
      · split
        · dsimp only; omega
        · simp
theorem splitP_range (x : Nat) : -5000 ≤ (splitP x).exp ∧ (splitP x).exp ≤ 5000 := by
  unfold splitP
  split
  · simp
  · split
    · simp
    · split
      · dsimp only; omega
      · split
        · dsimp only; omega
        · simp

theorem dOf_spec (x : Nat) (w : World) (hx : x < 18446744073709551616) (hg : GW w) : Ret Tryz.prog 127 [.float .f64 x] w fun u w' => (((splitP x).cls ≤ 2 ∧ ∃ r, u = .tuple [.agg [.bool (sumD (fvI x)).neg, r, .int .i64 (sumD (fvI x)).e].toArray, .int .i64 0].toArray ∧ NU w' r (wd (sumD (fvI x)).m)) ∨ (¬ (splitP x).cls ≤ 2 ∧ u = .tuple [.agg [.bool false, .slice none 0 0, .int .i64 0].toArray, .int .i64 30].toArray)) ∧ Chg [] w w' := by
 have hch : Chg [] w w := Chg.refl _ _;refine zE1 Tryz.func127 rfl ?_;refine Sr fun _ kh1 => ?_;refine zAh rfl rfl hch fun b2 wm2 hb2 hcm2 hge2 hgehch2 hch => ?_;refine za rfl (zz (kh1 (Sr fun _ kh3 => zm rfl ?_)));refine WL.call hasF212 rfl rfl (Split_spec x _ hx) fun v w1 h' => ?_;obtain ⟨rfl, hC⟩ := h';have hch := hch.ta hC;have hb2 := hb2.k0 hC;refine WL.allocB (l := [.bool false, .int .i64 0, .int .i64 0, .int .u64 0]) rfl rfl fun b4 wm4 hb4 hcm4 hge4 => ?_;have hgehch4 := Nat.le_trans hch.size hge4;have hch := hch.ta hcm4;have hneb24 := zdd hb2.lt hge4;have hb2 := hb2.k0 hcm4;refine zss rfl rfl ao hb4 rfl fun ws1 hb4_ hcs1 => ?_;(try simp only [Sx.splice, qt] at hb4_);have hch := hch.s1 hcs1;have hb2 := hb2.kq hcs1;have hb4 := hb4_;refine zz (kh3 (Sr fun _ kh5 => zf rfl (zl hb4 rfl rfl ?_)));refine WL.ev (Ev.build (vs := _) (cs := [_, _, _, _]) rfl rfl) rfl ?_;refine WL.allocB (l := [.bool false, .int .i64 0, .int .i64 0, .int .u64 0]) rfl rfl fun b5 wm5 hb5 hcm5 hge5 => ?_;have hgehch5 := Nat.le_trans hch.size hge5;have hch := hch.ta hcm5;have hneb25 := zdd hb2.lt hge5;have hb2 := hb2.k0 hcm5;have hneb45 := zdd hb4.lt hge5;have hb4 := hb4.k0 hcm5;refine zss rfl rfl ao hb5 rfl fun ws2 hb5_ hcs2 => ?_;(try simp only [Sx.splice, qt] at hb5_);have hch := hch.s1 hcs2;have hb2 := hb2.kq hcs2;have hb4 := hb4.kq hcs2;have hb5 := hb5_;refine zz (kh5 (Sr fun _ kh7 => zg hb5 rfl ?_));refine WL.allocB (l := [.bool false, .int .i64 0, .int .i64 0, .int .u64 0]) rfl rfl fun b6 wm6 hb6 hcm6 hge6 => ?_;have hgehch6 := Nat.le_trans hch.size hge6;have hch := hch.ta hcm6;have hneb26 := zdd hb2.lt hge6;have hb2 := hb2.k0 hcm6;have hneb46 := zdd hb4.lt hge6;have hb4 := hb4.k0 hcm6;have hneb56 := zdd hb5.lt hge6;have hb5 := hb5.k0 hcm6;refine zss rfl rfl ao hb6 rfl fun ws3 hb6_ hcs3 => ?_;(try simp only [Sx.splice, qt] at hb6_);have hch := hch.s1 hcs3;have hb2 := hb2.kq hcs3;have hb4 := hb4.kq hcs3;have hb5 := hb5.kq hcs3;have hb6 := hb6_;refine zz (kh7 (Sr fun _ kh9 => zf rfl ?_));refine WL.storeC rfl rfl o1 hb6 (by simp) rfl fun ws4 hb6_ hcs4 => ?_;(try simp only [Sx.splice, qt] at hb6_);have hch := hch.s1 hcs4;have hb2 := hb2.kq hcs4;have hb4 := hb4.kq hcs4;have hb5 := hb5.kq hcs4;have hb6 := hb6_;refine zz (kh9 (zc fun _ kh11 => ?_));refine CW.block ?_;refine CW.seqM 14 (decide ((splitP x).cls = 3 ∨ (splitP x).cls = 4)) ?_ ?_
 ·refine zR fun _ kr12 => ?_;refine zf rfl (zl hb4 rfl rfl (zq rfl rfl (zm rfl ?_)));refine zb ?_ ?_<;>intro hg1<;>try simp only [qs] at hg1
  ·refine zv rfl (zv rfl (zv rfl (zt rfl rfl (za rfl ?_))));refine WL.nil (kr12 _ _ _ ?_);refine ⟨rfl, rfl, Subs.consB rfl ?_ ?_⟩
   ·first | (simp; omega) | (simp_all; done) | (refine decide_eq_decide.2 ?_; omega)
   ·exact SMg
  ·refine zw rfl (zf rfl (zw rfl (zl hb4 rfl rfl (zw rfl (zq rfl rfl (ze rfl rfl (za rfl ?_)))))));refine WL.nil (kr12 _ _ _ ?_);refine ⟨rfl, rfl, Subs.consB rfl ?_ ?_⟩
   ·first | (simp; omega) | (simp_all; done) | (refine decide_eq_decide.2 ?_; omega)
   ·exact SMg
 ·refine zy rfl ?_ ?_<;>intro hc2<;>try simp only [qs] at hc2
  ·have hodd : ¬ (splitP x).cls ≤ 2 := by have := hc2; omega
   refine Sr fun _ kh13 => ?_;refine WL.ev (Ev.build (vs := _) (cs := [_, _, _]) rfl rfl) rfl ?_;refine zss rfl rfl ao hb2 rfl fun ws5 hb2_ hcs5 => ?_;(try simp only [Sx.splice, qt] at hb2_);have hch := hch.s1 hcs5;have hb2 := hb2_;refine za rfl (zz (kh13 ?_));refine zr (bodyA.retR2 rfl (RVal.cell rfl (hb2.varA rfl rfl)) (RVal.tmp rfl) ?_);exact ⟨.inr ⟨hodd, rfl⟩, hch⟩
  ·have hfx : (splitP x).cls ≤ 2 := by have := hc2; have := splitP_cls x; omega
   refine CW.seqM 24 (decide ((splitP x).cls = 0 ∧ (splitP x).frac = 0)) ?_ ?_
   ·refine zR fun _ kr15 => ?_;refine zg hb4 rfl (zg hb5 rfl ?_);refine WL.ev (Ev.eqlParts rfl rfl) rfl ?_;rw [parts_eq];refine zm rfl ?_;refine zb ?_ ?_<;>intro hg3<;>try simp only [qs] at hg3
    ·refine zv rfl (zv rfl (zv rfl (zt rfl rfl (za rfl ?_))));refine WL.nil (kr15 _ _ _ ?_);refine ⟨rfl, rfl, Subs.consB rfl ?_ ?_⟩
     ·generalize (splitP x).neg = nn at *
      by_cases hP : (splitP x).cls = 0 ∧ (splitP x).frac = 0
      · (try rw [decide_eq_true hP] at *) <;> cases nn <;> simp_all
      · (try rw [decide_eq_false hP] at *) <;> cases nn <;> simp_all
     ·exact SMg
    ·refine zw rfl (zg hb4 rfl (zw rfl (zg hb6 rfl (zw rfl ?_))));refine WL.ev (Ev.eqlParts rfl rfl) rfl ?_
     rw [parts_eq];refine ze rfl rfl (za rfl ?_);refine WL.nil (kr15 _ _ _ ?_);refine ⟨rfl, rfl, Subs.consB rfl ?_ ?_⟩
     ·generalize (splitP x).neg = nn at *
      by_cases hP : (splitP x).cls = 0 ∧ (splitP x).frac = 0
      · (try rw [decide_eq_true hP] at *) <;> cases nn <;> simp_all
      · (try rw [decide_eq_false hP] at *) <;> cases nn <;> simp_all
     ·exact SMg
   ·refine zy rfl ?_ ?_<;>intro hc4<;>try simp only [qs] at hc4
    ·have hq : (splitP x).cls = 0 ∧ (splitP x).frac = 0 := hc4
     refine Sr fun _ kh16 => ?_;refine WL.ev (Ev.build (vs := _) (cs := [_, _, _]) rfl rfl) rfl ?_;refine zss rfl rfl ao hb2 rfl fun ws6 hb2_ hcs6 => ?_;(try simp only [Sx.splice, qt] at hb2_);have hch := hch.s1 hcs6;have hb2 := hb2_;refine za rfl (zz (kh16 ?_));refine zr (bodyA.retR2 rfl (RVal.cell rfl (hb2.varA rfl rfl)) (RVal.tmp rfl) ?_);refine ⟨.inl ⟨hfx, ?_⟩, hch⟩;have hz : fvI x = 0 := fvI_zero (by omega);rw [hz];exact ⟨.slice none 0 0, rfl, by rw [show (sumD 0).m = 0 from rfl, wd_zero]; exact NU.nil⟩
    ·have hq : (splitP x).cls = 1 ∨ (splitP x).cls = 2 := by have := hc4; have h2 := cls0_frac (x := x); omega
     have hff := fin_form hq;have hfl := splitP_frac x;have hex := splitP_range x;refine zkk ?_;refine kh11 (zc fun _ kh18 => ?_);refine CW.regionKC 10 12 rfl hmix fun kR19 kr19 hS hdr => ?_;have hch := hch.ta hdr;have hb2 := hb2.k0 hdr;have hb4 := hb4.k0 hdr;have hb4_r := hb4;refine wk 0 rfl hS (fun _ _ => Ev.fieldAddr rfl) (wk 1 rfl hS (fun _ hw' => Ev.load rfl rfl ((hb4_r.keep0 hw').at_ rfl)) (wk 2 rfl hS (fun _ _ => Ev.fieldAddr rfl) (wk 3 rfl hS (fun _ hw' => Ev.load rfl rfl ((hb4_r.keep0 hw').at_ rfl)) (wk 5 rfl hS (fun _ _ => Ev.fieldAddr rfl) (wk 6 rfl hS (fun _ hw' => Ev.load rfl rfl ((hb4_r.keep0 hw').at_ rfl)) ?_)))));refine WK.oneCall 4 rfl (by kernel_rfl) hasF213 rfl rfl (Of_spec (splitP x).frac _ (by omega)) fun v w2 h' => ?_;obtain ⟨hN, hC⟩ := h';have hch := hch.ta hC;have hb2 := hb2.k0 hC;have hS := hS.trans hC;refine ⟨hS, ?_⟩;refine WK.oneCall 7 rfl (by kernel_rfl) hasF173 rfl rfl (form_spec (splitP x).neg _ (wd (splitP x).frac) (splitP x).exp _ hN (hg.keep0 hch) (by omega)) fun v w3 h' => ?_;obtain ⟨hD, hC⟩ := h';rw [val_wd, hff] at hD;obtain ⟨r, d, hd, rfl, hNr⟩ := hD.resolve_right (fun q => by cases q.1);cases hd;have hch := hch.ta hC;have hb2 := hb2.k0 hC;have hS := hS.trans hC;refine ⟨hS, ?_⟩;refine wk 8 rfl hS (fun _ _ => Ev.extract rfl rfl) (wk 9 rfl hS (fun _ _ => Ev.extract rfl rfl) ?_);refine WK.storeB 10 rfl (by kernel_rfl) (by kernel_rfl) rfl rfl rfl ao hb2 (by simp) rfl fun ws7 hb2_ hcs7 => ?_;(try simp only [Sx.splice, qt] at hb2_);have hch := hch.s1 hcs7;have hNr := hNr.keepBK hb2 hcs7 an;have hb2 := hb2_;refine WK.after 11 rfl (by kernel_rfl) (by kernel_rfl) (Ev.assign rfl) rfl ?_;refine WK.done (by kernel_rfl) (kr19 _ _ _ ?_);refine kh18 ?_;refine zr (bodyA.retR2 rfl (RVal.cell rfl (hb2.varA rfl rfl)) (RVal.tmp rfl) ?_);exact ⟨.inl ⟨hfx, r, rfl, hNr⟩, hch⟩

end

/- Shards: Add. No condition. -/
section
open Go Sx Wd Fl

/-- A number's dyad; nought's, if there is none. -/
def fdy (x : Nat) : Dy := if (splitP x).cls ≤ 2 then sumD (fvI x) else Dy.zero
/-- The shard of one number. -/
def Sh.one (x : Nat) : Sh := ⟨cntP [x], fdy x, (mulD (fdy x) (fdy x)).getD Dy.zero, x, x⟩
theorem sift_one (x : Nat) : siftE [x] 0 0 = 0 := by
  unfold siftE
  rw [if_neg (fun q => q (by decide)), if_neg (by simp), if_neg (by omega), if_neg (by omega)]
theorem fdy_ok (x : Nat) : (fdy x).ok := by
  unfold fdy; split
  · exact rsumD_ok (fvI_in x)
  · exact ok_zero
theorem one_wf {x : Nat} (hx : x < 18446744073709551616) : (Sh.one x).wf := by
  refine ⟨?_, fdy_ok x, getD_ok fun d h => mulD_ok h, hx, hx⟩
  show (countP SP.zero (kindP x)).le _
  have h0 : SP.zero.le 0 := by unfold SP.le; decide
  obtain ⟨a, b, c, d, e, f⟩ := countP.le (k := kindP x) h0
  exact ⟨by omega, by omega, by omega, by omega, by omega, by omega⟩

theorem shAdd_spec (b : Nat) (S : Sh) (x : Nat) (w : World) (hS : ShM 109 w b S) (hwS : S.wf) (hx : x < 18446744073709551616) (hg : GW w) : Ret Tryz.prog 48 [.pointer (some ⟨b, 0, none⟩), .float .f64 x] w fun u w' => (1099511627776 < S.s.al + 1 ∧ u = .int .i64 2 ∧ ShM 109 w' b S ∧ Chg [b] w w') ∨ (S.s.al + 1 ≤ 1099511627776 ∧ u = .int .i64 0 ∧ ShM 109 w' b (S.merge (Sh.one x)) ∧ Chg [b] w w') := by
 have hch : Chg [] w w := Chg.refl _ _;have hg0 := hg;have hS0 := hS.lt;refine zE2 Tryz.func48 rfl ?_;refine Sr fun _ kh1 => za rfl (zz (kh1 (Sr fun _ kh3 => zm rfl ?_)));refine WL.buildSlice (m := 1) (cs := [f64v (x)]) (by decide) (by decide) rfl (by kernel_rfl) rfl fun b14 w14 hn14 => ?_;have hcm14 := hn14.chg;have hge14 := hn14.ge;have hb14 : FB w14 b14 _ [x] := hn14.at_;have hgehch14 := Nat.le_trans hch.size hge14;have hch := hch.ta hcm14;refine WL.call hasF131 rfl rfl (Plain_spec _) fun v w1 h' => ?_;obtain ⟨rfl, hC⟩ := h';have hch := hch.ta hC;have hb14 := hb14.k0 hC;refine WL.call hasF105 rfl rfl (Sift_spec _ [x] 0 0 _ (NF.of_row hb14.row (by intro y hy; rw [List.mem_singleton.1 hy]; exact hx) (by simp) rfl (by simp))) fun v w2 h' => ?_;obtain ⟨v2, hNF, rfl, hC⟩ := (h'.resolve_left (fun q => q.1 (sift_one x))).2;obtain ⟨cn, hcn⟩ : ∃ cn, cn = cntP [x] := ⟨_, rfl⟩;rw [← hcn];unfold SP.cells;have hch := hch.ta hC;refine zm rfl (zx rfl rfl (zx rfl rfl (zx rfl rfl ?_)));refine WL.allocB (l := [.int .i64 0, .int .i64 0, .int .i64 0, .int .i64 0, .int .i64 0, .int .i64 0]) rfl rfl fun b6 wm6 hb6 hcm6 hge6 => ?_;have hgehch6 := Nat.le_trans hch.size hge6;have hch := hch.ta hcm6;refine za rfl ?_;refine zss rfl rfl ao hb6 rfl fun ws37 hb6_ hcs37 => ?_;(try simp only [Sx.splice, qt] at hb6_);have hch := hch.s1 hcs37;have hb6 := hb6_;refine za rfl (zz (kh3 (Sr fun _ kh5 => zm rfl ?_)));refine WL.call hasF127 rfl rfl (dOf_spec x _ hx (hg0.keep0 hch)) fun v w3 h' => ?_;obtain ⟨hD, hC⟩ := h';obtain ⟨F, hF⟩ : ∃ F, F = fdy x := ⟨_, rfl⟩;obtain ⟨rd, kd, rfl, hNd⟩ : ∃ rd kd, v = .tuple [.agg [.bool F.neg, rd, .int .i64 F.e].toArray, .int .i64 kd].toArray ∧ NU w3 rd (wd F.m) := by
  rw [hF]; unfold fdy;rcases hD with ⟨hc, r, rfl, hN⟩ | ⟨hc, rfl⟩
  · rw [if_pos hc]; exact ⟨r, 0, rfl, hN⟩
  · rw [if_neg hc]; exact ⟨_, 30, rfl, by rw [show Dy.zero.m = 0 from rfl, wd_zero]; exact NU.nil⟩
 have hokd : F.ok := by rw [hF]; exact fdy_ok x
 have hod := hNd.one;have hch := hch.ta hC;have hb6 := hb6.k0 hC;refine zm rfl (zx rfl rfl (zx rfl rfl ?_));refine zAh rfl rfl hch fun b8 wm8 hb8 hcm8 hge8 hgehch8 hch => ?_;have hNd := hNd.keep0 hcm8;have hneb68 := zdd hb6.lt hge8;have hb6 := hb6.k0 hcm8;refine zss rfl rfl ao hb8 rfl fun ws38 hb8_ hcs38 => ?_;(try simp only [Sx.splice, qt] at hb8_);have hch := hch.s1 hcs38;have hb6 := hb6.kq hcs38;have hNd := hNd.keepBK hb8 hcs38 an;have hb8 := hb8_;refine za rfl (zz (kh5 (Sr fun _ kh7 => zg hb8 rfl (zg hb8 rfl ?_))));refine WL.call hasF132 rfl rfl (Mul_dspec _ _ _ _ _ _ _ _ _ hNd hNd (hg0.keep0 hch) (ok_i64 hokd) (ok_i64 hokd)) fun v w4 h' => ?_;obtain ⟨hD, hC⟩ := h';rw [both_ok hokd hokd] at hD;obtain ⟨rs, ks, rfl, hNs⟩ := hD.cells;obtain ⟨Qd, hQd⟩ : ∃ Qd, Qd = (mulD F F).getD Dy.zero := ⟨_, rfl⟩;rw [← hQd] at hNs;rw [← hQd];have hone : Sh.one x = ⟨cn, F, Qd, x, x⟩ := by unfold Sh.one; rw [hQd, hF, hcn]
 have hwU : (Sh.mk cn F Qd x x).wf := hone ▸ one_wf hx;have hcal : cn.al = 1 := by rw [hcn]; rfl
 have hos := hNs.one;have hch := hch.ta hC;have hb6 := hb6.k0 hC;have hb8 := hb8.k0 hC;have hNd := hNd.keep0 hC;refine zm rfl (zx rfl rfl (zx rfl rfl ?_));refine zAh rfl rfl hch fun b10 wm10 hb10 hcm10 hge10 hgehch10 hch => ?_;have hNd := hNd.keep0 hcm10;have hNs := hNs.keep0 hcm10;have hneb610 := zdd hb6.lt hge10;have hb6 := hb6.k0 hcm10;have hneb810 := zdd hb8.lt hge10;have hb8 := hb8.k0 hcm10;refine zss rfl rfl ao hb10 rfl fun ws39 hb10_ hcs39 => ?_;(try simp only [Sx.splice, qt] at hb10_);have hch := hch.s1 hcs39;have hb6 := hb6.kq hcs39;have hb8 := hb8.kq hcs39;have hNd := hNd.keepBK hb10 hcs39 an;have hNs := hNs.keepBK hb10 hcs39 an;have hb10 := hb10_;refine za rfl (zz (kh7 (Sr fun _ kh9 => zm rfl (zg hb6 rfl (zg hb8 rfl (zg hb10 rfl (zm rfl (zm rfl ?_))))))));refine WL.ev (Ev.build (vs := _) (cs := [.int .i64 (cn.na : Int), .int .i64 (cn.up : Int), .int .i64 (cn.dn : Int), .int .i64 (cn.mi : Int), .int .i64 (cn.pl : Int), .int .i64 (cn.al : Int), .bool F.neg, rd, .int .i64 F.e, .bool Qd.neg, rs, .int .i64 Qd.e, .float .f64 x, .float .f64 x]) rfl (by kernel_rfl)) rfl ?_;refine zBh rfl rfl rfl hch fun b38 wm38 hb38 hcm38 hge38 hgehch38 hch => ?_;have hNd := hNd.keep0 hcm38;have hNs := hNs.keep0 hcm38;refine WL.call hasF25 rfl rfl (shMerge_spec b b38 S ⟨cn, F, Qd, x, x⟩ _ (hS.keep0 hch) hwS ⟨rd, rs, hb38, hNd, hNs⟩ hwU (by have := hS0; omega) (hg0.keep0 hch)) fun v w5 h' => ?_;dsimp only at h';rw [hcal, ← hone] at h';have hend := h';refine za rfl (zz (kh9 ?_));refine zr (zr1 rfl rfl ?_);rcases hend with ⟨h1, rfl, h2, h3⟩ | ⟨h1, rfl, h2, h3⟩
 · exact .inl ⟨h1, rfl, h2, (Chg.any hch).trans h3⟩
 · exact .inr ⟨h1, rfl, h2, (Chg.any hch).trans h3⟩

end

/- Reference of layer 7: things, counts, sums. No condition. -/
section
open Go Sx Wd

end

/- Reference of layer 7: Whole. No condition. -/
section
open Go Sx Wd

theorem kindP_le5 (x : Nat) : kindP x ≤ 5 := by unfold kindP; repeat (first | omega | split)

end

/- Reference of layer 21: New, some, finite, Merge. No condition. -/
section
open Go Sx Wd Fl

/-- The ends are numbers, where there is something that is one. -/
def Sh.num (S : Sh) : Prop := S.some → isNaN S.lo = false ∧ isNaN S.hi = false

end

/- Reference of layer 21: Merge. No condition. -/
section
open Go Sx Wd Fl

end

/- Reference of layer 11: may. No condition. -/
section
open Go Sx Wd

end

/- Reference of layer 11: Against, half, Nearby. No condition. -/
section
open Go Sx Wd

end

/- Reference of layer 11: half, Nearby. No condition. -/
section
open Go Sx Wd

end

/- Reference of layer 11: Nearby. No condition. -/
section
open Go Sx Wd

end

/- Reference of layer 11: rounded, Quot. No condition. -/
section
open Go Sx Wd

end

/- Reference of layer 1: parts, classes. No condition. -/
section
open Go Sx Wd

end

/- Reference of layer 13: Told, finite. No condition. -/
section
open Go Sx Wd

end

/- Reference of layer 13: Mean. No condition. -/
section
open Go Sx Wd

end

/- Reference of layer 13: Middle, Of. No condition. -/
section
open Go Sx Wd

end

/- What the laws compare is determined: each answer is the only one. No condition. -/
section
open Go Sx Wd

end

/- Numbers in order: the sorted list of a list's numbers is the only one. No condition. -/
section
open Go Fl

/-- In order. -/
def Srt (l : List Nat) : Prop := l.Pairwise fun a b => key a ≤ key b
/-- Numbers that are no NaN. -/
def Nums (l : List Nat) : Prop := ∀ x ∈ l, x < 18446744073709551616 ∧ isNaN x = false
/-- A list in order. -/
def sortP (l : List Nat) : List Nat := l.mergeSort fun a b => decide (key a ≤ key b)
end

/- Means of a list's numbers: put in another order, weighed alike, trimmed. No condition. -/
section
open Go Sx Wd Fl
set_option exponentiation.threshold 9000

end

/- What the long lists' means and the ways to a mean come to. No condition. -/
section
open Go Sx Wd Fl
set_option exponentiation.threshold 9000

theorem fvI_nought {w : Nat} (hw : (splitP w).cls ≤ 2) (h64 : w < 18446744073709551616) : fvI w = 0 ↔ w % 9223372036854775808 = 0 := by
  have hp : (0 : Nat) < 2 ^ 1074 := Nat.two_pow_pos _
  have e := fvI_nz hw h64
  have h1 : nz (w % 9223372036854775808) * 2 ^ 1074 = 0 ↔ w % 9223372036854775808 = 0 := by
    rw [← nz_zero (k := w % 9223372036854775808)]
    constructor
    · intro q
      rcases Nat.mul_eq_zero.1 q with q | q
      · exact q
      · omega
    · intro q; rw [q, Nat.zero_mul]
  rw [← h1, e]
  split <;> omega
theorem three : (splitP 4613937818241073152).cls ≤ 2 ∧ fvI 4613937818241073152 ≠ 0 := by
  have h1 : (splitP 4613937818241073152).cls ≤ 2 := by decide +kernel
  refine ⟨h1, fun q => ?_⟩
  rw [fvI_nought h1 (by decide)] at q
  exact absurd q (by decide)
end

/- Quantiles as plain numbers. No condition. -/
section
open Go Sx Wd Fl
set_option exponentiation.threshold 9000

/-- May a share, a rule, a mode be asked? -/
def askQ (num den rule mode : Int) : Prop := (0 ≤ mode ∧ mode ≤ 4) ∧ (0 ≤ rule ∧ rule ≤ 4) ∧ (1 ≤ den ∧ den ≤ 2147483648) ∧ 0 ≤ num ∧ num ≤ den
instance (num den rule mode : Int) : Decidable (askQ num den rule mode) := by unfold askQ; exact inferInstance
/-- What Several answers: the numbers, or an error. -/
def partQ (parts rule mode : Int) : Prop := (0 ≤ mode ∧ mode ≤ 4) ∧ (0 ≤ rule ∧ rule ≤ 4) ∧ 1 ≤ parts ∧ parts ≤ 65536
instance (parts rule mode : Int) : Decidable (partQ parts rule mode) := by unfold partQ; exact inferInstance
/-! ### Order by keys, order by values -/
end

/- Quantiles: from one number of the list to the next, rising. No condition. -/
section
open Go Sx Wd Fl
set_option exponentiation.threshold 9000

/-! ### Rounding rises -/
/-! ### Places -/
/-- A list in order of finite numbers, one at least. -/
structure Row (s : List Nat) : Prop where
  srt : Srt s
  fin : finL s
  w : ∀ x ∈ s, x < 18446744073709551616
  pos : 0 < s.length
end

/- Quantiles: a greater share, the ends, how many lie on either side. No condition. -/
section
open Go Sx Wd Fl
set_option exponentiation.threshold 9000

/-! ### The least and the greatest number, by bits -/
/-! ### How many -/
end

/- Quantiles of like numbers. No condition. -/
section
open Go Sx Wd Fl
set_option exponentiation.threshold 9000

end

/- The numbers that every statement on means asks first. No condition. -/
section
open Go Sx Wd
set_option exponentiation.threshold 9000

end

/- The numbers that every statement on quantiles asks first. No condition. -/
section
open Go Sx Wd Fl
set_option exponentiation.threshold 9000

end

/- Two lists in order, put together. No condition. -/
section
open Go Sx Wd Fl

end

/- Not above, by value: of a finite number and one that may be infinite. No condition. -/
section
open Go Sx Wd Fl
set_option exponentiation.threshold 9000

end

/- References of layers 3 and 6: the difference; counts of a list. No condition. -/
section
open Go Sx Wd Fl

end

/- Reference of layer 21: Add. No condition. -/
section
open Go Sx Wd Fl

end

/- Reference of layer 21: what is refused, Mean, Var, the ends. No condition. -/
section
open Go Sx Wd Fl

end

/- Reference of layer 3: below, half, Nearby, Round. No condition. -/
section
open Go Sx Wd

end

/- Reference of layer 3: Nearby, Round. No condition. -/
section
open Go Sx Wd

end

/- Reference of layer 21: Sum. No condition. -/
section
open Go Sx Wd Fl

end

/- What the statements on quantiles need of the answers. No condition. -/
section
open Go Sx Wd Fl

/-! ### The least and the greatest one -/
section
variable {P : Program} {s : Sl} {w : World} {ty : TypeId} {x y : Operand} {t t' : TypeId} {a b : Nat}
end
end

/- Lists of integers; rows that grow within a drawn region. No condition. -/
section
open Go Sx Wd Fl

def i64v (z : Int) : Value := .int .i64 z
theorem GR.rw_ {w : World} {e : TypeId} {f : Nat → Value} {lo : Nat} {X : List Nat} {a : Option Addr} {m c : Nat} {l : List Nat} (h : GR w e f lo X (.slice a m c) l) : RW w a (l.map f) ∧ m = l.length ∧ l.length ≤ c := by
  obtain ⟨a', c', e1, h1, h2⟩ := h.row
  cases e1
  exact ⟨h2, rfl, h1⟩
theorem RW.slice_take {w : World} {a : Option Addr} {l : List Nat} {f : Nat → Value} (h : RW w a (l.map f)) (j : Nat) : RW w a ((l.take j).map f) := by
  rw [List.map_take]; exact h.take _
theorem RW.slice_drop {w : World} {a : Option Addr} {l : List Nat} {f : Nat → Value} (h : RW w a (l.map f)) {j c : Nat} (hj : j ≤ l.length) (hc : l.length ≤ c) : RW w (cutAt a j c 1) ((l.drop j).map f) := by
  rw [List.map_drop]; exact h.cut j c (by simpa using hj) (by simpa using hc)
namespace Sx
section
variable {P : Program} {A : AQ} {n : Nat} {D : List Deferred} {s : Sl} {w : World} {ops : Array Oper} {K : KK} {S : World → Prop} {fuel : Nat} {listed : Array Bool}
variable {op : Op} {ty : TypeId} {pos : String} {af : Array Edge} {d : Nat} {v : Value} {x y : Operand}
theorem ev_growR {t e be : Nat} {de : TypeDesc} {ze : Value} {sz by_ : Nat} {z : Value} {v : Value} {f : Nat → Value} {lo : Nat} {X : List Nat} {l news : List Nat} {a : Option Addr} {mm c : Nat} [hT : HasT P t (.slice e) sz by_ z] [hE : HasT P e de 1 be ze]
    (hzs : ze.cells.size = 1) (h1 : ∀ i, (f i).oneCell' = true) (hx : opnd s x = some v) (hy : opnd s y = some (.slice a mm c)) (hg : GR w e f lo X v l) (hm : mm = news.length) (hr : RW w a (news.map f)) (hlo : lo ≤ w.heap.size) (hX : ∀ b ∈ X, b < w.heap.size)
    (hbytes : (l.length + news.length) * be ≤ 140737488355328) (h63 : l.length + news.length ≤ 70368744177664) :
    ∃ v' w', Ev P s (.call ⟨.builtin .append, [x, y].toArray, #[t, t]⟩) ty w v' w' ∧ GR w' e f lo X v' (l ++ news) ∧ Chg v.ownBlock.toList w w' := by
  cases a with
  | some ad =>
    obtain ⟨v', w', he, ho, hc, hl⟩ := ev_append (P := P) (s := s) (w := w) (ty := ty) (x := x) (y := y) (t := t) (hT := hT) (hE := hE) (news := news.map f) hzs (by omega) hx hy hg.1 (by simp; omega) (fun j u hu => by
      obtain ⟨ad', e1, hcell⟩ := hr j u hu
      cases e1; exact hcell) (fun u hu => by
      obtain ⟨i, _, rfl⟩ := List.mem_map.1 hu
      exact h1 i) (by unfold maxLen; omega) (by rw [hm]; exact hbytes)
    refine ⟨v', w', he, ⟨by rw [List.length_append, List.map_append, ← hm]; exact ho, fun b hb => ?_⟩, hc⟩
    rcases hl with q | q
    · rw [q] at hb; exact hg.2 b hb
    · rw [q] at hb; cases hb; exact ⟨hlo, fun hm => Nat.lt_irrefl _ (hX _ hm)⟩
  | none =>
    have hn : news = [] := by
      cases news with
      | nil => rfl
      | cons u r => obtain ⟨ad, e1, _⟩ := hr 0 (f u) rfl; cases e1
    subst hn
    have hm0 : mm = 0 := hm
    subst hm0
    exact ⟨v, w, Ev.append00 hx hy hg.1, by rw [List.append_nil]; exact hg, Chg.refl _ _⟩
end
end Sx
end

/- Lists that came out: SameList, Book.Reads. No condition. -/
section
open Go Sx Wd Fl

end

/- Two rows that grow beside one another; appends in a drawn region whose last store is late. No condition. -/
section
open Go Sx Wd Fl

theorem RW.one_f {w : World} {b n : Nat} {E : TypeId} {f : Nat → Value} {v : Value} (h : w.heap[b]? = some (.cells [v].toArray E (0, 0))) (hf : f n = v) : RW w (some ⟨b, 0, none⟩) ([n].map f) := by
  have e1 : [n].map f = [v] := by rw [List.map_cons, List.map_nil, hf]
  rw [e1]; exact RW.of_heap h
namespace Sx
section
variable {P : Program} {A : AQ} {n : Nat} {D : List Deferred} {s : Sl} {w : World} {ops : Array Oper} {K : KK} {S : World → Prop} {z fuel : Nat} {listed : Array Bool}
variable {op : Op} {ty : TypeId} {pos : String} {af : Array Edge} {d : Nat} {v : Value} {x y : Operand}
theorem CW.regionKT {id : Nat} {l : List Oper} (T0 : List Nat) (z m : Nat) (hz : l.length = m) (hm : P.follows .mixedOrders = true)
    (h : ∀ R : KK, (∀ D s w, A .normal D s w → R D s w) → Chg T0 w.drew w.drew → Chg [] w w.drew → WK P l.toArray R (Chg T0 w.drew) z m (Array.replicate m false) n D s w.drew) : CW P (.region id l.toArray true) A n D s w :=
  CW.regionK (Chg T0 w.drew) z m hz hm fun R hR => h R hR (Chg.refl _ _) (Chg.drew _ _)
/-- The same, where only the late store comes behind: the row may be an old one. -/
theorem WK.growL (i : Nat) {t e be : Nat} {de : TypeDesc} {ze : Value} {sz by_ : Nat} {z0 : Value} {v : Value} {f : Nat → Value} {lo : Nat} {X : List Nat} {l news : List Nat} {a : Option Addr} {mm c : Nat} [hT : HasT P t (.slice e) sz by_ z0] [hE : HasT P e de 1 be ze]
    (hi : ops[i]? = some ⟨some d, .call ⟨.builtin .append, [x, y].toArray, #[t, t]⟩, ty, pos, af, none⟩) (hr : Region.ready .any ops listed = [i])
    (hzs : ze.cells.size = 1) (h1 : ∀ i, (f i).oneCell' = true) (hx : opnd s x = some v) (hy : opnd s y = some (.slice a mm c)) (hg : GR w e f lo X v l) (hm : mm = news.length) (hrw : RW w a (news.map f)) (hlo : lo ≤ w.heap.size) (hX : ∀ b ∈ X, b < w.heap.size)
    (hbytes : (l.length + news.length) * be ≤ 140737488355328) (h63 : l.length + news.length ≤ 70368744177664) (hd : Nat.blt d n = true)
    (hST : ∀ w', Chg v.ownBlock.toList w w' → (listed.setIfInBounds i true).getD z false = false → S w')
    (k : ∀ v' w', GR w' e f lo X v' (l ++ news) → Chg v.ownBlock.toList w w' → WK P ops K S z fuel (listed.setIfInBounds i true) n D ((d, v') :: s) w') : WK P ops K S z (fuel + 1) listed n D s w := by
  obtain ⟨v', w', he, hg2, hc⟩ := ev_growR (P := P) (s := s) (ty := ty) (t := t) (hT := hT) (hE := hE) hzs h1 hx hy hg hm hrw hlo hX hbytes h63
  exact WK.one i hi hr he (hST w' hc) hd (k v' w' hg2 hc)
theorem WK.buildSliceC (i : Nat) {w0 : World} {T0 : List Nat} {t e : TypeId} {de : TypeDesc} {sz by_ es be : Nat} {z0 ze : Value} {ps : List (Nat × Operand)} {vs : List (Nat × Value)} {cs : List Value} {m : Nat} [hT : HasT P t (.slice e) sz by_ z0] [hE : HasT P e de es be ze]
    (hi : ops[i]? = some ⟨some d, .buildSlice t m ps.toArray, ty, pos, af, none⟩) (hr : Region.ready .any ops listed = [i]) (hS : Chg T0 w0 w)
    (hm : m * es ≤ 2 ^ 24) (hp : 0 < m * es) (hx : opndP s ps = some vs) (hf : Instr.fill (fun i => some (i * es, es)) ((Array.range (m * es)).map (ze.cells[· % ze.cells.size]!)) vs = some cs.toArray) (hd : Nat.blt d n = true)
    (k : ∀ b w', New w b (.cells cs.toArray e) w' → Chg T0 w0 w' → WK P ops K (Chg T0 w0) z fuel (listed.setIfInBounds i true) n D ((d, .slice (some ⟨b, 0, none⟩) m m) :: s) w') : WK P ops K (Chg T0 w0) z (fuel + 1) listed n D s w := by
  obtain ⟨b, w', he, hn⟩ := ev_buildSlice (P := P) (ty := ty) (w := w) (t := t) (hT := hT) (hE := hE) hm hp hx hf
  exact WK.one i hi hr he (fun _ => hS.trans (Chg.any hn.chg)) hd (k b w' hn (hS.trans (Chg.any hn.chg)))
end
end Sx
end

/- A store into a row that grows. No condition. -/
section
open Go Sx Wd Fl

namespace Sx
section
variable {P : Program} {n : Nat} {D : List Deferred} {s : Sl} {w : World} {ops : Array Oper} {K : KK} {rest : List Oper} {ty : TypeId} {pos : String} {af : Array Edge} {x y : Operand}
end
end Sx
end

/- Lists that came out: Book.Take. No condition. -/
section
open Go Sx Wd Fl

end

/- What grows leaves the part that was there before readable where it lay. No condition. -/
section
open Go Sx Wd Fl
namespace Sx
section
variable {P : Program} {n : Nat} {D : List Deferred} {s : Sl} {w : World} {ops : Array Oper} {K : KK} {rest : List Oper} {ty : TypeId} {pos : String} {af : Array Edge} {d : Nat} {x y : Operand}
end
end Sx
end

/- Rows that keep clear of a block that changes. No condition. -/
section
open Go Sx Wd Fl

/-- No two of the values have one block. -/
def Apart (val : Nat → Value) (n : Nat) : Prop := ∀ p q b, p < n → q < n → p ≠ q → (val p).ownBlock = some b → (val q).ownBlock ≠ some b
/-- All rows, each with its list. -/
def Rows_ (w : World) (e : TypeId) (lo : Nat) (X : List Nat) (val : Nat → Value) (L : Nat → List Nat) (n : Nat) : Prop := ∀ p, p < n → GR w e f64v lo X (val p) (L p)
def lput (L : Nat → List Nat) (p : Nat) (l : List Nat) (q : Nat) : List Nat := if q = p then l else L q
end

/- Copies of numbers. No condition. -/
namespace Sx
open Go
section
variable {P : Program} {n : Nat} {D : List Deferred} {s : Sl} {w : World} {ops : Array Oper} {K : KK} {rest : List Oper} {ty : TypeId} {pos : String} {af : Array Edge} {d : Nat} {x y : Operand}
end
end Sx

/- Copies of lists of numbers; parts of them. No condition. -/
section
open Go Sx Wd Fl

end

/- Blocks from a bound on; a Book's lists while marks are written into them. No condition. -/
section
open Go Sx Wd Fl

/-- The old blocks from lo on. -/
def upF (lo : Nat) (w : World) : List Nat := List.range' lo (w.heap.size - lo)
theorem GR.ge {w : World} {e : TypeId} {f : Nat → Value} {lo : Nat} {X : List Nat} {v : Value} {l : List Nat} (h : GR w e f lo X v l) : ∀ b ∈ v.ownBlock.toList, lo ≤ b := fun b hb => (h.2 b (Option.mem_toList.1 hb)).1
/-- All lists of a Book while marks are written: the i-th of what came out and the i-th of what is wanted are one list. -/
structure MI (e lo n : Nat) (X : List Nat) (val : Nat → Value) (L : Nat → List Nat) (w : World) : Prop where
  rows : Rows_ w e lo X val L (n + n)
  eq : ∀ i, i < n → L (n + i) = L i
  len : ∀ i, (L i).length ≤ 1000000
  wd : ∀ i, ∀ x ∈ L i, x < 18446744073709551616
end

/- A Book's lists while its lists grow. No condition. -/
section
open Go Sx Wd Fl

/-- The two have not one block. -/
def Sep (v u : Value) : Prop := ∀ b, v.ownBlock = some b → u.ownBlock ≠ some b
theorem GR.keepV {w w' : World} {e : TypeId} {f : Nat → Value} {lo : Nat} {X : List Nat} {v : Value} {l : List Nat} {T : List Nat} (h : GR w e f lo X v l) (hc : Chg T w w') (ht : ∀ b ∈ T, v.ownBlock ≠ some b) : GR w' e f lo X v l :=
  ⟨own_keep h.1 hc fun x hx hm => ht x hm hx, h.2⟩
/-- Where a row has grown: it lies where it lay, or anew. -/
def Grew (w : World) (v v' : Value) : Prop := ∀ b, v'.ownBlock = some b → v.ownBlock = some b ∨ w.heap.size ≤ b
/-- All old blocks but the row's own. -/
def butB (w : World) (v : Value) : List Nat := (List.range w.heap.size).filter fun b => decide (v.ownBlock ≠ some b)
namespace Sx
section
variable {P : Program} {n : Nat} {D : List Deferred} {s : Sl} {w : World} {ops : Array Oper} {K : KK} {rest : List Oper} {ty : TypeId} {pos : String} {af : Array Edge} {d : Nat} {x y : Operand}
end
end Sx
/-- What is still to grow: from i on. -/
structure PE (i n k lo : Nat) (fO fW : Nat → Value) (L : Nat → List Nat) (w : World) : Prop where
  g : ∀ p, i ≤ p → p < n → GR w 31 f64v lo [] (fO p) (L p)
  len : ∀ p, i ≤ p → p < n → (L p).length ≤ 1000000
  s : ∀ p, i ≤ p → p < n → ∀ q, q < k → (q ≠ p → Sep (fO q) (fO p)) ∧ Sep (fW q) (fO p)
section
variable {i n k kO kW lo bk : Nat} {vO vW : Value} {fO fW : Nat → Value} {L : Nat → List Nat} {vl vw v' : Value} {l1 l2 l3 : List Nat} {w w' : World}
end
end

/- Reference of layer 21: Var. No condition. -/
section
open Go Sx Wd Fl

end

/- Bytes, the low one first; what a shard is as bytes. No condition. -/
section
open Go Sx Wd Fl

/-- A number in k bytes, the low one first. -/
def leB (n k : Nat) : List Nat := (List.range k).map fun i => n / 256 ^ i % 256
theorem leB_zero (n : Nat) : leB n 0 = [] := rfl
theorem leB_succ (n k : Nat) : leB n (k + 1) = leB n k ++ [n / 256 ^ k % 256] := by unfold leB; rw [List.range_succ, List.map_append]; rfl
theorem leB_len (n k : Nat) : (leB n k).length = k := by unfold leB; rw [List.length_map, List.length_range]
/-- A dyad's bytes. -/
def encD (d : Dy) : List Nat := leB (if d.neg = true then 1 else 0) 1 ++ leB (d.e + 4096).toNat 2 ++ leB (wd d.m).length 2 ++ ((wd d.m).map fun x => leB x 4).flatten
/-- A shard's bytes. -/
def encS (S : Sh) : List Nat := leB S.s.na 8 ++ leB S.s.up 8 ++ leB S.s.dn 8 ++ leB S.s.mi 8 ++ leB S.s.pl 8 ++ leB S.s.al 8 ++ encD S.V ++ encD S.Q ++ (if S.some then leB S.lo 8 ++ leB S.hi 8 else [])
/-- A growing row of bytes: what it was, what it is. -/
structure YG (lo : Nat) (v0 : Value) (w0 : World) (v : Value) (L : List Nat) (w : World) : Prop where
  g : GR w 5 u8v lo [] v L
  ch : Chg v0.ownBlock.toList w0 w
  gr : Grew w0 v0 v
end

/- Lists that came out: Book.Owned. No condition. -/
section
open Go Sx Wd Fl

end

/- A Book of two lists. No condition. -/
section
open Go Sx Wd Fl

theorem GR.cells {w : World} {e : TypeId} {f : Nat → Value} {lo b : Nat} {X : List Nat} {v : Value} {l : List Nat} (h : GR w e f lo X v l) (hb : v.ownBlock = some b) : ∃ cur, w.heap[b]? = some (.cells cur e (0, 0)) := by
  rcases h.1.2 with ⟨rfl, _⟩ | ⟨g, cp, cur, rfl, _, hheap, _⟩
  · cases hb
  · cases hb; exact ⟨cur, hheap⟩
theorem GR.notBK {w : World} {e T : TypeId} {f : Nat → Value} {lo bk : Nat} {X : List Nat} {v : Value} {l : List Nat} {cs : List Value} (h : GR w e f lo X v l) (hb : BK w bk T cs) (hne : e ≠ T) : v.ownBlock ≠ some bk := fun h1 => by
  obtain ⟨c1, q1⟩ := h.cells h1
  have q2 : w.heap[bk]? = some (.cells cs.toArray T (0, 0)) := hb
  rw [q1] at q2
  injection q2 with q2
  injection q2 with _ q3
  exact hne q3
end

/- The document: a dyad as bytes, a shard as bytes. No condition. -/
section
open Go Sx Wd Fl

theorem flat_take {l : List Nat} {i : Nat} (h : i < l.length) : ((l.take (i + 1)).map fun y => leB y 4).flatten = ((l.take i).map fun y => leB y 4).flatten ++ leB (l.getD i 0) 4 := by
  rw [take_step h, List.map_append, List.flatten_append]; simp
theorem flat_len (l : List Nat) : ((l.map fun y => leB y 4).flatten).length = 4 * l.length := by
  induction l with
  | nil => rfl
  | cons a l ih => rw [List.map_cons, List.flatten_cons, List.length_append, leB_len, ih, List.length_cons]; omega
theorem GR.notM {w : World} {e T : TypeId} {f : Nat → Value} {lo bk : Nat} {X : List Nat} {v : Value} {l : List Nat} {cs : List Value} (h : GR w e f lo X v l) (hb : BK w bk T cs) (hne : e ≠ T) : bk ∉ v.ownBlock.toList := fun q => h.notBK hb hne (Option.mem_toList.1 q)
end

/- The document: a shard as bytes. No condition. -/
section
open Go Sx Wd Fl

structure Sh.ex (S : Sh) : Prop where
  v : -4096 ≤ S.V.e ∧ S.V.e ≤ 61439
  q : -4096 ≤ S.Q.e ∧ S.Q.e ≤ 61439
  lv : (wd S.V.m).length ≤ 160
  lq : (wd S.Q.m).length ≤ 160
theorem encD_len (d : Dy) : (encD d).length = 5 + 4 * (wd d.m).length := by
  unfold encD
  rw [List.length_append, List.length_append, List.length_append, leB_len, leB_len, leB_len, flat_len]
theorem cnt6_le {s : SP} (h : s.le 1099511627776) (i : Nat) : [s.na, s.up, s.dn, s.mi, s.pl, s.al].getD i 0 ≤ 1099511627776 := by
  obtain ⟨a, b, c, d, e, f⟩ := h
  match i with
  | 0 => exact a
  | 1 => exact b
  | 2 => exact c
  | 3 => exact d
  | 4 => exact e
  | 5 => exact f
  | (_ + 6) => exact Nat.zero_le _
theorem cnt6_at (s : SP) {i : Nat} (h : i < 6) : [Value.int .i64 (s.na : Int), .int .i64 (s.up : Int), .int .i64 (s.dn : Int), .int .i64 (s.mi : Int), .int .i64 (s.pl : Int), .int .i64 (s.al : Int)][i]? = some (.int .i64 (([s.na, s.up, s.dn, s.mi, s.pl, s.al].getD i 0 : Nat) : Int)) := by
  have hi6 : i = 0 ∨ i = 1 ∨ i = 2 ∨ i = 3 ∨ i = 4 ∨ i = 5 := by omega
  rcases hi6 with rfl | rfl | rfl | rfl | rfl | rfl <;> rfl
theorem flat8_take {l : List Nat} {i : Nat} (h : i < l.length) : ((l.take (i + 1)).map fun y => leB y 8).flatten = ((l.take i).map fun y => leB y 8).flatten ++ leB (l.getD i 0) 8 := by
  rw [take_step h, List.map_append, List.flatten_append]; simp
theorem flat8_len (l : List Nat) : ((l.map fun y => leB y 8).flatten).length = 8 * l.length := by
  induction l with
  | nil => rfl
  | cons a l ih => rw [List.map_cons, List.flatten_cons, List.length_append, leB_len, ih, List.length_cons]; omega

end

/- Own blocks of bytes: make, store, copy. No condition. -/
section
open Go Sx Wd

def YB (w : World) (b : Nat) (E : TypeId) (l : List Nat) : Prop := w.heap[b]? = some (.cells (l.map u8v).toArray E (0, 0))
section
variable {w w' : World} {b : Nat} {E : TypeId} {l : List Nat} {T : List Nat}
theorem YB.row (h : YB w b E l) : RW w (some ⟨b, 0, none⟩) (l.map u8v) := RW.of_heap h
theorem YB.keep (h : YB w b E l) (hc : Chg T w w') (hT : b ∉ T) : YB w' b E l := hc.heap h hT
theorem YB.keep0 (h : YB w b E l) (hc : Chg [] w w') : YB w' b E l := hc.heap h (by simp)
theorem u8_one (l : List Nat) : ∀ v ∈ l.map u8v, v.oneCell' = true := fun v hv => by obtain ⟨x, _, rfl⟩ := List.mem_map.1 hv; rfl
theorem madeY {z : Value} (hz : z.cells = #[.int .u8 0]) (n : Nat) : madeCells z.cells (n * 1) = ((List.replicate n 0).map u8v).toArray := by
  rw [hz, Nat.mul_one]
  apply Array.ext'
  simp [madeCells, List.map_replicate, u8v, Nat.mod_one, List.map_const']
/-- Behind a full beginning comes what is copied. -/
theorem copy_pad (p xs : List Nat) (n : Nat) : (p ++ List.replicate (xs.length + n) 0).take p.length ++ xs ++ (p ++ List.replicate (xs.length + n) 0).drop (p.length + xs.length) = p ++ xs ++ List.replicate n 0 := by
  rw [List.take_left', List.drop_append, List.drop_replicate]
  · simp
  · rfl
theorem set_pad (p : List Nat) (x n : Nat) : (p ++ List.replicate (n + 1) 0).set p.length x = p ++ [x] ++ List.replicate n 0 := by
  rw [List.set_append_right _ _ (Nat.le_refl _), Nat.sub_self, List.replicate_succ, List.set_cons_zero]; simp
end
namespace Sx
section
variable {P : Program} {n : Nat} {D : List Deferred} {s : Sl} {w : World} {ops : Array Oper} {K : KK} {rest : List Oper} {ty : TypeId} {pos : String} {af : Array Edge} {d : Nat} {x y : Operand}
theorem WL.makeY (j i : Nat) {t : TypeId} {e be : Nat} {kl kc : IntKind} {l c : Int} {sz by_ : Nat} {z : Value} [hT : HasT P t (.slice e) sz by_ z] [hE : HasT P e (.int .u8) 1 be (.int .u8 0)] (hx : opnd s x = some (.int kl l)) (hy : opnd s y = some (.int kc c))
    (hl : l = (j : Int)) (hc : c = (i : Int)) (hlc : j ≤ i) (hb : be * i ≤ 281474976710656) (h63 : i ≤ 281474976710656) (hd : Nat.blt d n = true)
    (k : ∀ b w', YB w' b e (List.replicate i 0) → Chg [] w w' → w.heap.size ≤ b → WL P ops K rest n D ((d, .slice (some ⟨b, 0, none⟩) j i) :: s) w') : WL P ops K (⟨some d, .makeSlice t x y, ty, pos, af, none⟩ :: rest) n D s w := by
  subst hl; subst hc
  refine WL.make (hT := hT) (hE := hE) hx hy (by omega) (by omega) (by rw [show (be : Int) * (i : Int) = ((be * i : Nat) : Int) by simp]; omega) (by omega) hd fun b w' hn => ?_
  have h1 := hn.at_
  rw [show (i : Int).toNat = i by omega, madeY (by rfl)] at h1
  exact k b w' h1 hn.chg hn.ge
theorem WL.storeY {t : TypeId} {ds : TypeDesc} {by_ : Nat} {z : Value} {b i v : Nat} {l : List Nat} {E : TypeId} [hT : HasT P t ds 1 by_ z] (hx : opnd s x = some (.pointer (some ⟨b, i, none⟩))) (hy : opnd s y = some (.int .u8 (v : Int)))
    (hb : YB w b E l) (hi : i < l.length) (k : ∀ w', YB w' b E (l.set i v) → Chg [b] w w' → WL P ops K rest n D s w') : WL P ops K (⟨none, .store t x y, ty, pos, af, none⟩ :: rest) n D s w :=
  WL.store (l := l.map u8v) (v := u8v v) hx hy rfl hb (by simpa using hi) fun w' hu => k w' (by have := hu.at_; rw [← List.map_set] at this; exact this) hu.chg
theorem ev_copyY {t t' : TypeId} {e be : Nat} {b o m c c2 : Nat} {a : Option Addr} {l xs : List Nat} {sz by_ : Nat} {z ze : Value} {de : TypeDesc} [hT : HasT P t (.slice e) sz by_ z] [hE : HasT P e de 1 be ze] (hx : opnd s x = some (.slice (some ⟨b, o, none⟩) m c)) (hy : opnd s y = some (.slice a xs.length c2)) (hb : YB w b e l) (hr : RW w a (xs.map u8v)) (hne : 0 < xs.length) (hm : xs.length ≤ m) (hf : o + xs.length ≤ l.length) :
    ∃ w', Ev P s (.call ⟨.builtin .copy, [x, y].toArray, #[t, t']⟩) ty w (goInt xs.length) w' ∧ YB w' b e (l.take o ++ xs ++ l.drop (o + xs.length)) ∧ Chg [b] w w' := by
  obtain ⟨i, hi, hi1, hi2, hi3⟩ := hE.inf
  have hsz : (P.info? e).map (·.size) = some 1 := by rw [hi]; simp [hi1]
  obtain ⟨ad, rfl⟩ := hr.some_ (by simpa using hne)
  have hlen : (xs.map u8v).length = Nat.min xs.length m := by
    show _ = min xs.length m
    simp; omega
  have hrun := run_copy_row (P := P) w t t' ty e b o m c ad xs.length c2 (l.map u8v).toArray e (xs.map u8v) hT.und hsz hb hlen
    (fun j v hv => by
      obtain ⟨ad', e0, h2⟩ := hr j v hv
      cases e0; exact h2)
    (by simp; omega) (u8_one _)
  rw [List.length_map] at hrun
  obtain ⟨Wn, hWn⟩ : ∃ Wn, Wn = w.setRow b ((l.map u8v).toArray.toList.take o ++ xs.map u8v ++ (l.map u8v).toArray.toList.drop (o + xs.length)).toArray := ⟨_, rfl⟩
  rw [← hWn] at hrun
  refine ⟨Wn, fun ρ d' pos af g hρ => ?_, ?_, ?_⟩
  · have e1 := hρ x _ hx
    have e2 := hρ y _ hy
    simp [execOp, resolve, invoke, builtin, e1, e2, hrun]
  · have := setRow_heap w b _ ((l.map u8v).toArray.toList.take o ++ xs.map u8v ++ (l.map u8v).toArray.toList.drop (o + xs.length)).toArray e (0, 0) hb
    rw [← hWn] at this
    unfold YB
    rw [this]
    simp [List.map_drop, List.map_take]
  · subst hWn
    exact ⟨rfl, rfl, rfl, by simp [World.setRow], fun q hq hnq => setRow_other w b q _ (by simpa using hnq)⟩
theorem WH.copyY (i : Nat) {S0 : World} {T0 : List Nat} {fuel : Nat} {listed : Array Bool} {t t' : TypeId} {e be : Nat} {b o m m2 c c2 : Nat} {a : Option Addr} {l : List Nat} (xs : List Nat) {sz by_ : Nat} {z ze : Value} {de : TypeDesc} [hT : HasT P t (.slice e) sz by_ z] [hE : HasT P e de 1 be ze] (hi : ops[i]? = some ⟨some d, .call ⟨.builtin .copy, [x, y].toArray, #[t, t']⟩, ty, pos, af, none⟩) (hr : Region.ready .any ops listed = [i]) (hS : Chg T0 S0 w) (hT0 : b ∈ T0)
    (hx : opnd s x = some (.slice (some ⟨b, o, none⟩) m c)) (hy : opnd s y = some (.slice a m2 c2)) (hl : m2 = xs.length) (hb : YB w b e l) (hrw : RW w a (xs.map u8v)) (hne : 0 < xs.length) (hm : xs.length ≤ m) (hf : o + xs.length ≤ l.length) (hd : Nat.blt d n = true)
    (k : ∀ w', YB w' b e (l.take o ++ xs ++ l.drop (o + xs.length)) → Chg [b] w w' → Chg T0 S0 w' → WH P ops K (Chg T0 S0) fuel (listed.setIfInBounds i true) n D ((d, goInt xs.length) :: s) w') : WH P ops K (Chg T0 S0) (fuel + 1) listed n D s w := by
  subst hl
  obtain ⟨w', he, hb', hc⟩ := ev_copyY (P := P) (ty := ty) (t := t) (t' := t') (hT := hT) (hE := hE) hx hy hb hrw hne hm hf
  have hS2 := hS.trans (hc.mono (T' := T0) fun q hq => by rw [List.mem_singleton.1 hq]; exact hT0)
  exact WH.one i hi hr he hS2 hd (k w' hb' hc hS2)
theorem CW.regionHT {A : AQ} {id : Nat} {l : List Oper} (T0 : List Nat) (m : Nat) (hz : l.length = m) (hm : P.follows .mixedOrders = true)
    (h : ∀ R : KK, (∀ D s w, A .normal D s w → R D s w) → Chg T0 w.drew w.drew → Chg [] w w.drew → WH P l.toArray R (Chg T0 w.drew) m (Array.replicate m false) n D s w.drew) : CW P (.region id l.toArray true) A n D s w :=
  CW.regionH (Chg T0 w.drew) m hz hm fun R hR => h R hR (Chg.refl _ _) (Chg.drew _ _)
end
end Sx
end

/- Strings: appended to bytes, made of bytes; rows of records. No condition. -/
section
open Go Sx Wd

/-- A string's bytes; a string of bytes. -/
def sB (s : ByteArray) : List Nat := s.data.toList.map UInt8.toNat
def bA (l : List Nat) : ByteArray := ⟨(l.map UInt8.ofNat).toArray⟩
theorem sB_len (s : ByteArray) : (sB s).length = s.size := by
  rw [sB, List.length_map, Array.length_toList]; rfl
theorem sB_lt (s : ByteArray) : ∀ x ∈ sB s, x < 256 := fun x hx => by
  obtain ⟨u, _, rfl⟩ := List.mem_map.1 hx
  exact u.toNat_lt
theorem sB_bA {l : List Nat} (h : ∀ x ∈ l, x < 256) : sB (bA l) = l := by
  simp only [sB, bA, List.map_map]
  conv => rhs; rw [← List.map_id l]
  refine List.map_congr_left fun x hx => ?_
  have := h x hx
  simp [UInt8.toNat_ofNat', Nat.mod_eq_of_lt this]
theorem bA_sB (s : ByteArray) : bA (sB s) = s := by
  cases s with
  | mk d =>
    simp only [sB, bA, List.map_map]
    congr 1
    apply Array.ext'
    simp only
    conv => rhs; rw [← List.map_id d.toList]
    refine List.map_congr_left fun x _ => ?_
    simp
theorem strCells_eq (s : ByteArray) : Lib.strCells s = (sB s).map u8v := by
  simp only [Lib.strCells, sB, List.map_map]
  rfl
theorem own_base {w : World} {lo e sz : Nat} {v : Value} {m : Nat} {xs : List Value} (h : w.ownsRow 0 e sz v m xs) (hl : ∀ b, v.ownBlock = some b → lo ≤ b) : w.ownsRow lo e sz v m xs := by
  obtain ⟨h1, h2⟩ := h
  refine ⟨h1, ?_⟩
  rcases h2 with h2 | ⟨g, cap, cur, rfl, a1, a2⟩
  · exact .inl h2
  · exact .inr ⟨g, cap, cur, rfl, hl g rfl, a2⟩
theorem own_base0 {w : World} {lo e sz : Nat} {v : Value} {m : Nat} {xs : List Value} (h : w.ownsRow lo e sz v m xs) : w.ownsRow 0 e sz v m xs ∧ ∀ b, v.ownBlock = some b → lo ≤ b := by
  obtain ⟨h1, h2⟩ := h
  rcases h2 with ⟨h2, h3⟩ | ⟨g, cap, cur, rfl, a1, a2⟩
  · exact ⟨⟨h1, .inl ⟨h2, h3⟩⟩, fun b hb => by rw [h2] at hb; cases hb⟩
  · exact ⟨⟨h1, .inr ⟨g, cap, cur, rfl, Nat.zero_le _, a2⟩⟩, fun b hb => by cases hb; exact a1⟩
namespace Sx
section
variable {P : Program} {n : Nat} {D : List Deferred} {s : Sl} {w : World} {ops : Array Oper} {K : KK} {rest : List Oper} {ty : TypeId} {pos : String} {af : Array Edge} {d : Nat} {x y : Operand}
theorem Ev.lenS {t : TypeId} {sz by_ : Nat} {z : Value} {bs : ByteArray} [hT : HasT P t .string sz by_ z] (hx : opnd s x = some (.string bs)) : Ev P s (.call ⟨.builtin .len, [x].toArray, #[t]⟩) ty w (.int .i64 ((sB bs).length : Int)) w := fun ρ d' pos af g hρ => by
  have e1 := hρ x _ hx
  rw [sB_len]
  simp [execOp, resolve, invoke, builtin, e1, Builtin.len_, run_underlying hT.und, goInt]
theorem WL.growS {t u e : TypeId} {sz by_ sz' by' : Nat} {z z' : Value} {v : Value} {lo : Nat} {l : List Nat} {str : ByteArray} [hT : HasT P t (.slice e) sz by_ z] [hU : HasT P u .string sz' by' z'] [hE : HasT P e (.int .u8) 1 1 (.int .u8 0)]
    (hx : opnd s x = some v) (hy : opnd s y = some (.string str)) (hg : GR w e u8v lo [] v l) (hlo : lo ≤ w.heap.size) (h63 : l.length + (sB str).length ≤ 70368744177664) (hd : Nat.blt d n = true)
    (k : ∀ v' w', GR w' e u8v lo [] v' (l ++ sB str) → Chg v.ownBlock.toList w w' → WL P ops K rest n D ((d, v') :: s) w') :
    WL P ops K (⟨some d, .call ⟨.builtin .append, [x, y].toArray, #[t, u]⟩, ty, pos, af, none⟩ :: rest) n D s w := by
  obtain ⟨i, hi, hi1, hi2, hi3⟩ := hE.inf
  obtain ⟨v', w', hr, ho, hgr, _⟩ := Lib.run_append_own_string (P := P) w lo t u ty e i hT.und hU.und hi hi3 hi1 hi2 v l.length (l.map u8v) (own_base hg.1 fun b hb => (hg.2 b hb).1) str (by rw [← sB_len]; unfold maxLen; omega) (by rw [← sB_len]; omega) hlo
  obtain ⟨o1, o2⟩ := own_base0 ho
  refine WL.ev (v := v') (w' := w') (fun ρ d' pos af g hρ => ?_) hd (k _ _ ⟨?_, fun b hb => ⟨o2 b hb, by simp⟩⟩ (Chg.of_grown hgr))
  · have e1 := hρ x _ hx
    have e2 := hρ y _ hy
    simp [execOp, resolve, invoke, builtin, e1, e2, hr]
  · rw [List.length_append, sB_len, List.map_append, ← strCells_eq]; exact o1
theorem bytes_fold (l : List Nat) (r : ByteArray) : (l.map fun (x : Nat) => (x : Int)).foldl (fun r n => r.push (UInt8.ofNat n.toNat)) r = ⟨r.data ++ (l.map UInt8.ofNat).toArray⟩ := by
  induction l generalizing r with
  | nil => simp
  | cons a l ih =>
    simp only [List.map_cons, List.foldl_cons]
    rw [ih]
    congr 1
    apply Array.ext'
    simp [ByteArray.push]
theorem Ev.toStr {src dst e : TypeId} {sz by_ sz' by' be : Nat} {z z' : Value} {a : Option Addr} {m c : Nat} {l : List Nat} [hS : HasT P src (.slice e) sz by_ z] [hE : HasT P e (.int .u8) 1 be (.int .u8 0)] [hD : HasT P dst .string sz' by' z']
    (hx : opnd s x = some (.slice a m c)) (hm : m = l.length) (hr : RW w a (l.map u8v)) : Ev P s (.convert src dst x) ty w (.string (bA l)) w := fun ρ d' pos af g hρ => by
  have e1 := hρ x _ hx
  subst hm
  have h0 := run_convert_bytes_string (P := P) w src dst e a l.length c hS.und hE.und hD.und
  have h1 : (Conv.bytesToString (.slice a l.length c)).run P w = .ok (.string (bA l)) w := by
    cases a with
    | none =>
      cases l with
      | nil => rfl
      | cons u r => obtain ⟨ad, e, _⟩ := hr 0 _ rfl; cases e
    | some ad =>
      have hl : (loadCells ad l.length).run P w = .ok ((l.map fun (x : Nat) => (x : Int)).map (Value.int .u8)).toArray w := by
        have := run_loadCells_list (P := P) (w := w) ad (l.map u8v) fun j v hv => by
          obtain ⟨ad', e, hc⟩ := hr j v hv
          cases e; exact hc
        simp only [List.length_map] at this
        rw [this, List.map_map]
        rfl
      rw [run_bytesToString (P := P) w ad l.length c _ hl, bytes_fold]
      congr 2
      first | (simp [bA, ByteArray.empty, ByteArray.emptyWithCapacity]; done) | (simp [bA, ByteArray.empty, ByteArray.emptyWithCapacity]; rfl)
  simp [execOp, e1, h0, h1]
theorem Ev.orI {t t' : TypeId} {a b : Nat} (hx : opnd s x = some (.int .i64 (a : Int))) (hy : opnd s y = some (.int .i64 (b : Int))) (ha : a < 4611686018427387904) (hb : b < 4611686018427387904) : Ev P s (.binOp .or t x y t') ty w (.int .i64 ((a ||| b : Nat) : Int)) w := by
  have := Ev.or (P := P) (w := w) (ty := ty) (t := t) (t' := t') hx hy
  have e : bits2 .or .i64 (a : Int) (b : Int) = ((a ||| b : Nat) : Int) := by
    have h62 : a ||| b < 4611686018427387904 := Nat.or_lt_two_pow (n := 62) ha hb
    have ha' : a < 2 ^ IntKind.i64.bits := by simp only [IntKind.bits]; omega
    have hb' : b < 2 ^ IntKind.i64.bits := by simp only [IntKind.bits]; omega
    simp only [bits2, ofInt_nat, BitVec.toNat_or, BitVec.toNat_ofNat, Nat.mod_eq_of_lt ha', Nat.mod_eq_of_lt hb']
    exact wrap_in ⟨by show (-9223372036854775808 : Int) ≤ _; omega, by show _ ≤ (9223372036854775807 : Int); omega⟩
  rwa [e] at this
theorem Ev.shlN {t t' : TypeId} {k' : IntKind} {a b : Nat} (hx : opnd s x = some (.int .i64 (a : Int))) (hy : opnd s y = some (.int k' (b : Int))) (hb : b ≤ 63) (h : a * 2 ^ b < 9223372036854775808) : Ev P s (.binOp .shl t x y t') ty w (.int .i64 ((a * 2 ^ b : Nat) : Int)) w := by
  have := Ev.shl (P := P) (w := w) (ty := ty) (t := t) (t' := t') hx hy (by omega)
  have e : IntKind.i64.wrap ((a : Int) * 2 ^ (min (b : Int).toNat IntKind.i64.bits)) = ((a * 2 ^ b : Nat) : Int) := by
    rw [show min (b : Int).toNat IntKind.i64.bits = b by simp only [IntKind.bits]; omega]
    have e2 : (a : Int) * 2 ^ b = ((a * 2 ^ b : Nat) : Int) := by simp
    rw [e2]
    exact wrap_in ⟨by show (-9223372036854775808 : Int) ≤ _; omega, by show _ ≤ (9223372036854775807 : Int); omega⟩
  rwa [e] at this
/-- append(own, a row..): rows of several cells each. -/
theorem WL.growC {t e es be : Nat} {de : TypeDesc} {ze : Value} {sz by_ : Nat} {z : Value} {v : Value} {lo : Nat} {m : Nat} {l news : List Value} {ad : Addr} {mm c : Nat} [hT : HasT P t (.slice e) sz by_ z] [hE : HasT P e de es be ze]
    (hzs : ze.cells.size = es) (hsz : 0 < es) (h1 : ∀ u ∈ news, u.oneCell' = true) (hx : opnd s x = some v) (hy : opnd s y = some (.slice (some ad) mm c)) (hg : GRc w e es lo [] v m l) (hm : news.length = mm * es) (hr : RW w (some ad) news) (hlo : lo ≤ w.heap.size)
    (hbytes : (m + mm) * be ≤ 140737488355328) (h63 : m + mm ≤ 70368744177664) (hd : Nat.blt d n = true)
    (k : ∀ v' w', GRc w' e es lo [] v' (m + mm) (l ++ news) → Chg v.ownBlock.toList w w' → WL P ops K rest n D ((d, v') :: s) w') :
    WL P ops K (⟨some d, .call ⟨.builtin .append, [x, y].toArray, #[t, t]⟩, ty, pos, af, none⟩ :: rest) n D s w := by
  refine WL.append (news := news) hzs hsz hx hy hg.1 hm (fun j u hu => ?_) h1 (by unfold maxLen; omega) hbytes hd fun v' w' ho hc hl => ?_
  · obtain ⟨ad', e1, hcell⟩ := hr j u hu
    cases e1; exact hcell
  · refine k v' w' ⟨ho, fun b hb => ⟨?_, by simp⟩⟩ hc
    rcases hl with q | q
    · rw [q] at hb; exact (hg.2 b hb).1
    · rw [q] at hb; cases hb; exact hlo
end
end Sx
section
variable {w w' : World} {e es lo m : Nat} {X : List Nat} {v : Value} {l : List Value}
theorem GRc.keepV {T : List Nat} (h : GRc w e es lo X v m l) (hc : Chg T w w') (ht : ∀ b ∈ T, v.ownBlock ≠ some b) : GRc w' e es lo X v m l :=
  ⟨own_keep h.1 hc fun x hx hm => ht x hm hx, h.2⟩
theorem GRc.keep0 (h : GRc w e es lo X v m l) (hc : Chg [] w w') : GRc w' e es lo X v m l := h.keepV hc (fun b hb => by cases hb)
theorem GRc.lt (h : GRc w e es lo X v m l) {b : Nat} (hb : v.ownBlock = some b) : b < w.heap.size := own_lt h.1 hb
theorem GRc.cells_ (h : GRc w e es lo X v m l) {b : Nat} (hb : v.ownBlock = some b) : ∃ cur, w.heap[b]? = some (.cells cur e (0, 0)) := by
  rcases h.1.2 with ⟨rfl, _⟩ | ⟨g, cap, cur, rfl, a1, a2, _⟩
  · cases hb
  · cases hb; exact ⟨cur, a2⟩
theorem GRc.notBK {T : TypeId} {bk : Nat} {cs : List Value} (h : GRc w e es lo X v m l) (hb : BK w bk T cs) (hne : e ≠ T) : v.ownBlock ≠ some bk := fun h1 => by
  obtain ⟨cur, hc⟩ := h.cells_ h1
  have := hc.symm.trans hb
  simp at this
  exact hne this.2
theorem GRc.row (h : GRc w e es lo X v m l) : ∃ a c, v = .slice a m c ∧ m ≤ c ∧ RW w a l ∧ l.length = m * es := by
  rcases h.1.2 with ⟨rfl, h0⟩ | ⟨g, cap, cur, rfl, _, hg, hc, _, hs, ht⟩
  · subst h0
    have : l = [] := List.length_eq_zero_iff.1 (by have := h.1.1; omega)
    subst this
    exact ⟨none, 0, rfl, Nat.le_refl _, RW.nil, by simp⟩
  · exact ⟨_, cap, rfl, hc, RW.of_own h.1, h.1.1⟩
theorem GRc.sep {e' : TypeId} {f : Nat → Value} {lo' : Nat} {Y : List Nat} {u : Value} {k : List Nat} (h : GRc w e es lo X v m l) (h' : GR w e' f lo' Y u k) (hne : e ≠ e') : ∀ b ∈ v.ownBlock.toList, u.ownBlock ≠ some b := fun b hb h1 => by
  obtain ⟨cur, hc⟩ := h.cells_ (Option.mem_toList.1 hb)
  obtain ⟨cur', hc'⟩ := h'.cells h1
  have := hc.symm.trans hc'
  simp at this
  exact hne this.2
end
end

/- The program: numbers as bytes. No condition. -/
section
open Go Sx Wd Fl

theorem pow8 (i : Nat) : 2 ^ (8 * i) = 256 ^ i := by rw [Nat.pow_mul]
structure KLw (n k b : Nat) (w0 : World) (i : Nat) (w : World) : Prop where
  hi : i ≤ k
  hb : YB w b 5 (leB n i ++ List.replicate (k - i) 0)
  ch : Chg [] w0 w

theorem low_spec (n k : Nat) (w : World) (hn : n < 18446744073709551616) (hk : k ≤ 8) : Ret Tryz.prog 62 [.int .u64 (n : Int), .int .i64 (k : Int)] w fun u w' => (∃ b, u = .slice (some ⟨b, 0, none⟩) k k ∧ YB w' b 5 (leB n k) ∧ w.heap.size ≤ b) ∧ Chg [] w w' := by
 have hch : Chg [] w w := Chg.refl _ _;refine zE2 Tryz.func62 rfl ?_;refine Sr fun _ kh1 => za rfl (zz (kh1 (Sr fun _ kh3 => zm rfl ?_)));refine WL.makeY k k rfl rfl rfl rfl (Nat.le_refl _) (by omega) (by omega) rfl fun b8 w8 hb8 hcm8 hgb => ?_;have hch := hch.ta hcm8;refine za rfl (zz (kh3 (zc fun _ kh5 => Sr fun _ kh6 => zm rfl (zn rfl (zm rfl (zz (kh6 ?_)))))));refine CW.block ?_;refine CW.loop (S := fun i : Nat => [(0, .int .u64 (n : Int)), (5, .slice (some ⟨b8, 0, none⟩) k k), (10, .int .i64 (k : Int)), (11, .int .i64 (i : Int))]) (Inv := KLw n k b8 w) (mu := fun i => k - i) (0) ?_ ?_ ?_
 ·exact ⟨Nat.zero_le _, hb8, hch⟩
 ·exact SLp
 ·rintro i wr ⟨hi, hb8, hch⟩;refine Sr fun _ kh8 => ?_;refine WL.ev (Ev.lss rfl rfl) rfl ?_;refine zz (kh8 (zc fun _ kh10 => ?_));refine zy rfl ?_ ?_<;>intro hc1<;>try simp only [qs] at hc1
  ·obtain ⟨m, hm⟩ : ∃ m, k - i = m + 1 := ⟨k - i - 1, by omega⟩
   rw [hm] at hb8;have hll := leB_len n i;refine zkk ?_;refine kh10 (zc fun _ kh11 => ?_);refine CW.block ?_;refine Sr fun _ kh12 => zm rfl (za rfl (zz (kh12 ?_)));refine zR fun _ kr14 => ?_;refine zm rfl (zm rfl (zm rfl (zm rfl ?_)));refine WL.ev (Ev.mulIn rfl rfl (by omega)) rfl ?_;refine WL.ev (Ev.shrU (b := 8 * i) rfl rfl (by simp only [IntKind.bits]; omega)) rfl ?_;rw [pow8];refine WL.ev (Ev.conv8 rfl rfl) rfl ?_;refine WL.ev (Ev.ixB (i) rfl rfl (by omega) (by omega)) rfl ?_;refine WL.storeY rfl rfl hb8 (by rw [List.length_append, List.length_replicate]; omega) fun ws1 hb8_ hcs1 => ?_;have hset := set_pad (leB n i) (n / 256 ^ i % 256) m;rw [hll] at hset;rw [hset, ← leB_succ, show m = k - (i + 1) by omega] at hb8_;have hb8 := hb8_;have hch := hch.step hcs1 (fun y hy => .inr (by rw [List.mem_singleton.1 hy]; exact hgb));refine WL.nil (kr14 _ _ _ (kh11 ?_));refine zR fun _ kr15 => ?_;(first | refine zi rfl rfl ?_ | refine zo rfl rfl ?_);refine zm rfl ?_;refine WL.nil (kr15 _ _ _ ?_);refine ⟨rfl, i + 1, ?_, ?_, ?_⟩
   ·exact SLp
   ·exact ⟨by omega, hb8, hch⟩
   ·show k - (i + 1) < k - i; omega
  ·have hik : i = k := by omega
   subst hik;rw [Nat.sub_self, List.replicate_zero, List.append_nil] at hb8;refine CW.exit ?_;refine kh5 (Sr fun _ kh16 => zm rfl (za rfl (zz (kh16 ?_))));refine zr (zr1 rfl rfl ?_);exact ⟨⟨b8, rfl, hb8, hgb⟩, hch⟩

end

/- The program: a dyad as bytes. No condition. -/
section
open Go Sx Wd Fl

theorem cut_1 {b j c : Nat} (h : j < c) : cutAt (some ⟨b, 0, none⟩) j c 1 = some ⟨b, j, none⟩ := by
  unfold cutAt
  rw [if_neg (by omega)]
  simp [Addr.add]
  intro q; exact q.symm
theorem pad_sgn (neg : Bool) (n : Nat) : (if neg = true then (List.replicate (n + 1) 0).set 0 1 else List.replicate (n + 1) 0) = leB (if neg = true then 1 else 0) 1 ++ List.replicate n 0 := by
  cases neg <;> rfl
/-- A copy behind what is there. -/
theorem YB.pad {w : World} {b : Nat} {E : TypeId} {p xs : List Nat} {o k n : Nat} (h : YB w b E ((p ++ List.replicate k 0).take o ++ xs ++ (p ++ List.replicate k 0).drop (o + xs.length))) (ho : p.length = o) (hk : k = xs.length + n) : YB w b E (p ++ xs ++ List.replicate n 0) := by
  subst ho; subst hk
  rwa [copy_pad] at h
structure KWr (x : Dy) (b1 b11 cx N : Nat) (ax : Option Addr) (H : List Nat) (w0 : World) (i : Nat) (w : World) : Prop where
  hi : i ≤ (wd x.m).length
  h1 : BK w b1 107 [.bool x.neg, .slice ax (wd x.m).length cx, .int .i64 x.e]
  hb : YB w b11 5 ((H ++ (((wd x.m).take i).map fun y => leB y 4).flatten) ++ List.replicate (4 * ((wd x.m).length - i)) 0)
  ch : Chg [] w0 w

theorem written_spec (x : Dy) (rx : Value) (w : World) (hN0 : NU w rx (wd x.m)) (he : -4096 ≤ x.e ∧ x.e ≤ 61439) (hl : (wd x.m).length ≤ 65535) : Ret Tryz.prog 63 [.agg [.bool x.neg, rx, .int .i64 x.e].toArray] w fun u w' => (∃ b, u = .slice (some ⟨b, 0, none⟩) (encD x).length (encD x).length ∧ YB w' b 5 (encD x) ∧ w.heap.size ≤ b) ∧ Chg [] w w' := by
  obtain ⟨⟨ax, cx, rfl, hcapx, hrx⟩, hWx, hlx⟩ := hN0;obtain ⟨N, hN⟩ : ∃ N, N = 5 + 4 * (wd x.m).length := ⟨_, rfl⟩;have hch : Chg [] w w := Chg.refl _ _;refine zE1 Tryz.func63 rfl ?_;refine Sr fun _ kh1 => ?_;refine zBh rfl rfl rfl hch fun b1 wm1 hb1 hcm1 hge1 hgehch1 hch => ?_;refine za rfl (zz (kh1 (Sr fun _ kh3 => zf rfl ?_)));refine WL.ev (Ev.load (v := .slice ax (wd x.m).length cx) rfl rfl (hb1.at_ rfl)) rfl ?_;refine zn rfl ?_;refine WL.ev (Ev.mulIn rfl rfl (by omega)) rfl ?_;(first | refine zi rfl rfl ?_ | refine zo rfl rfl ?_);have hch0 := hch.size;refine WL.makeY N N rfl rfl (by omega) (by omega) (Nat.le_refl _) (by omega) (by omega) rfl fun b11 w11 hb11 hcm11 hgb => ?_;have hne0 : b1 ≠ b11 := by have := hb1.lt; have := hgb; omega
  have hch := hch.ta hcm11;have hb1 := hb1.keep0 hcm11;have hgb := Nat.le_trans hch0 hgb;refine za rfl (zz (kh3 ?_));refine CW.seqJ (fun D s' w' => D = [] ∧ BK w' b1 107 [.bool x.neg, .slice ax (wd x.m).length cx, .int .i64 x.e] ∧ YB w' b11 5 (leB (if x.neg = true then 1 else 0) 1 ++ List.replicate (4 + 4 * (wd x.m).length) 0) ∧ Chg [] w w' ∧ Subs [(1, .pointer (some ⟨b1, 0, none⟩)), (3, .slice (some ⟨b11, 0, none⟩) N N)] s') ?_ ?_
  · refine Sr fun _ kh6 => zf rfl (zl hb1 rfl rfl (zz (kh6 ?_)));refine zy rfl ?_ ?_<;>intro hc1<;>try simp only [qs] at hc1
    · have hng := hc1
      refine zR fun _ kr8 => ?_;refine zm rfl ?_;refine WL.ev (Ev.ixB (0) rfl rfl rfl (by omega)) rfl ?_;refine WL.storeY (v := 1) rfl rfl hb11 (by rw [List.length_replicate]; omega) fun ws1 hb11_ hcs1 => ?_;have hb1 := hb1.keep hcs1 (by simpa using hne0);have hch := hch.step hcs1 (fun y hy => .inr (by rw [List.mem_singleton.1 hy]; exact hgb));have hpd := pad_sgn x.neg (4 + 4 * (wd x.m).length);rw [if_pos hng, show 4 + 4 * (wd x.m).length + 1 = N by omega] at hpd;rw [hpd] at hb11_;refine WL.nil (kr8 _ _ _ ?_);exact ⟨rfl, hb1, hb11_, hch, (by first | ((repeat (first | exact Subs.refl | refine Subs.drop1 (by rfl) ?_)); done) | ((repeat (first | exact Subs.nil | refine Subs.cons rfl ?_)); done))⟩
    · have hng : ¬ x.neg = true := by simpa using hc1
      have hpd := pad_sgn x.neg (4 + 4 * (wd x.m).length);rw [if_neg hng, show 4 + 4 * (wd x.m).length + 1 = N by omega] at hpd;rw [hpd] at hb11;refine zkk ?_;exact ⟨rfl, hb1, hb11, hch, (by first | ((repeat (first | exact Subs.refl | refine Subs.drop1 (by rfl) ?_)); done) | ((repeat (first | exact Subs.nil | refine Subs.cons rfl ?_)); done))⟩
  · rintro _ s' wJ ⟨rfl, hb1, hb11, hch, hsub⟩;refine CW.sub hsub ?_;refine zc fun _ kh9 => ?_;refine CW.regionHT [b11] 8 rfl hmix fun kR10 kr10 hS hdr => ?_;have hch := hch.ta hdr;have hb1 := hb1.keep0 hdr;have hb1_r := hb1;have hb1_r := hb1;have hb11 := hb11.keep0 hdr;have hne1 : b1 ∉ [b11] := by simp; omega
    refine wh 0 rfl hS (fun _ _ => Ev.move rfl) (wh 1 rfl hS (fun _ _ => show Ev _ _ _ _ _ (Value.slice (some ⟨b11, 1, none⟩) (N - (1)) (N - (1))) _ from (by rw [← cut_1 (b := b11) (j := 1) (c := N) (by omega)]; exact Ev.sliceLn (1) rfl rfl (by first | rfl | omega) (by omega))) (wh 2 rfl hS (fun _ _ => Ev.fieldAddr rfl) (wh 3 rfl hS (fun _ hw' => Ev.load (v := .int .i64 x.e) rfl rfl ((hb1_r.keep hw' hne1).at_ rfl)) ?_)));obtain ⟨e9, he9⟩ : ∃ e9 : Nat, (e9 : Int) = x.e + 4096 := ⟨(x.e + 4096).toNat, by omega⟩;refine wh 4 rfl hS (fun _ _ => Ev.addIn rfl rfl (by omega)) ?_;rw [← he9];refine wh 5 rfl hS (fun _ _ => Ev.convIn rfl rfl (in_u64 (by omega))) ?_;refine WH.oneCall 6 rfl (by kernel_rfl) hasF62 rfl rfl (low_spec (e9) 2 _ (by omega) (by decide)) fun v w22 h' => ?_;obtain ⟨⟨b22, rfl, hb22, hg22⟩, hC⟩ := h';have hS := hS.ta hC;refine ⟨hS, ?_⟩;have hch := hch.trans hC;have hb1 := hb1.keep0 hC;have hb11 := hb11.keep0 hC;have hxl := leB_len (e9) 2;have hpl : (leB (if x.neg = true then 1 else 0) 1).length = 1 := by rw [leB_len]
    refine WH.copyY 7 (leB (e9) 2) rfl (by kernel_rfl) hS (List.mem_singleton.2 rfl) rfl rfl hxl.symm hb11 hb22.row (by omega) (by omega) (by rw [hxl, List.length_append, hpl, List.length_replicate]; omega) rfl fun w23 hb11 hc23 hS => ?_;have hb11 := hb11.pad (n := 2 + 4 * (wd x.m).length) hpl (by first | (rw [hxl]; done) | (rw [hxl]; omega));have hb1 := hb1.keep hc23 hne1;have hch := hch.step hc23 (fun y hy => .inr (by rw [List.mem_singleton.1 hy]; exact hgb));refine WH.done (by kernel_rfl) (kr10 _ _ _ ?_);refine kh9 (zc fun _ kh11 => ?_);refine CW.regionHT [b11] 8 rfl hmix fun kR12 kr12 hS hdr => ?_;have hch := hch.ta hdr;have hb1 := hb1.keep0 hdr;have hb1_r := hb1;have hb1_r := hb1;have hb11 := hb11.keep0 hdr;have hne1 : b1 ∉ [b11] := by simp; omega
    refine wh 0 rfl hS (fun _ _ => Ev.move rfl) (wh 1 rfl hS (fun _ _ => show Ev _ _ _ _ _ (Value.slice (some ⟨b11, 3, none⟩) (N - (3)) (N - (3))) _ from (by rw [← cut_1 (b := b11) (j := 3) (c := N) (by omega)]; exact Ev.sliceLn (3) rfl rfl (by first | rfl | omega) (by omega))) (wh 2 rfl hS (fun _ _ => Ev.fieldAddr rfl) (wh 3 rfl hS (fun _ hw' => Ev.load (v := .slice ax (wd x.m).length cx) rfl rfl ((hb1_r.keep hw' hne1).at_ rfl)) (wh 4 rfl hS (fun _ _ => Ev.len rfl) (wh 5 rfl hS (fun _ _ => Ev.convIn rfl rfl (in_u64 (by omega))) ?_)))));refine WH.oneCall 6 rfl (by kernel_rfl) hasF62 rfl rfl (low_spec ((wd x.m).length) 2 _ (by omega) (by decide)) fun v w30 h' => ?_;obtain ⟨⟨b30, rfl, hb30, hg30⟩, hC⟩ := h';have hS := hS.ta hC;refine ⟨hS, ?_⟩;have hch := hch.trans hC;have hb1 := hb1.keep0 hC;have hb11 := hb11.keep0 hC;have hxl := leB_len ((wd x.m).length) 2;have hpl : ((leB (if x.neg = true then 1 else 0) 1 ++ leB e9 2)).length = 3 := by rw [List.length_append, leB_len, leB_len]
    refine WH.copyY 7 (leB ((wd x.m).length) 2) rfl (by kernel_rfl) hS (List.mem_singleton.2 rfl) rfl rfl hxl.symm hb11 hb30.row (by omega) (by omega) (by rw [hxl, List.length_append, hpl, List.length_replicate]; omega) rfl fun w31 hb11 hc31 hS => ?_;have hb11 := hb11.pad (n := 4 * (wd x.m).length) hpl (by first | (rw [hxl]; done) | (rw [hxl]; omega));have hb1 := hb1.keep hc31 hne1;have hch := hch.step hc31 (fun y hy => .inr (by rw [List.mem_singleton.1 hy]; exact hgb));refine WH.done (by kernel_rfl) (kr12 _ _ _ ?_);refine kh11 (zc fun _ kh13 => Sr fun _ kh14 => zf rfl ?_);refine WL.ev (Ev.load (v := .slice ax (wd x.m).length cx) rfl rfl (hb1.at_ rfl)) rfl ?_;refine zn rfl (zm rfl (zz (kh14 ?_)));refine CW.block ?_;refine CW.loop (S := fun i : Nat => [(1, .pointer (some ⟨b1, 0, none⟩)), (3, .slice (some ⟨b11, 0, none⟩) N N), (33, .slice ax (wd x.m).length cx), (34, .int .i64 ((wd x.m).length : Int)), (35, .int .i64 (i : Int))]) (Inv := KWr x b1 b11 cx N ax ((leB (if x.neg = true then 1 else 0) 1 ++ leB e9 2) ++ leB (wd x.m).length 2) w) (mu := fun i => (wd x.m).length - i) (0) ?_ ?_ ?_
    · exact ⟨Nat.zero_le _, hb1, by rw [List.take_zero, List.map_nil, List.flatten_nil, List.append_nil, Nat.sub_zero]; exact hb11, hch⟩
    · exact SLp
    · rintro i wr ⟨hi, hb1, hb11, hch⟩;refine Sr fun _ kh16 => ?_;refine WL.ev (Ev.lss rfl rfl) rfl ?_;refine zz (kh16 (zc fun _ kh18 => ?_));refine zy rfl ?_ ?_<;>intro hc2<;>try simp only [qs] at hc2
      · have hxi := hWx.getD i
        refine zkk ?_;refine kh18 (zc fun _ kh19 => ?_);refine CW.block ?_;refine Sr fun _ kh20 => zm rfl ?_;refine WL.ev (Ev.ixR (i) rfl rfl (hrx.keep0 hch) (by omega) (by omega) (by simp; omega)) rfl ?_;refine WL.ev (Ev.load rfl rfl ((hrx.keep0 hch).u32 (by first | omega | (simp; omega)))) rfl ?_;refine za rfl (za rfl (zz (kh20 ?_)));refine CW.regionHT [b11] 9 rfl hmix fun kR22 kr22 hS hdr => ?_;have hch := hch.ta hdr;have hb1 := hb1.keep0 hdr;have hb11 := hb11.keep0 hdr;have hne1 : b1 ∉ [b11] := by simp; omega
        refine wh 0 rfl hS (fun _ _ => Ev.move rfl) (wh 1 rfl hS (fun _ _ => Ev.move rfl) (wh 2 rfl hS (fun _ _ => Ev.mulIn rfl rfl (by omega)) (wh 3 rfl hS (fun _ _ => Ev.addIn rfl rfl (by omega)) ?_)));rw [show (5 : Int) + 4 * (i : Int) = ((5 + 4 * i : Nat) : Int) by omega];refine wh 4 rfl hS (fun _ _ => show Ev _ _ _ _ _ (Value.slice (some ⟨b11, 5 + 4 * i, none⟩) (N - (5 + 4 * i)) (N - (5 + 4 * i))) _ from (by rw [← cut_1 (b := b11) (j := 5 + 4 * i) (c := N) (by omega)]; exact Ev.sliceLn (5 + 4 * i) rfl rfl (by first | rfl | omega) (by omega))) (wh 5 rfl hS (fun _ _ => Ev.move rfl) (wh 6 rfl hS (fun _ _ => Ev.convIn rfl rfl (in_u64 (by omega))) ?_));refine WH.oneCall 7 rfl (by kernel_rfl) hasF62 rfl rfl (low_spec ((wd x.m).getD i 0) 4 _ (by omega) (by decide)) fun v w47 h' => ?_;obtain ⟨⟨b47, rfl, hb47, hg47⟩, hC⟩ := h';have hS := hS.ta hC;refine ⟨hS, ?_⟩;have hch := hch.trans hC;have hb1 := hb1.keep0 hC;have hb11 := hb11.keep0 hC;have hxl := leB_len ((wd x.m).getD i 0) 4;have hpl : (((leB (if x.neg = true then 1 else 0) 1 ++ leB e9 2) ++ leB (wd x.m).length 2) ++ (((wd x.m).take i).map fun y => leB y 4).flatten).length = 5 + 4 * i := by simp only [List.length_append, leB_len, flat_len, List.length_take]; omega
        refine WH.copyY 8 (leB ((wd x.m).getD i 0) 4) rfl (by kernel_rfl) hS (List.mem_singleton.2 rfl) rfl rfl hxl.symm hb11 hb47.row (by omega) (by omega) (by rw [hxl, List.length_append, hpl, List.length_replicate]; omega) rfl fun w48 hb11 hc48 hS => ?_;have hb11 := hb11.pad (n := 4 * ((wd x.m).length - (i + 1))) hpl (by first | (rw [hxl]; done) | (rw [hxl]; omega));have hb1 := hb1.keep hc48 hne1;have hch := hch.step hc48 (fun y hy => .inr (by rw [List.mem_singleton.1 hy]; exact hgb));rw [List.append_assoc ((leB (if x.neg = true then 1 else 0) 1 ++ leB e9 2) ++ leB (wd x.m).length 2), ← flat_take (by omega)] at hb11;refine WH.done (by kernel_rfl) (kr22 _ _ _ ?_);refine kh19 ?_;refine zR fun _ kr23 => ?_;(first | refine zi rfl rfl ?_ | refine zo rfl rfl ?_);refine zm rfl ?_;refine WL.nil (kr23 _ _ _ ?_);refine ⟨rfl, i + 1, ?_, ?_, ?_⟩
        · exact SLp
        · exact ⟨by omega, hb1, hb11, hch⟩
        · show (wd x.m).length - (i + 1) < (wd x.m).length - i; omega
      · have hiX : i = (wd x.m).length := by omega
        subst hiX;rw [List.take_length, Nat.sub_self, Nat.mul_zero, List.replicate_zero, List.append_nil] at hb11;refine CW.exit ?_;refine kh13 (Sr fun _ kh24 => zm rfl (za rfl (zz (kh24 ?_))));refine zr (zr1 rfl rfl ?_);refine ⟨⟨b11, ?_, ?_, hgb⟩, hch⟩
        · rw [encD_len, ← hN]
        · have e1 : (x.e + 4096).toNat = e9 := by omega
          unfold encD;rw [e1];exact hb11

end

/- The program: a shard as bytes. No condition. -/
section
open Go Sx Wd Fl

theorem NU.at_ {w w' : World} {r : Value} {l : List Nat} (h : NU w r l) (hc : Chg [] w w') : NU w' r l := h.keep0 hc
structure KEp (b : Nat) (S : Sh) (rv rq : Value) (w0 : World) (g : Nat × Value) (w : World) : Prop where
  hi : g.1 ≤ 6
  hb : BK w b 109 [.int .i64 (S.s.na : Int), .int .i64 (S.s.up : Int), .int .i64 (S.s.dn : Int), .int .i64 (S.s.mi : Int), .int .i64 (S.s.pl : Int), .int .i64 (S.s.al : Int), .bool S.V.neg, rv, .int .i64 S.V.e, .bool S.Q.neg, rq, .int .i64 S.Q.e, .float .f64 S.lo, .float .f64 S.hi]
  g : GR w 5 u8v w0.heap.size [] g.2 ((([S.s.na, S.s.up, S.s.dn, S.s.mi, S.s.pl, S.s.al].take g.1).map fun y => leB y 8).flatten)
  ch : Chg [] w0 w

theorem shEncode_spec (b : Nat) (S : Sh) (w : World) (hS : ShM 109 w b S) (hwf : S.wf) (hex : S.ex) : Ret Tryz.prog 14 [.pointer (some ⟨b, 0, none⟩)] w fun u w' => GR w' 5 u8v w.heap.size [] u (encS S) ∧ Chg [] w w' := by
 obtain ⟨rv, rq, hb, hNv0, hNq0⟩ := hS;obtain ⟨⟨hs1, hs2, hs3, hs4, hs5, hs6⟩, hokV, hokQ, hloS, hhiS⟩ := hwf;have hb00 := hb;have hexv := hex.lv;have hexq := hex.lq;have hch : Chg [] w w := Chg.refl _ _;refine zE1 Tryz.func14 rfl ?_;refine Sr fun _ kh1 => za rfl (zz (kh1 (Sr fun _ kh3 => za rfl (zz (kh3 (zc fun _ kh5 => zc fun _ kh6 => ?_))))));refine CW.regionSC hmix (by kernel_rfl) fun kR7 kr7 hdr => ?_;have hch := hch.ta hdr;have hb := hb.keep0 hdr;refine ym rfl ?_;refine WS.ev (Ev.nilPtr rfl) rfl ?_;refine WS.ev (Ev.fieldAddr rfl) rfl ?_;refine WS.ev (Ev.fieldAddr rfl) rfl ?_;refine WS.ev (Ev.load rfl rfl (hb.at_ rfl)) rfl ?_;refine ym rfl ?_;refine WS.ev (Ev.nilPtr rfl) rfl ?_;refine WS.ev (Ev.fieldAddr rfl) rfl ?_;refine WS.ev (Ev.fieldAddr rfl) rfl ?_;refine WS.ev (Ev.load rfl rfl (hb.at_ rfl)) rfl ?_;refine ym rfl ?_;refine WS.ev (Ev.nilPtr rfl) rfl ?_;refine WS.ev (Ev.fieldAddr rfl) rfl ?_;refine WS.ev (Ev.fieldAddr rfl) rfl ?_;refine WS.ev (Ev.load rfl rfl (hb.at_ rfl)) rfl ?_;refine ym rfl ?_;refine WS.ev (Ev.nilPtr rfl) rfl ?_;refine WS.ev (Ev.fieldAddr rfl) rfl ?_;refine WS.ev (Ev.fieldAddr rfl) rfl ?_;refine WS.ev (Ev.load rfl rfl (hb.at_ rfl)) rfl ?_;refine ym rfl ?_;refine WS.ev (Ev.nilPtr rfl) rfl ?_;refine WS.ev (Ev.fieldAddr rfl) rfl ?_;refine WS.ev (Ev.fieldAddr rfl) rfl ?_;refine WS.ev (Ev.load rfl rfl (hb.at_ rfl)) rfl ?_;refine ym rfl ?_;refine WS.ev (Ev.nilPtr rfl) rfl ?_;refine WS.ev (Ev.fieldAddr rfl) rfl ?_;refine WS.ev (Ev.fieldAddr rfl) rfl ?_;refine WS.ev (Ev.load rfl rfl (hb.at_ rfl)) rfl ?_;refine WS.ev (Ev.buildA (vs := _) (cs := [.int .i64 (S.s.na : Int), .int .i64 (S.s.up : Int), .int .i64 (S.s.dn : Int), .int .i64 (S.s.mi : Int), .int .i64 (S.s.pl : Int), .int .i64 (S.s.al : Int)]) rfl (by kernel_rfl)) rfl ?_;refine ym rfl ?_;refine WS.nil (kr7 _ _ ?_);refine kh6 ?_;refine CW.block ?_;refine CW.loop (S := fun g : Nat × Value => [(0, .pointer (some ⟨b, 0, none⟩)), (3, g.2), (36, .agg [.int .i64 (S.s.na : Int), .int .i64 (S.s.up : Int), .int .i64 (S.s.dn : Int), .int .i64 (S.s.mi : Int), .int .i64 (S.s.pl : Int), .int .i64 (S.s.al : Int)].toArray), (37, .int .i64 (g.1 : Int))]) (Inv := KEp b S rv rq w) (mu := fun g => 6 - g.1) ((0, .slice none 0 0)) ?_ ?_ ?_
 ·exact ⟨by decide, hb, GR.nil, hch⟩
 ·exact SLp
 ·rintro ⟨i, vi⟩ wr ⟨hi, hb, hgo, hch⟩;dsimp only at hi hgo hch;dsimp only;refine Sr fun _ kh8 => ?_;refine WL.ev (Ev.lss rfl rfl) rfl ?_;refine zz (kh8 (zc fun _ kh10 => ?_));refine zy rfl ?_ ?_<;>intro hc1<;>try simp only [qs] at hc1
  ·have hci := cnt6_le ⟨hs1, hs2, hs3, hs4, hs5, hs6⟩ i
   refine zkk ?_;refine kh10 (zc fun _ kh11 => ?_);refine CW.block ?_;refine Sr fun _ kh12 => ?_;refine WL.ev (Ev.indexAr (v := .int .i64 (([S.s.na, S.s.up, S.s.dn, S.s.mi, S.s.pl, S.s.al].getD i 0 : Nat) : Int)) (i := i) rfl rfl (by omega) rfl (cnt6_at S.s (by omega))) rfl ?_;refine za rfl (zz (kh12 ?_));refine zR fun _ kr14 => ?_;refine zm rfl (zm rfl ?_);refine WL.ev (Ev.convIn rfl rfl (in_u64 (by omega))) rfl ?_;refine WL.call hasF62 rfl rfl (low_spec ([S.s.na, S.s.up, S.s.dn, S.s.mi, S.s.pl, S.s.al].getD i 0) 8 _ (by omega) (by decide)) fun v w1 h' => ?_;obtain ⟨⟨b43, rfl, hy43, hg43⟩, hC⟩ := h';have hgo := hgo.keep0 hC;have hch := hch.ta hC;have hb := hb.keep0 hC;refine WL.growR (f := u8v) (news := leB ([S.s.na, S.s.up, S.s.dn, S.s.mi, S.s.pl, S.s.al].getD i 0) 8) (by rfl) (fun _ => rfl) rfl rfl hgo (by rw [leB_len]) hy43.row hch.size (by intro q hq; cases hq) (by simp only [List.length_append, leB_len, flat8_len, encD_len, List.length_take, List.length_cons, List.length_nil]; omega) (by simp only [List.length_append, leB_len, flat8_len, encD_len, List.length_take, List.length_cons, List.length_nil]; omega) rfl fun v44 w44 hg44 hcg44 => ?_;have hch' := GR.frame hgo hcg44 hch (Nat.le_refl _);have hb := hb00.keep0 hch';have hch := hch';have hgo := hg44;rw [← flat8_take (by simp only [List.length_cons, List.length_nil]; omega)] at hgo;refine za rfl ?_;refine WL.nil (kr14 _ _ _ (kh11 ?_));refine zR fun _ kr15 => ?_;(first | refine zi rfl rfl ?_ | refine zo rfl rfl ?_);refine zm rfl ?_;refine WL.nil (kr15 _ _ _ ?_);refine ⟨rfl, (i + 1, v44), ?_, ?_, ?_⟩
   ·exact SLp
   ·exact ⟨by dsimp only; omega, hb, hgo, hch⟩
   ·show 6 - (i + 1) < 6 - i; omega
  ·have hi6 : i = 6 := by omega
   subst hi6;have hgo : GR wr 5 u8v w.heap.size [] vi (([S.s.na, S.s.up, S.s.dn, S.s.mi, S.s.pl, S.s.al].map fun y => leB y 8).flatten) := hgo;refine CW.exit ?_;refine kh5 (Sr fun _ kh16 => zm rfl (zm rfl ?_));refine WL.ev (Ev.nilPtr rfl) rfl ?_;refine zf rfl ?_;refine WL.ev (Ev.loadB rfl rfl hb rfl rfl) rfl ?_
   try simp only [List.drop_succ_cons, List.drop_zero, List.take_succ_cons, List.take_zero]
   refine WL.call hasF63 rfl rfl (written_spec S.V rv _ (hNv0.at_ hch) hex.v (by have := hex.lv; omega)) fun v w2 h' => ?_;obtain ⟨⟨b51, rfl, hy51, hg51⟩, hC⟩ := h';have hgo := hgo.keep0 hC;have hch := hch.ta hC;have hb := hb.keep0 hC;refine WL.growR (f := u8v) (news := encD S.V) (by rfl) (fun _ => rfl) rfl rfl hgo (rfl) hy51.row hch.size (by intro q hq; cases hq) (by simp only [List.length_append, leB_len, flat8_len, encD_len, List.length_take, List.length_cons, List.length_nil]; omega) (by simp only [List.length_append, leB_len, flat8_len, encD_len, List.length_take, List.length_cons, List.length_nil]; omega) rfl fun v52 w52 hg52 hcg52 => ?_;have hch' := GR.frame hgo hcg52 hch (Nat.le_refl _);have hb := hb00.keep0 hch';have hch := hch';have hgo := hg52;refine za rfl (zz (kh16 (Sr fun _ kh18 => zm rfl (zm rfl ?_))));refine WL.ev (Ev.nilPtr rfl) rfl ?_;refine zf rfl ?_;refine WL.ev (Ev.loadB rfl rfl hb rfl rfl) rfl ?_
   try simp only [List.drop_succ_cons, List.drop_zero, List.take_succ_cons, List.take_zero]
   refine WL.call hasF63 rfl rfl (written_spec S.Q rq _ (hNq0.at_ hch) hex.q (by have := hex.lq; omega)) fun v w3 h' => ?_;obtain ⟨⟨b58, rfl, hy58, hg58⟩, hC⟩ := h';have hgo := hgo.keep0 hC;have hch := hch.ta hC;have hb := hb.keep0 hC;refine WL.growR (f := u8v) (news := encD S.Q) (by rfl) (fun _ => rfl) rfl rfl hgo (rfl) hy58.row hch.size (by intro q hq; cases hq) (by simp only [List.length_append, leB_len, flat8_len, encD_len, List.length_take, List.length_cons, List.length_nil]; omega) (by simp only [List.length_append, leB_len, flat8_len, encD_len, List.length_take, List.length_cons, List.length_nil]; omega) rfl fun v59 w59 hg59 hcg59 => ?_;have hch' := GR.frame hgo hcg59 hch (Nat.le_refl _);have hb := hb00.keep0 hch';have hch := hch';have hgo := hg59;refine za rfl (zz (kh18 (zc fun _ kh20 => Sr fun _ kh21 => zm rfl ?_)));refine WL.call hasF64 rfl rfl (some_spec b S _ ⟨rv, rq, hb, hNv0.keep0 hch, hNq0.keep0 hch⟩ ⟨hs1, hs2, hs3, hs4, hs5, hs6⟩) fun v w4 h' => ?_;obtain ⟨rfl, hC⟩ := h';have hgo := hgo.keep0 hC;have hch := hch.ta hC;have hb := hb.keep0 hC;refine zz (kh21 ?_);refine zy rfl ?_ ?_<;>intro hc2<;>try simp only [qs] at hc2
   ·have hsome : S.some := by simpa using hc2
    refine Sr fun _ kh23 => zm rfl (zm rfl ?_);refine WL.ev (Ev.nilPtr rfl) rfl ?_;refine zf rfl (zl hb rfl rfl ?_);refine WL.ev (Ev.ext rfl (ext65 _ _)) rfl ?_;refine WL.call hasF62 rfl rfl (low_spec (S.lo) 8 _ (by omega) (by decide)) fun v w5 h' => ?_;obtain ⟨⟨b68, rfl, hy68, hg68⟩, hC⟩ := h';have hgo := hgo.keep0 hC;have hch := hch.ta hC;have hb := hb.keep0 hC;refine WL.growR (f := u8v) (news := leB S.lo 8) (by rfl) (fun _ => rfl) rfl rfl hgo (by rw [leB_len]) hy68.row hch.size (by intro q hq; cases hq) (by simp only [List.length_append, leB_len, flat8_len, encD_len, List.length_take, List.length_cons, List.length_nil]; omega) (by simp only [List.length_append, leB_len, flat8_len, encD_len, List.length_take, List.length_cons, List.length_nil]; omega) rfl fun v69 w69 hg69 hcg69 => ?_;have hch' := GR.frame hgo hcg69 hch (Nat.le_refl _);have hb := hb00.keep0 hch';have hch := hch';have hgo := hg69;refine za rfl (zz (kh23 ?_));refine zR fun _ kr25 => ?_;refine zm rfl (zm rfl ?_);refine WL.ev (Ev.nilPtr rfl) rfl ?_;refine zf rfl (zl hb rfl rfl ?_);refine WL.ev (Ev.ext rfl (ext65 _ _)) rfl ?_;refine WL.call hasF62 rfl rfl (low_spec (S.hi) 8 _ (by omega) (by decide)) fun v w6 h' => ?_;obtain ⟨⟨b76, rfl, hy76, hg76⟩, hC⟩ := h';have hgo := hgo.keep0 hC;have hch := hch.ta hC;have hb := hb.keep0 hC;refine WL.growR (f := u8v) (news := leB S.hi 8) (by rfl) (fun _ => rfl) rfl rfl hgo (by rw [leB_len]) hy76.row hch.size (by intro q hq; cases hq) (by simp only [List.length_append, leB_len, flat8_len, encD_len, List.length_take, List.length_cons, List.length_nil]; omega) (by simp only [List.length_append, leB_len, flat8_len, encD_len, List.length_take, List.length_cons, List.length_nil]; omega) rfl fun v77 w77 hg77 hcg77 => ?_;have hch' := GR.frame hgo hcg77 hch (Nat.le_refl _);have hb := hb00.keep0 hch';have hch := hch';have hgo := hg77;refine za rfl ?_;refine WL.nil (kr25 _ _ _ (kh20 ?_));refine Sr fun _ kh26 => zm rfl (za rfl (zz (kh26 ?_)));refine zr (zr1 rfl rfl ?_);refine ⟨?_, hch⟩;unfold encS;rw [if_pos hsome]
    simpa using hgo
   ·have hsome : ¬ S.some := by simpa using hc2
    refine zkk ?_;refine kh20 (Sr fun _ kh28 => zm rfl (za rfl (zz (kh28 ?_))));refine zr (zr1 rfl rfl ?_);refine ⟨?_, hch⟩;unfold encS;rw [if_neg hsome, List.append_nil]
    simpa using hgo

end

/- Bytes that are read: a tape. No condition. -/
section
open Go Sx Wd Fl

/-- A number out of its bytes, the low one first. -/
def leV : List Nat → Nat
  | [] => 0
  | x :: l => x + 256 * leV l
theorem leV_snoc (l : List Nat) (c : Nat) : leV (l ++ [c]) = leV l + c * 256 ^ l.length := by
  induction l with
  | nil => simp [leV]
  | cons x l ih =>
    rw [List.cons_append, leV, ih, leV, List.length_cons, Nat.pow_succ, Nat.mul_add, Nat.add_assoc]
    congr 2
    rw [Nat.mul_comm 256, Nat.mul_assoc]
def B8 (l : List Nat) : Prop := ∀ x ∈ l, x < 256
theorem leV_lt {l : List Nat} (h : B8 l) : leV l < 256 ^ l.length := by
  induction l with
  | nil => decide
  | cons x l ih =>
    have h1 := h x (List.mem_cons_self ..)
    have h2 := ih fun y hy => h y (List.mem_cons_of_mem _ hy)
    rw [leV, List.length_cons, Nat.pow_succ]
    omega
theorem B8.take {l : List Nat} (h : B8 l) (k : Nat) : B8 (l.take k) := fun x hx => h x (List.mem_of_mem_take hx)
theorem B8.drop {l : List Nat} (h : B8 l) (k : Nat) : B8 (l.drop k) := fun x hx => h x (List.mem_of_mem_drop hx)
theorem B8.getD {l : List Nat} (h : B8 l) (i : Nat) : l.getD i 0 < 256 := by
  rw [List.getD_eq_getElem?_getD]
  cases q : l[i]? with
  | none => decide
  | some x => exact h x (List.mem_of_getElem? q)
/-- What a reading of k bytes answers: the number, where it stands then, whether something was wrong. -/
def rdN (bs : List Nat) (p : Nat) (bad : Bool) (k : Nat) : Nat × Nat × Bool := if bad = true ∨ bs.length - p < k then (0, p, true) else (leV ((bs.drop p).take k), p + k, false)
/-- One of the counts. -/
def rdC (bs : List Nat) (p : Nat) (bad : Bool) : Nat × Nat × Bool := if 1099511627776 < (rdN bs p bad 8).1 then (0, (rdN bs p bad 8).2.1, true) else rdN bs p bad 8
def isU8 : Value → Bool
  | .int .u8 _ => true
  | _ => false
theorem Sx.RW.keep8 {w w' : World} {a : Option Addr} {l : List Nat} {b : Nat} {T : TypeId} {cs : List Value} (h : RW w a (l.map u8v)) (hb : BK w b T cs) (hc : Chg [b] w w') (hn : ∀ c ∈ cs, isU8 c = false) : RW w' a (l.map u8v) := fun i u hu => by
  obtain ⟨ad, e, hcell⟩ := h i u hu
  refine ⟨ad, e, hc.cell hcell fun hm => ?_⟩
  simp only [List.mem_singleton] at hm
  have hu8 : isU8 u = true := by
    obtain ⟨x, _, rfl⟩ := List.mem_map.1 (List.mem_of_getElem? hu)
    rfl
  have hlk := hcell
  cases had : ad.add i with
  | mk b' o' sp =>
    rw [had] at hlk hm
    simp only at hm
    subst hm
    cases sp with
    | none =>
      rw [cell_at hb] at hlk
      have := hn u (List.mem_of_getElem? hlk)
      rw [hu8] at this; cases this
    | some q =>
      have : w.cell? ⟨b', o', some q⟩ = none := by simp [World.cell?, show w.heap[b']? = _ from hb]
      rw [this] at hlk; cases hlk
/-- A tape in memory: it stands at p of its bytes. -/
def TpM (lo : Nat) (w : World) (bt : Nat) (bs : List Nat) (p : Nat) (bad : Bool) : Prop := ∃ a c, BK w bt 145 [.slice a (bs.length - p) c, .bool bad] ∧ RW w a ((bs.drop p).map u8v) ∧ p ≤ bs.length ∧ bs.length - p ≤ c ∧ bt < lo ∧ ∀ ad, a = some ad → ad.block < lo
theorem TpM.keep0 {lo : Nat} {w w' : World} {bt : Nat} {bs : List Nat} {p : Nat} {bad : Bool} (h : TpM lo w bt bs p bad) (hc : Chg [] w w') : TpM lo w' bt bs p bad := by
  obtain ⟨a, c, h1, h2, h3, h4⟩ := h
  exact ⟨a, c, h1.keep0 hc, h2.keep0 hc, h3, h4⟩
theorem TpM.keep {lo : Nat} {w w' : World} {bt : Nat} {p : Nat} {bs : List Nat} {bad : Bool} {T : List Nat} (h : TpM lo w bt bs p bad) (hc : Chg T w w') (hT : ∀ b ∈ T, lo ≤ b) : TpM lo w' bt bs p bad := by
  obtain ⟨a, c, h1, h2, h3, h4, h5, h6⟩ := h
  exact ⟨a, c, h1.keep hc (fun hm => by have := hT _ hm; omega), h2.keepB hc (fun ad e hm => by have := hT _ hm; have := h6 ad e; omega), h3, h4, h5, h6⟩
theorem cutAt_lt {lo n c : Nat} {a : Option Addr} (h : ∀ ad, a = some ad → ad.block < lo) : ∀ ad, cutAt a n c 1 = some ad → ad.block < lo := by
  intro ad e
  unfold cutAt at e
  split at e
  · first | exact h _ e | (cases e; done) | (obtain ⟨x, hx, rfl⟩ := Option.map_eq_some_iff.1 e; exact h x hx)
  · obtain ⟨x, hx, rfl⟩ := Option.map_eq_some_iff.1 e
    have := h x hx
    simp only [Addr.add]
    split <;> first | exact this | (simpa using this)
theorem u8_tape (a : Option Addr) (m c : Nat) (bad : Bool) : ∀ v ∈ [Value.slice a m c, .bool bad], isU8 v = false := by
  intro v hv
  simp only [List.mem_cons, List.not_mem_nil, or_false] at hv
  rcases hv with rfl | rfl <;> rfl

theorem take_spec (lo bt p : Nat) (bs : List Nat) (bad : Bool) (n : Nat) (w : World) (hT : TpM lo w bt bs p bad) (hL : bs.length ≤ 70368744177664) (hn : n ≤ 1000) : Ret Tryz.prog 177 [.pointer (some ⟨bt, 0, none⟩), .int .i64 (n : Int)] w fun u w' => ((bad = true ∨ bs.length - p < n) ∧ u = .slice none 0 0 ∧ TpM lo w' bt bs p true ∧ Chg [bt] w w') ∨ (¬ (bad = true ∨ bs.length - p < n) ∧ (∃ a, u = .slice a n n ∧ RW w' a (((bs.drop p).take n).map u8v)) ∧ TpM lo w' bt bs (p + n) false ∧ Chg [bt] w w') := by
  obtain ⟨a, c, hb, hr, hp, hcc, hbl, hal⟩ := hT;have hch : Chg [bt] w w := Chg.refl _ _;have hb0 := hb;refine zE2 Tryz.func177 rfl ?_;refine Sr fun _ kh1 => za rfl (zz (kh1 (zc fun _ kh3 => ?_)));refine CW.seqM 18 (decide (bad = true ∨ bs.length - p < n)) ?_ ?_
  · refine zR fun _ kr4 => ?_;refine zm rfl ?_;refine WL.ev (Ev.nilPtr rfl) rfl ?_;refine zf rfl (zl hb rfl rfl (zm rfl ?_));refine zb ?_ ?_<;>intro hg1<;>try simp only [qs] at hg1
    · refine zv rfl (zv rfl (zv rfl (zv rfl (zv rfl (zv rfl (zv rfl (zt rfl rfl ?_)))))));refine WL.nil (kr4 _ _ _ ?_);refine ⟨rfl, rfl, Subs.consB rfl ?_ ?_⟩
      · first | (cases bad <;> first | (simp_all; done) | (simp; omega) | (simp_all; omega))
      · exact SMg
    · refine zw rfl (zm rfl (zw rfl (zm rfl (zw rfl ?_))));refine WL.ev (Ev.nilPtr rfl) rfl ?_
      refine zw rfl (zf rfl (zw rfl ?_));refine WL.ev (Ev.load (v := .slice a (bs.length - p) c) rfl rfl (hb.at_ rfl)) rfl ?_;refine zw rfl (zn rfl (zw rfl ?_));refine WL.ev (Ev.gtr rfl rfl) rfl ?_;refine ze rfl rfl ?_;refine WL.nil (kr4 _ _ _ ?_);refine ⟨rfl, rfl, Subs.consB rfl ?_ ?_⟩
      · first | (cases bad <;> first | (simp_all; done) | (simp; omega) | (simp_all; omega))
      · exact SMg
  · refine zy rfl ?_ ?_<;>intro hc2<;>try simp only [qs] at hc2
    · have hq : bad = true ∨ bs.length - p < n := hc2
      refine Sr fun _ kh5 => zm rfl ?_;refine WL.ev (Ev.nilPtr rfl) rfl ?_;refine zf rfl ?_;refine WL.storeC rfl rfl o1 hb (by simp) rfl fun ws1 hb_ hcs1 => ?_;(try simp only [Sx.splice, qt] at hb_);have hch := hch.s1 hcs1;have hb := hb_;refine zz (kh5 (Sr fun _ kh7 => za rfl (zz (kh7 ?_))));refine zr (zr1 rfl rfl ?_);exact .inl ⟨hq, rfl, ⟨a, c, hb, hr.keep8 hb0 hch (u8_tape _ _ _ _), hp, hcc, hbl, hal⟩, hch⟩
    · have hq : ¬ (bad = true ∨ bs.length - p < n) := fun z => by have h9 := hc2; rcases z with z | z <;> simp_all <;> omega
      have hnp : n ≤ bs.length - p := by have := fun z => hq (.inr z); omega
      have hbf : bad = false := by cases bad with | true => exact absurd (.inl rfl) hq | false => rfl
      have hdl : ((bs.drop p).map u8v).length = bs.length - p := by rw [List.length_map, List.length_drop]
      refine zkk ?_;refine kh3 (Sr fun _ kh9 => zm rfl ?_);refine WL.ev (Ev.nilPtr rfl) rfl ?_;refine zf rfl ?_;refine WL.ev (Ev.load (v := .slice a (bs.length - p) c) rfl rfl (hb.at_ rfl)) rfl ?_;refine zm rfl (zm rfl ?_);refine WL.ev (Ev.slice3n (n) (n) rfl rfl rfl rfl rfl (by omega) (by omega)) rfl ?_;refine za rfl (zz (kh9 (Sr fun _ kh11 => zm rfl (zm rfl ?_))));refine WL.ev (Ev.nilPtr rfl) rfl ?_;refine zf rfl ?_;refine WL.ev (Ev.load (v := .slice a (bs.length - p) c) rfl rfl (hb.at_ rfl)) rfl ?_;refine zm rfl ?_;refine WL.ev (Ev.sliceLn (n) rfl rfl rfl (by omega)) rfl ?_;refine WL.ev (Ev.nilPtr rfl) rfl ?_;refine zf rfl ?_;refine WL.storeC rfl rfl o1 hb (by simp) rfl fun ws2 hb_ hcs2 => ?_;(try simp only [Sx.splice, qt] at hb_);have hch := hch.s1 hcs2;have hb := hb_;refine zz (kh11 (Sr fun _ kh13 => zm rfl (za rfl (zz (kh13 ?_)))));refine zr (zr1 rfl rfl ?_);have hr2 := hr.keep8 hb0 hch (u8_tape _ _ _ _);refine .inr ⟨hq, ⟨a, rfl, by rw [List.map_take]; exact hr2.take n⟩, ⟨cutAt a n c 1, c - n, ?_, ?_, by omega, by omega, hbl, cutAt_lt hal⟩, hch⟩
      · rw [show bs.length - (p + n) = bs.length - p - n by omega, ← hbf]; exact hb
      · have h9 := hr2.cut n c (by rw [hdl]; omega) (by rw [hdl]; omega)
        rwa [← List.map_drop, List.drop_drop] at h9

end

/- Bytes that are read: number, count. No condition. -/
section
open Go Sx Wd Fl

theorem Sx.RW.u8 {w : World} {a : Option Addr} {l : List Nat} {j : Nat} (h : RW w a (l.map u8v)) (hj : j < l.length) : w.cell? (adr a j) = some (.int .u8 ((l.getD j 0 : Nat) : Int)) := h.at_ (map_at u8v 0 hj)
theorem leV_take {l : List Nat} {i : Nat} (h : i < l.length) : leV (l.take (i + 1)) = leV (l.take i) + l.getD i 0 * 256 ^ i := by
  rw [take_step h, leV_snoc, List.length_take, Nat.min_eq_left (by omega)]
theorem pow_le8 {i : Nat} (h : i ≤ 7) : 256 ^ i ≤ 72057594037927936 := Nat.le_trans (Nat.pow_le_pow_right (by decide) h) (by decide)
theorem window {w : World} {lo bt p k : Nat} {bs : List Nat} {bad : Bool} {v : Value} {w' : World} (hB : B8 bs) (hp : p ≤ bs.length)
    (h : ((bad = true ∨ bs.length - p < k) ∧ v = .slice none 0 0 ∧ TpM lo w' bt bs p true ∧ Chg [bt] w w') ∨ (¬ (bad = true ∨ bs.length - p < k) ∧ (∃ a, v = .slice a k k ∧ RW w' a (((bs.drop p).take k).map u8v)) ∧ TpM lo w' bt bs (p + k) false ∧ Chg [bt] w w')) :
    ∃ a l, v = .slice a l.length l.length ∧ RW w' a (l.map u8v) ∧ B8 l ∧ l.length ≤ k ∧ leV l = (rdN bs p bad k).1 ∧ TpM lo w' bt bs (rdN bs p bad k).2.1 (rdN bs p bad k).2.2 ∧ Chg [bt] w w' := by
  rcases h with ⟨hq, rfl, hT, hc⟩ | ⟨hq, ⟨a, rfl, hr⟩, hT, hc⟩
  · have e : rdN bs p bad k = (0, p, true) := if_pos hq
    rw [e]
    exact ⟨none, [], rfl, RW.nil, fun x hx => (by cases hx), Nat.zero_le _, rfl, hT, hc⟩
  · have e : rdN bs p bad k = (leV ((bs.drop p).take k), p + k, false) := if_neg hq
    have hk : k ≤ bs.length - p := by have := fun z => hq (.inr z); omega
    have hl : ((bs.drop p).take k).length = k := by rw [List.length_take, List.length_drop]; omega
    rw [e]
    exact ⟨a, (bs.drop p).take k, by rw [hl], hr, (hB.drop p).take k, by omega, rfl, hT, hc⟩
structure KNm (l : List Nat) (a : Option Addr) (lo bt : Nat) (bs : List Nat) (q : Nat) (bd : Bool) (w0 : World) (i : Nat) (w : World) : Prop where
  hi : i ≤ l.length
  r : RW w a (l.map u8v)
  t : TpM lo w bt bs q bd
  ch : Chg [bt] w0 w

theorem number_spec (lo bt p : Nat) (bs : List Nat) (bad : Bool) (k : Nat) (w : World) (hT : TpM lo w bt bs p bad) (hL : bs.length ≤ 70368744177664) (hB : B8 bs) (hk : k ≤ 8) : Ret Tryz.prog 88 [.pointer (some ⟨bt, 0, none⟩), .int .i64 (k : Int)] w fun u w' => u = .int .u64 ((rdN bs p bad k).1 : Int) ∧ TpM lo w' bt bs (rdN bs p bad k).2.1 (rdN bs p bad k).2.2 ∧ Chg [bt] w w' := by
 have hpp : p ≤ bs.length := hT.choose_spec.choose_spec.2.2.1;refine zE2 Tryz.func88 rfl ?_;refine Sr fun _ kh1 => za rfl (zz (kh1 (Sr fun _ kh3 => za rfl (zz (kh3 (zc fun _ kh5 => Sr fun _ kh6 => zm rfl (zm rfl ?_)))))));refine WL.call hasF177 rfl rfl (take_spec lo bt p bs bad k _ hT hL (by omega)) fun v w1 h' => ?_;obtain ⟨a, l, rfl, hr, hB8, hl8, hlv, hT, hch⟩ := window hB hpp h';refine zn rfl (zm rfl (zz (kh6 ?_)));refine CW.block ?_;refine CW.loop (S := fun i : Nat => [(5, .int .u64 ((leV (l.take i) : Nat) : Int)), (10, .slice a l.length l.length), (11, .int .i64 (l.length : Int)), (12, .int .i64 (i : Int))]) (Inv := KNm l a lo bt bs (rdN bs p bad k).2.1 (rdN bs p bad k).2.2 w) (mu := fun i => l.length - i) (0) ?_ ?_ ?_
 ·exact ⟨Nat.zero_le _, hr, hT, hch⟩
 ·exact SLp
 ·rintro i wr ⟨hi, hr, hT, hch⟩;refine Sr fun _ kh8 => ?_;refine WL.ev (Ev.lss rfl rfl) rfl ?_;refine zz (kh8 (zc fun _ kh10 => ?_));refine zy rfl ?_ ?_<;>intro hc1<;>try simp only [qs] at hc1
  ·have hci := hB8.getD i
   have hp8 := pow_le8 (i := i) (by omega);have hlt := leV_lt (hB8.take i);rw [List.length_take, Nat.min_eq_left (by omega)] at hlt;have hst := leV_take (l := l) (i := i) (by omega);have hmul : l.getD i 0 * 256 ^ i ≤ 255 * 256 ^ i := Nat.mul_le_mul_right _ (by omega);refine zkk ?_;refine kh10 (zc fun _ kh11 => ?_);refine CW.block ?_;refine Sr fun _ kh12 => zm rfl ?_;refine WL.ev (Ev.ixR (i) rfl rfl hr (by omega) (by omega) (by simp; omega)) rfl ?_;refine WL.ev (Ev.load rfl rfl (hr.u8 (by omega))) rfl ?_;refine za rfl (za rfl (zz (kh12 ?_)));refine zR fun _ kr14 => ?_;refine zm rfl (zm rfl ?_);refine WL.ev (Ev.convIn rfl rfl (in_u64 (by omega))) rfl ?_;refine zm rfl ?_;refine WL.ev (Ev.mulIn rfl rfl (by omega)) rfl ?_;refine WL.ev (Ev.shlU64 (a := l.getD i 0) (b := 8 * i) rfl rfl) rfl ?_;rw [pow8, Nat.mod_eq_of_lt (by omega)];refine WL.ev (Ev.orU rfl rfl rfl (by simp only [IntKind.bits]; omega) (by simp only [IntKind.bits]; omega)) rfl ?_;rw [show leV (l.take i) ||| l.getD i 0 * 256 ^ i = leV (l.take (i + 1)) from by rw [hst, ← pow8, or_of_mul (by rw [pow8]; exact hlt)]];refine za rfl ?_;refine WL.nil (kr14 _ _ _ (kh11 ?_));refine zR fun _ kr15 => ?_;(first | refine zi rfl rfl ?_ | refine zo rfl rfl ?_);refine zm rfl ?_;refine WL.nil (kr15 _ _ _ ?_);refine ⟨rfl, i + 1, ?_, ?_, ?_⟩
   ·exact SLp
   ·exact ⟨by omega, hr, hT, hch⟩
   ·show l.length - (i + 1) < l.length - i; omega
  ·have hiX : i = l.length := by omega
   subst hiX;rw [List.take_length, hlv];refine CW.exit ?_;refine kh5 (Sr fun _ kh16 => zm rfl (za rfl (zz (kh16 ?_))));refine zr (zr1 rfl rfl ?_);exact ⟨rfl, hT, hch⟩

theorem TpM.set {x : Bool} {w w' : World} {lo bt p : Nat} {bs : List Nat} {bad : Bool} {a : Option Addr} {m c : Nat} (h : TpM lo w bt bs p bad) (hb : BK w bt 145 [.slice a m c, .bool bad]) (hb' : BK w' bt 145 [.slice a m c, .bool x]) (hc : Chg [bt] w w') : TpM lo w' bt bs p x := by
  obtain ⟨a2, c2, h1, h2, h3, h4, h5, h6⟩ := h
  have e := hb.symm.trans h1
  have h9 := h2.keep8 h1 hc (u8_tape _ _ _ _)
  injection e with e
  injection e with e _
  have e2 : [Value.slice a m c, .bool bad] = [.slice a2 (bs.length - p) c2, .bool bad] := by
    have := congrArg Array.toList e; simpa using this
  injection e2 with e3 _
  rw [e3] at hb'
  exact ⟨a2, c2, hb', h9, h3, h4, h5, h6⟩

theorem rdN_lt {bs : List Nat} (hB : B8 bs) (p : Nat) (bad : Bool) (k : Nat) (hk : k ≤ 8) : (rdN bs p bad k).1 < 18446744073709551616 := by
  unfold rdN; split
  · show (0 : Nat) < _; decide
  · have h1 := leV_lt ((hB.drop p).take k)
    have h2 : ((bs.drop p).take k).length ≤ 8 := by rw [List.length_take]; omega
    have h3 : 256 ^ ((bs.drop p).take k).length ≤ 256 ^ 8 := Nat.pow_le_pow_right (by decide) h2
    have h4 : (256 : Nat) ^ 8 = 18446744073709551616 := by decide
    show leV _ < _
    omega

theorem count_spec21 (lo bt p : Nat) (bs : List Nat) (bad : Bool) (w : World) (hT : TpM lo w bt bs p bad) (hL : bs.length ≤ 70368744177664) (hB : B8 bs) : Ret Tryz.prog 84 [.pointer (some ⟨bt, 0, none⟩)] w fun u w' => u = .int .i64 ((rdC bs p bad).1 : Int) ∧ TpM lo w' bt bs (rdC bs p bad).2.1 (rdC bs p bad).2.2 ∧ Chg [bt] w w' := by
 refine zE1 Tryz.func84 rfl ?_;refine Sr fun _ kh1 => za rfl (zz (kh1 (Sr fun _ kh3 => zm rfl ?_)));refine WL.call hasF88 rfl rfl (number_spec lo bt p bs bad 8 _ hT hL hB (by decide)) fun v w1 h' => ?_;obtain ⟨rfl, hT, hch⟩ := h';have hn64 := rdN_lt hB p bad 8 (by decide);generalize hN : rdN bs p bad 8 = R at *;obtain ⟨n, q, bd⟩ := R;dsimp only at hT hn64;dsimp only;refine za rfl (zz (kh3 (zc fun _ kh5 => Sr fun _ kh6 => zm rfl ?_)));refine WL.ev (Ev.gtr rfl rfl) rfl ?_;refine zz (kh6 ?_);refine zy rfl ?_ ?_<;>intro hc1<;>try simp only [qs] at hc1
 ·have hbig : 1099511627776 < n := by have := hc1; omega
  have hrc : rdC bs p bad = (0, q, true) := by unfold rdC; rw [hN, if_pos hbig]
  obtain ⟨a, c, hb, hr, hp, hcc, hbl, hal⟩ := id hT;refine Sr fun _ kh8 => zm rfl ?_;refine WL.ev (Ev.nilPtr rfl) rfl ?_;refine zf rfl ?_;refine WL.storeC rfl rfl rfl hb (by simp) rfl fun ws1 hb_ hcs1 => ?_;simp only [List.set_cons_succ, List.set_cons_zero] at hb_;refine zz (kh8 (Sr fun _ kh10 => za rfl (zz (kh10 ?_))));refine zr (zr1 rfl rfl ?_);rw [hrc];exact ⟨rfl, hT.set hb hb_ hcs1, hch.trans hcs1⟩
 ·have hsml : ¬ 1099511627776 < n := by have := hc1; omega
  have hrc : rdC bs p bad = (n, q, bd) := by unfold rdC; rw [hN, if_neg hsml]
  refine zkk ?_;refine kh5 (Sr fun _ kh12 => zm rfl ?_);refine WL.ev (Ev.convIn rfl rfl (in_i64 (by omega))) rfl ?_;refine za rfl (zz (kh12 ?_));refine zr (zr1 rfl rfl ?_);rw [hrc];exact ⟨rfl, hT, hch⟩

end

/- Bytes that are read: a dyad. No condition. -/
section
open Go Sx Wd Fl

theorem rdN_ltk {bs : List Nat} (hB : B8 bs) (p : Nat) (bad : Bool) (k : Nat) : (rdN bs p bad k).1 < 256 ^ k := by
  unfold rdN; split
  · exact Nat.pow_pos (by decide)
  · have h1 := leV_lt ((hB.drop p).take k)
    have h2 : ((bs.drop p).take k).length ≤ k := by rw [List.length_take]; omega
    exact Nat.lt_of_lt_of_le h1 (Nat.pow_le_pow_right (by decide) h2)
/-- Words that are read: they, where it stands then, whether something was wrong. -/
def rdW (bs : List Nat) (p : Nat) (bad : Bool) : Nat → List Nat × Nat × Bool
  | 0 => ([], p, bad)
  | n + 1 => ((rdW bs p bad n).1 ++ [(rdN bs (rdW bs p bad n).2.1 (rdW bs p bad n).2.2 4).1], (rdN bs (rdW bs p bad n).2.1 (rdW bs p bad n).2.2 4).2)
theorem rdW_len (bs : List Nat) (p : Nat) (bad : Bool) (n : Nat) : (rdW bs p bad n).1.length = n := by
  induction n with
  | zero => rfl
  | succ n ih => rw [rdW]; simp [ih]
theorem rdW_W {bs : List Nat} (hB : B8 bs) (p : Nat) (bad : Bool) (n : Nat) : W (rdW bs p bad n).1 := by
  induction n with
  | zero => exact W_nil
  | succ n ih => rw [rdW]; exact W_append.2 ⟨ih, W_cons.2 ⟨rdN_ltk hB _ _ 4, W_nil⟩⟩
/-- A dyad that is read: its sign, words, Exp; where it stands then; whether something was wrong. -/
def rdD (bs : List Nat) (p : Nat) (bad : Bool) : Bool × List Nat × Int × Nat × Bool :=
  match rdN bs p bad 1 with
  | (n1, p1, d1) => match rdN bs p1 d1 2 with
    | (n2, p2, d2) => match rdN bs p2 d2 2 with
      | (n3, p3, d3) => if 1 < n1 ∨ 160 < n3 then (false, [], 0, p3, true) else
        match rdW bs p3 d3 n3 with
        | (ws, q, bd) => (decide ((n1 : Int) = 1), ws, (n2 : Int) - 4096, q, if n3 = 0 then decide (bd = true ∨ (n1 : Int) = 1 ∨ (n2 : Int) - 4096 ≠ 0) else decide (bd = true ∨ ws.getD 0 0 % 2 = 0 ∨ ws.getD (n3 - 1) 0 = 0))
theorem TpM.keepBK {lo : Nat} {w w' : World} {bt : Nat} {p : Nat} {bs : List Nat} {bad : Bool} {b : Nat} {T : TypeId} {cs : List Value} (h : TpM lo w bt bs p bad) (_ : BK w b T cs) (hc : Chg [b] w w') (_ : ∀ c ∈ cs, isU32 c = false) (hl : lo ≤ b := by omega) : TpM lo w' bt bs p bad := h.keep hc fun y hy => by rw [List.mem_singleton.1 hy]; exact hl
structure KDy (lo bt b2 b6 n3 p3 : Nat) (ng d3 : Bool) (e : Int) (bs : List Nat) (w0 : World) (g : Nat × Value) (w : World) : Prop where
  hi : g.1 ≤ n3
  t : TpM lo w bt bs (rdW bs p3 d3 g.1).2.1 (rdW bs p3 d3 g.1).2.2
  h2 : BK w b2 107 [.bool false, .slice none 0 0, .int .i64 0]
  h6 : BK w b6 107 [.bool ng, g.2, .int .i64 e]
  g : GR w 209 u32v w0.heap.size [b2, b6] g.2 (rdW bs p3 d3 g.1).1
  ch : Chg [bt] w0 w

theorem tdyad_spec (lo bt p : Nat) (bs : List Nat) (bad : Bool) (w : World) (hT : TpM lo w bt bs p bad) (hL : bs.length ≤ 70368744177664) (hB : B8 bs) (hlo : lo ≤ w.heap.size) : Ret Tryz.prog 86 [.pointer (some ⟨bt, 0, none⟩)] w fun u w' => ∃ sl, u = .agg [.bool (rdD bs p bad).1, sl, .int .i64 (rdD bs p bad).2.2.1].toArray ∧ NU w' sl (rdD bs p bad).2.1 ∧ TpM lo w' bt bs (rdD bs p bad).2.2.2.1 (rdD bs p bad).2.2.2.2 ∧ Chg [bt] w w' := by
 have hbtl : bt < lo := hT.choose_spec.choose_spec.2.2.2.2.1;have hch : Chg [bt] w w := Chg.refl _ _;refine zE1 Tryz.func86 rfl ?_;refine Sr fun _ kh1 => ?_;refine zAh rfl rfl hch fun b2 wm2 hb2 hcm2 hge2 hgehch2 hch => ?_;have hT := hT.keep0 hcm2;refine zz (kh1 (Sr fun _ kh3 => zm rfl ?_));refine WL.call hasF88 rfl rfl (number_spec lo bt _ bs _ 1 _ hT hL hB (by decide)) fun v w1 h' => ?_;obtain ⟨rfl, hT, hC⟩ := h';have hn1 := rdN_ltk hB p bad 1;generalize hR1 : rdN bs p bad 1 = R1 at *;obtain ⟨n1, p1, d1⟩ := R1;dsimp only at hT hn1;dsimp only;have hch := hch.step hC (fun y hy => .inl hy);have hb2 := hb2.keep hC (by simp; omega);refine zm rfl ?_;refine WL.call hasF88 rfl rfl (number_spec lo bt _ bs _ 2 _ hT hL hB (by decide)) fun v w2 h' => ?_;obtain ⟨rfl, hT, hC⟩ := h';have hn2 := rdN_ltk hB p1 d1 2;generalize hR2 : rdN bs p1 d1 2 = R2 at *;obtain ⟨n2, p2, d2⟩ := R2;dsimp only at hT hn2;dsimp only;have hch := hch.step hC (fun y hy => .inl hy);have hb2 := hb2.keep hC (by simp; omega);refine WL.ev (Ev.convIn rfl rfl (in_i64 (by omega))) rfl ?_;refine WL.ev (Ev.subIn rfl rfl (by omega)) rfl ?_;refine zm rfl ?_;refine WL.call hasF88 rfl rfl (number_spec lo bt _ bs _ 2 _ hT hL hB (by decide)) fun v w3 h' => ?_;obtain ⟨rfl, hT, hC⟩ := h';have hn3 := rdN_ltk hB p2 d2 2;generalize hR3 : rdN bs p2 d2 2 = R3 at *;obtain ⟨n3, p3, d3⟩ := R3;dsimp only at hT hn3;dsimp only;have hch := hch.step hC (fun y hy => .inl hy);have hb2 := hb2.keep hC (by simp; omega);refine WL.ev (Ev.convIn rfl rfl (in_i64 (by omega))) rfl ?_;refine za rfl (za rfl (za rfl (zz (kh3 (zc fun _ kh5 => ?_)))));refine CW.seqM 21 (decide (1 < n1 ∨ 160 < n3)) ?_ ?_
 ·refine zR fun _ kr6 => ?_;refine zm rfl ?_;refine WL.ev (Ev.gtr rfl rfl) rfl ?_;refine zm rfl ?_;refine zb ?_ ?_<;>intro hg1<;>try simp only [qs] at hg1
  ·refine zv rfl (zv rfl (zt rfl rfl ?_));refine WL.nil (kr6 _ _ _ ?_);refine ⟨rfl, rfl, Subs.consB rfl ?_ ?_⟩
   ·first | (exact decide_eq_decide.2 (by omega)) | (simp_all; done) | (simp; omega) | (simp_all; omega) | skip
   ·exact SMg
  ·refine zw rfl (zm rfl (zw rfl ?_));refine WL.ev (Ev.gtr rfl rfl) rfl ?_
   refine ze rfl rfl ?_;refine WL.nil (kr6 _ _ _ ?_);refine ⟨rfl, rfl, Subs.consB rfl ?_ ?_⟩
   ·first | (exact decide_eq_decide.2 (by omega)) | (simp_all; done) | (simp; omega) | (simp_all; omega) | skip
   ·exact SMg
 ·refine zy rfl ?_ ?_<;>intro hc2<;>try simp only [qs] at hc2
  ·have hq : 1 < n1 ∨ 160 < n3 := hc2
   have hD : rdD bs p bad = (false, [], 0, p3, true) := by unfold rdD; rw [hR1]; dsimp only; rw [hR2]; dsimp only; rw [hR3]; dsimp only; rw [if_pos hq]
   obtain ⟨a, c, hb, hr, hp, hcc, hbl, hal⟩ := id hT;refine Sr fun _ kh7 => zm rfl ?_;refine WL.ev (Ev.nilPtr rfl) rfl ?_;refine zf rfl ?_;refine WL.storeC rfl rfl rfl hb (by simp) rfl fun ws9 hb_ hcs9 => ?_;simp only [List.set_cons_succ, List.set_cons_zero] at hb_;have hT := hT.set hb hb_ hcs9;have hb2 := hb2.keep hcs9 (by simp; omega);have hch := hch.step hcs9 (fun y hy => .inl hy);refine zz (kh7 (Sr fun _ kh9 => ?_));refine WL.ev (Ev.build (vs := _) (cs := [_, _, _]) rfl rfl) rfl ?_;refine zss rfl rfl ao hb2 rfl fun ws3 hb2_ hcs3 => ?_;(try simp only [Sx.splice, qt] at hb2_);have hch := hch.s1 hcs3;have hT := hT.keepBK hb2 hcs3 an;have hb2 := hb2_;refine zz (kh9 ?_);refine zr (bodyA.retR1 rfl (RVal.cell rfl (BK.varA hb2 rfl (by simp))) ?_);rw [hD];refine ⟨_, rfl, NU.nil, hT, hch⟩
  ·have hq : ¬ (1 < n1 ∨ 160 < n3) := hc2
   refine zkk ?_;refine kh5 (Sr fun _ kh11 => zm rfl (zq rfl rfl (zm rfl ?_)));refine WL.ev (Ev.build (vs := _) (cs := [_, _, _]) rfl rfl) rfl ?_;refine zAh rfl rfl hch fun b6 wm6 hb6 hcm6 hge6 hgehch6 hch => ?_;have hT := hT.keep0 hcm6;have hneb26 := zdd hb2.lt hge6;have hb2 := hb2.keep0 hcm6;refine zss rfl rfl ao hb6 rfl fun ws4 hb6_ hcs4 => ?_;(try simp only [Sx.splice, qt] at hb6_);have hch := hch.s1 hcs4;have hb2 := hb2.keep hcs4 (by simp; omega);have hT := hT.keepBK hb6 hcs4 an;have hb6 := hb6_;refine zz (kh11 (zc fun _ kh13 => Sr fun _ kh14 => zm rfl (zm rfl (zz (kh14 ?_)))));refine CW.block ?_;refine CW.loop (S := fun g : Nat × Value => [(0, .pointer (some ⟨bt, 0, none⟩)), (2, .pointer (some ⟨b2, 0, none⟩)), (3, .int .u64 (n1 : Int)), (4, .int .i64 ((n2 : Int) - 4096)), (5, .int .i64 (n3 : Int)), (6, .pointer (some ⟨b6, 0, none⟩)), (30, .int .i64 (n3 : Int)), (31, .int .i64 (g.1 : Int))]) (Inv := KDy lo bt b2 b6 n3 p3 (decide ((n1 : Int) = 1)) d3 ((n2 : Int) - 4096) bs w) (mu := fun g => n3 - g.1) ((0, .slice none 0 0)) ?_ ?_ ?_
   ·exact ⟨Nat.zero_le _, hT, hb2, hb6, GR.nil, hch⟩
   ·exact SLp
   ·rintro ⟨i, vi⟩ wr ⟨hi, hT, hb2, hb6, hgv, hch⟩;dsimp only at hi hT hb6 hgv;dsimp only;have hbt6 : bt ≠ b6 := by omega
    have hbt2 : bt ≠ b2 := by omega
    refine Sr fun _ kh16 => ?_;refine WL.ev (Ev.lss rfl rfl) rfl ?_;refine zz (kh16 (zc fun _ kh18 => ?_));refine zy rfl ?_ ?_<;>intro hc3<;>try simp only [qs] at hc3
    ·refine zkk ?_
     refine kh18 (zc fun _ kh19 => ?_);refine CW.block ?_;refine CW.regionKT (bt :: vi.ownBlock.toList) 8 9 rfl hmix fun kR20 kr20 hS hdr => ?_;have hch := hch.ta hdr;have hb2 := hb2.keep0 hdr;have hb6 := hb6.keep0 hdr;have hT := hT.keep0 hdr;have hb6_r := hb6;have hgv := hgv.keep0 hdr;have hNUi := hgv.nu (rdW_W hB _ _ _) (by rw [rdW_len]; omega);have hn6 : b6 ∉ bt :: vi.ownBlock.toList := fun hm => by
      rcases List.mem_cons.1 hm with e | hm
      · omega
      · exact hgv.notin (.inl (by simp)) hm
     refine wk 0 rfl hS (fun _ _ => Ev.fieldAddr rfl) (wk 1 rfl hS (fun _ hw' => Ev.load (v := vi) rfl rfl ((hb6_r.keep hw' hn6).at_ rfl)) (wk 2 rfl hS (fun _ _ => Ev.move rfl) ?_));refine WK.oneCall 3 rfl (by kernel_rfl) hasF88 rfl rfl (number_spec lo bt _ bs _ 4 _ hT hL hB (by decide)) fun v w36 h' => ?_;obtain ⟨rfl, hT, hC⟩ := h';have hS := hS.step hC (fun y hy => .inl (by rw [List.mem_singleton.1 hy]; exact List.mem_cons_self ..));refine ⟨hS, ?_⟩;have hch := hch.step hC (fun y hy => .inl hy);have hb2 := hb2.keep hC (by simp; omega);have hb6 := hb6.keep hC (by simp; omega);have hgv := hgv.keep hC (fun y hy => .inr (.inl (by rw [List.mem_singleton.1 hy]; omega)));have hn4 := rdN_ltk hB (rdW bs p3 d3 i).2.1 (rdW bs p3 d3 i).2.2 4;have hW4 : rdW bs p3 d3 (i + 1) = ((rdW bs p3 d3 i).1 ++ [(rdN bs (rdW bs p3 d3 i).2.1 (rdW bs p3 d3 i).2.2 4).1], (rdN bs (rdW bs p3 d3 i).2.1 (rdW bs p3 d3 i).2.2 4).2) := by rw [rdW]
     generalize hR4 : rdN bs (rdW bs p3 d3 i).2.1 (rdW bs p3 d3 i).2.2 4 = R4 at *;obtain ⟨n4, p4, d4⟩ := R4;dsimp only at hT hn4 hW4;dsimp only;refine wk 4 rfl hS (fun _ _ => Ev.convIn rfl rfl (in_u32 (by omega))) ?_;refine WK.buildSliceC (m := 1) (cs := [u32v n4]) 5 rfl (by kernel_rfl) hS (by decide) (by decide) rfl (by kernel_rfl) rfl fun b38 w38 hn38 hS => ?_;have hb38 := hn38.at_;have hT := hT.keep0 hn38.chg;have hgv := hgv.keep0 hn38.chg;have hch := hch.trans (Chg.any hn38.chg);have hb2 := hb2.keep0 hn38.chg;have hb6 := hb6.keep0 hn38.chg;have hX39 : ∀ b ∈ [b2, b6], b < w38.heap.size := fun b hm => by
      simp only [List.mem_cons, List.not_mem_nil, or_false] at hm;rcases hm with rfl | rfl
      · exact hb2.lt
      · exact hb6.lt
     refine WK.growL (f := u32v) (news := [n4]) 6 rfl (by kernel_rfl) (by rfl) (fun _ => rfl) rfl rfl hgv rfl (RW.one_f hb38 rfl) hch.size hX39 (by simp [rdW_len]; omega) (by simp [rdW_len]; omega) rfl (fun w9 hc _ => hS.step hc (fun y hy => .inl (List.mem_cons_of_mem _ hy))) fun v39 w39 hg39 hc39 => ?_;have hT := hT.keep hc39 (fun y hy => Nat.le_trans hlo (hgv.ge y hy));have hb2 := hb2.keep hc39 (hgv.notin (.inl (by simp)));have hb6 := hb6.keep hc39 (hgv.notin (.inl (by simp)));have hch := GR.frame hgv hc39 hch (Nat.le_refl _);have hgv := hg39;have ho39 := hg39.one;have hS := hS.step hc39 (fun y hy => .inl (List.mem_cons_of_mem _ hy));refine wk 7 rfl hS (fun _ _ => Ev.fieldAddr rfl) ?_;refine WK.storeC 8 rfl (by kernel_rfl) (by kernel_rfl) rfl rfl o1 hb6 (by simp) rfl fun ws5 hb6_ hcs5 => ?_;(try simp only [Sx.splice, qt] at hb6_);have hch := hch.s1 hcs5;have hb2 := hb2.keep hcs5 (by simp; omega);have hT := hT.keepBK hb6 hcs5 an;have hb6 := hb6_;refine WK.done (by kernel_rfl) (kr20 _ _ _ ?_);have hgv := hgv.keep hcs5 (fun y hy => .inl (by rw [List.mem_singleton.1 hy]; simp));refine kh19 ?_;refine zR fun _ kr21 => ?_;(first | refine zi rfl rfl ?_ | refine zo rfl rfl ?_);refine zm rfl ?_;refine WL.nil (kr21 _ _ _ ?_);refine ⟨rfl, (i + 1, v39), ?_, ?_, ?_⟩
     ·exact SLp
     ·refine ⟨by dsimp only; omega, ?_, hb2, hb6, ?_, hch⟩
      · rw [hW4]; exact hT
      · rw [hW4]; exact hgv
     ·show n3 - (i + 1) < n3 - i; omega
    ·have hi3 : n3 = i := by omega
     subst hi3;have hwl := rdW_len bs p3 d3 n3;have hWw := rdW_W hB p3 d3 n3;generalize hRW : rdW bs p3 d3 n3 = RR at *;obtain ⟨ws, q, bd⟩ := RR;dsimp only at hT hgv hwl hWw;have hov := hgv.one;have hNU := hgv.nu hWw (by omega);refine CW.exit ?_;refine kh13 (zc fun _ kh22 => Sr fun _ kh23 => zm rfl (zq rfl rfl (zz (kh23 ?_))));refine zy rfl ?_ ?_<;>intro hc4<;>try simp only [qs] at hc4
     ·have h0 : n3 = 0 := by have := hc4; omega
      have hD : rdD bs p bad = (decide ((n1 : Int) = 1), ws, ((n2 : Int) - 4096), q, decide (bd = true ∨ (n1 : Int) = 1 ∨ (n2 : Int) - 4096 ≠ 0)) := by unfold rdD; rw [hR1]; dsimp only; rw [hR2]; dsimp only; rw [hR3]; dsimp only; rw [if_neg hq, hRW]; dsimp only; rw [if_pos h0]
      obtain ⟨a, c, hb, hr, hp, hcc, hbl, hal⟩ := id hT;refine zR fun _ kr25 => ?_;refine zm rfl (zm rfl ?_);refine WL.ev (Ev.nilPtr rfl) rfl ?_;refine zf rfl ?_;refine WL.ev (Ev.load (v := .bool bd) rfl rfl (hb.at_ rfl)) rfl ?_;refine zm rfl ?_;refine zb ?_ ?_<;>intro hg5<;>try simp only [qs] at hg5
      ·refine zv rfl (zv rfl (zt rfl rfl (zm rfl (zv rfl (zv rfl (zt rfl rfl ?_))))));refine WL.ev (Ev.nilPtr rfl) rfl ?_
       refine zf rfl ?_;refine WL.storeC rfl rfl rfl hb (by simp) rfl fun ws9 hb_ hcs9 => ?_;simp only [List.set_cons_succ, List.set_cons_zero] at hb_;have hT := hT.set hb hb_ hcs9;have hb2 := hb2.keep hcs9 (by simp; omega);have hb6 := hb6.keep hcs9 (by simp; omega);have hNU := hNU.keepBK hb hcs9 (by intro v hv; simp only [List.mem_cons, List.not_mem_nil, or_false] at hv; rcases hv with rfl | rfl <;> rfl);have hch := hch.step hcs9 (fun y hy => .inl hy);refine WL.nil (kr25 _ _ _ (kh22 ?_));refine Sr fun _ kh26 => zg hb6 rfl ?_;refine zss rfl rfl ao hb2 rfl fun ws6 hb2_ hcs6 => ?_;(try simp only [Sx.splice, qt] at hb2_);have hch := hch.s1 hcs6;have hT := hT.keepBK hb2 hcs6 an;have hNU := hNU.keepBK hb2 hcs6 an;have hb2 := hb2_;refine zz (kh26 ?_);refine zr (bodyA.retR1 rfl (RVal.cell rfl (BK.varA hb2 rfl (by simp))) ?_);rw [hD];refine ⟨_, rfl, hNU, ?_, hch⟩;refine Eq.mp (congrArg (TpM lo _ bt bs q) ?_) hT;dsimp only
       first | (simp_all; done) | (refine (decide_eq_true ?_).symm; simp_all; done) | (refine decide_eq_decide.2 ?_; simp_all; done) | (refine decide_eq_decide.2 ?_; simp_all; omega) | (refine (decide_eq_true (.inr (.inl ?_))).symm; omega) | (refine (decide_eq_true (.inr (.inl ?_))).symm; simp_all; omega)
      ·refine zw rfl (zf rfl (zw rfl (zl hb6 rfl rfl (ze rfl rfl (zm rfl ?_)))));refine zb ?_ ?_<;>intro hg6<;>try simp only [qs] at hg6
       ·refine zv rfl (zv rfl (zt rfl rfl ?_));refine WL.ev (Ev.nilPtr rfl) rfl ?_
        refine zf rfl ?_;refine WL.storeC rfl rfl rfl hb (by simp) rfl fun ws9 hb_ hcs9 => ?_;simp only [List.set_cons_succ, List.set_cons_zero] at hb_;have hT := hT.set hb hb_ hcs9;have hb2 := hb2.keep hcs9 (by simp; omega);have hb6 := hb6.keep hcs9 (by simp; omega);have hNU := hNU.keepBK hb hcs9 (by intro v hv; simp only [List.mem_cons, List.not_mem_nil, or_false] at hv; rcases hv with rfl | rfl <;> rfl);have hch := hch.step hcs9 (fun y hy => .inl hy);refine WL.nil (kr25 _ _ _ (kh22 ?_));refine Sr fun _ kh28 => zg hb6 rfl ?_;refine zss rfl rfl ao hb2 rfl fun ws7 hb2_ hcs7 => ?_;(try simp only [Sx.splice, qt] at hb2_);have hch := hch.s1 hcs7;have hT := hT.keepBK hb2 hcs7 an;have hNU := hNU.keepBK hb2 hcs7 an;have hb2 := hb2_;refine zz (kh28 ?_);refine zr (bodyA.retR1 rfl (RVal.cell rfl (BK.varA hb2 rfl (by simp))) ?_);rw [hD];refine ⟨_, rfl, hNU, ?_, hch⟩;refine Eq.mp (congrArg (TpM lo _ bt bs q) ?_) hT;dsimp only
        first | (simp_all; done) | (refine (decide_eq_true ?_).symm; simp_all; done) | (refine decide_eq_decide.2 ?_; simp_all; done) | (refine decide_eq_decide.2 ?_; simp_all; omega) | (refine (decide_eq_true (.inr (.inl ?_))).symm; omega) | (refine (decide_eq_true (.inr (.inl ?_))).symm; simp_all; omega)
       ·refine zw rfl (zm rfl (zw rfl ?_));refine WL.ev (Ev.neq rfl rfl) rfl ?_
        refine ze rfl rfl ?_;refine WL.ev (Ev.nilPtr rfl) rfl ?_;refine zf rfl ?_;refine WL.storeC rfl rfl rfl hb (by simp) rfl fun ws9 hb_ hcs9 => ?_;simp only [List.set_cons_succ, List.set_cons_zero] at hb_;have hT := hT.set hb hb_ hcs9;have hb2 := hb2.keep hcs9 (by simp; omega);have hb6 := hb6.keep hcs9 (by simp; omega);have hNU := hNU.keepBK hb hcs9 (by intro v hv; simp only [List.mem_cons, List.not_mem_nil, or_false] at hv; rcases hv with rfl | rfl <;> rfl);have hch := hch.step hcs9 (fun y hy => .inl hy);refine WL.nil (kr25 _ _ _ (kh22 ?_));refine Sr fun _ kh30 => zg hb6 rfl ?_;refine zss rfl rfl ao hb2 rfl fun ws8 hb2_ hcs8 => ?_;(try simp only [Sx.splice, qt] at hb2_);have hch := hch.s1 hcs8;have hT := hT.keepBK hb2 hcs8 an;have hNU := hNU.keepBK hb2 hcs8 an;have hb2 := hb2_;refine zz (kh30 ?_);refine zr (bodyA.retR1 rfl (RVal.cell rfl (BK.varA hb2 rfl (by simp))) ?_);rw [hD];refine ⟨_, rfl, hNU, ?_, hch⟩;refine Eq.mp (congrArg (TpM lo _ bt bs q) ?_) hT;dsimp only
        first | (simp_all; done) | (refine (decide_eq_true ?_).symm; simp_all; done) | (refine decide_eq_decide.2 ?_; simp_all; done) | (refine decide_eq_decide.2 ?_; simp_all; omega) | (refine (decide_eq_true (.inr (.inl ?_))).symm; omega) | (refine (decide_eq_true (.inr (.inl ?_))).symm; simp_all; omega)
     ·have h0 : ¬ n3 = 0 := by have := hc4; omega
      have hD : rdD bs p bad = (decide ((n1 : Int) = 1), ws, ((n2 : Int) - 4096), q, decide (bd = true ∨ ws.getD 0 0 % 2 = 0 ∨ ws.getD (n3 - 1) 0 = 0)) := by unfold rdD; rw [hR1]; dsimp only; rw [hR2]; dsimp only; rw [hR3]; dsimp only; rw [if_neg hq, hRW]; dsimp only; rw [if_neg h0]
      obtain ⟨a6, c6, rfl, hcap6, hr6⟩ := hgv.row;obtain ⟨a, c, hb, hr, hp, hcc, hbl, hal⟩ := id hT;refine zR fun _ kr32 => ?_;refine zm rfl (zm rfl ?_);refine WL.ev (Ev.nilPtr rfl) rfl ?_;refine zf rfl ?_;refine WL.ev (Ev.load (v := .bool bd) rfl rfl (hb.at_ rfl)) rfl ?_;refine zm rfl ?_;refine zb ?_ ?_<;>intro hg7<;>try simp only [qs] at hg7
      ·refine zv rfl (zv rfl (zv rfl (zv rfl (zv rfl (zv rfl (zt rfl rfl (zm rfl (zv rfl (zv rfl (zv rfl (zv rfl (zv rfl (zv rfl (zv rfl (zt rfl rfl ?_)))))))))))))));refine WL.ev (Ev.nilPtr rfl) rfl ?_
       refine zf rfl ?_;refine WL.storeC rfl rfl rfl hb (by simp) rfl fun ws9 hb_ hcs9 => ?_;simp only [List.set_cons_succ, List.set_cons_zero] at hb_;have hT := hT.set hb hb_ hcs9;have hb2 := hb2.keep hcs9 (by simp; omega);have hb6 := hb6.keep hcs9 (by simp; omega);have hNU := hNU.keepBK hb hcs9 (by intro v hv; simp only [List.mem_cons, List.not_mem_nil, or_false] at hv; rcases hv with rfl | rfl <;> rfl);have hch := hch.step hcs9 (fun y hy => .inl hy);refine WL.nil (kr32 _ _ _ (kh22 ?_));refine Sr fun _ kh33 => zg hb6 rfl ?_;refine zss rfl rfl ao hb2 rfl fun ws9 hb2_ hcs9 => ?_;(try simp only [Sx.splice, qt] at hb2_);have hch := hch.s1 hcs9;have hT := hT.keepBK hb2 hcs9 an;have hNU := hNU.keepBK hb2 hcs9 an;have hb2 := hb2_;refine zz (kh33 ?_);refine zr (bodyA.retR1 rfl (RVal.cell rfl (BK.varA hb2 rfl (by simp))) ?_);rw [hD];refine ⟨_, rfl, hNU, ?_, hch⟩;refine Eq.mp (congrArg (TpM lo _ bt bs q) ?_) hT;dsimp only
       first | (simp_all; done) | (refine (decide_eq_true ?_).symm; simp_all; done) | (refine decide_eq_decide.2 ?_; simp_all; done) | (refine decide_eq_decide.2 ?_; simp_all; omega) | (refine (decide_eq_true (.inr (.inl ?_))).symm; omega) | (refine (decide_eq_true (.inr (.inl ?_))).symm; simp_all; omega)
      ·refine zw rfl (zf rfl (zw rfl (zl hb6 rfl rfl (zw rfl ?_))));refine WL.ev (Ev.ixR (0) rfl rfl hr6 (by omega) (by omega) (by simp; omega)) rfl ?_
       refine zw rfl ?_;refine WL.ev (Ev.load rfl rfl (hr6.u32 (by first | omega | (simp; omega)))) rfl ?_;refine zw rfl ?_;refine WL.ev (Ev.remU (b := 2) rfl rfl (by omega)) rfl ?_;refine zw rfl (zq rfl rfl (ze rfl rfl (zm rfl ?_)));refine zb ?_ ?_<;>intro hg8<;>try simp only [qs] at hg8
       ·refine zv rfl (zv rfl (zv rfl (zv rfl (zv rfl (zv rfl (zv rfl (zt rfl rfl ?_)))))));refine WL.ev (Ev.nilPtr rfl) rfl ?_
        refine zf rfl ?_;refine WL.storeC rfl rfl rfl hb (by simp) rfl fun ws9 hb_ hcs9 => ?_;simp only [List.set_cons_succ, List.set_cons_zero] at hb_;have hT := hT.set hb hb_ hcs9;have hb2 := hb2.keep hcs9 (by simp; omega);have hb6 := hb6.keep hcs9 (by simp; omega);have hNU := hNU.keepBK hb hcs9 (by intro v hv; simp only [List.mem_cons, List.not_mem_nil, or_false] at hv; rcases hv with rfl | rfl <;> rfl);have hch := hch.step hcs9 (fun y hy => .inl hy);refine WL.nil (kr32 _ _ _ (kh22 ?_));refine Sr fun _ kh35 => zg hb6 rfl ?_;refine zss rfl rfl ao hb2 rfl fun ws10 hb2_ hcs10 => ?_;(try simp only [Sx.splice, qt] at hb2_);have hch := hch.s1 hcs10;have hT := hT.keepBK hb2 hcs10 an;have hNU := hNU.keepBK hb2 hcs10 an;have hb2 := hb2_;refine zz (kh35 ?_);refine zr (bodyA.retR1 rfl (RVal.cell rfl (BK.varA hb2 rfl (by simp))) ?_);rw [hD];refine ⟨_, rfl, hNU, ?_, hch⟩;refine Eq.mp (congrArg (TpM lo _ bt bs q) ?_) hT;dsimp only
        first | (simp_all; done) | (refine (decide_eq_true ?_).symm; simp_all; done) | (refine decide_eq_decide.2 ?_; simp_all; done) | (refine decide_eq_decide.2 ?_; simp_all; omega) | (refine (decide_eq_true (.inr (.inl ?_))).symm; omega) | (refine (decide_eq_true (.inr (.inl ?_))).symm; simp_all; omega)
       ·refine zw rfl (zf rfl (zw rfl (zl hb6 rfl rfl (zw rfl (zm rfl (zw rfl ?_))))))
        first | refine WL.ev (Ev.subIn rfl rfl (by omega)) rfl ?_ | refine WL.ev (Ev.sub rfl rfl) rfl ?_
        refine zw rfl ?_;refine WL.ev (Ev.ixR ((n3 - 1)) rfl rfl hr6 (by omega) (by omega) (by simp; omega)) rfl ?_;refine zw rfl ?_;refine WL.ev (Ev.load rfl rfl (hr6.u32 (by first | omega | (simp; omega)))) rfl ?_;refine zw rfl (zq rfl rfl (ze rfl rfl ?_));refine WL.ev (Ev.nilPtr rfl) rfl ?_;refine zf rfl ?_;refine WL.storeC rfl rfl rfl hb (by simp) rfl fun ws9 hb_ hcs9 => ?_;simp only [List.set_cons_succ, List.set_cons_zero] at hb_;have hT := hT.set hb hb_ hcs9;have hb2 := hb2.keep hcs9 (by simp; omega);have hb6 := hb6.keep hcs9 (by simp; omega);have hNU := hNU.keepBK hb hcs9 (by intro v hv; simp only [List.mem_cons, List.not_mem_nil, or_false] at hv; rcases hv with rfl | rfl <;> rfl);have hch := hch.step hcs9 (fun y hy => .inl hy);refine WL.nil (kr32 _ _ _ (kh22 ?_));refine Sr fun _ kh37 => zg hb6 rfl ?_;refine zss rfl rfl ao hb2 rfl fun ws11 hb2_ hcs11 => ?_;(try simp only [Sx.splice, qt] at hb2_);have hch := hch.s1 hcs11;have hT := hT.keepBK hb2 hcs11 an;have hNU := hNU.keepBK hb2 hcs11 an;have hb2 := hb2_;refine zz (kh37 ?_);refine zr (bodyA.retR1 rfl (RVal.cell rfl (BK.varA hb2 rfl (by simp))) ?_);rw [hD];refine ⟨_, rfl, hNU, ?_, hch⟩;refine Eq.mp (congrArg (TpM lo _ bt bs q) ?_) hT;dsimp only
        first | (simp_all; done) | (refine (decide_eq_true ?_).symm; simp_all; done) | (refine decide_eq_decide.2 ?_; simp_all; done) | (refine decide_eq_decide.2 ?_; simp_all; omega) | (refine (decide_eq_true (.inr (.inl ?_))).symm; omega) | (refine (decide_eq_true (.inr (.inl ?_))).symm; simp_all; omega)

end

/- Means where signs are turned. No condition. -/
section
open Go Sx Wd
set_option exponentiation.threshold 9000

/-- A number's bits with the other sign. -/
def ngB (x : Nat) : Nat := if x < 9223372036854775808 then x + 9223372036854775808 else x - 9223372036854775808
theorem negFloat_eq {x : Nat} (h : x < 18446744073709551616) : Op.negFloat .f64 x = ngB x := by
  unfold ngB
  by_cases q : x < 9223372036854775808
  · rw [if_pos q]; exact negF q
  · rw [if_neg q]
    have e := negF (x := x - 9223372036854775808) (by omega)
    rw [show x - 9223372036854775808 + 9223372036854775808 = x by omega] at e
    have e' : (x - 9223372036854775808) ^^^ 2 ^ 63 = x := e
    show x ^^^ 2 ^ 63 = _
    calc x ^^^ 2 ^ 63 = ((x - 9223372036854775808) ^^^ 2 ^ 63) ^^^ 2 ^ 63 := by rw [e']
      _ = x - 9223372036854775808 := by rw [Nat.xor_assoc, Nat.xor_self, Nat.xor_zero]
end

/- Package bits: neighbours. No condition. -/
section
open Go Sx Wd Fl

end

/- The ends of a shard that is read. No condition. -/
section
open Go Sx Wd Fl

def isInfP (x : Nat) (s : Int) : Prop := if s = 0 then x % 9223372036854775808 = 9218868437227405312 else if s < 0 then x = 18442240474082181120 else x = 9218868437227405312
instance (x : Nat) (s : Int) : Decidable (isInfP x s) := by unfold isInfP; exact inferInstance
theorem read_max : Ieee.double.read 9218868437227405311 = .number false 9007199254740991 971 := by decide +kernel
theorem order_max {x : Nat} (hx : x < 18446744073709551616) : (FloatKind.f64.format.order x 9218868437227405311 == some .gt) = decide (x = 9218868437227405312) := by
  by_cases h : (splitP x).cls ≤ 2
  · have hm := fin_mod h
    have hne : ¬ x = 9218868437227405312 := by omega
    rw [order_fin h (by decide +kernel), fcmp_gt, decide_eq_false hne]
    refine decide_eq_false ?_
    rw [fv_pos (r := 9218868437227405311) (by decide), fvI_nz h hx]
    have hmn := Nat.mul_le_mul_right (2 ^ 1074) (nz_le (show x % 9223372036854775808 ≤ 9218868437227405311 by omega))
    split <;> omega
  · have hm : ¬ x % 9223372036854775808 < 9218868437227405312 := fun z => h ((cls_le2 x).2 z)
    show ((Ieee.double.read x).order (Ieee.double.read 9218868437227405311) == some .gt) = _
    rw [read_max]
    unfold Ieee.Format.read
    simp only [double_sign, double_inf, double_bin]
    split
    · omega
    · split
      · simp only [Ieee.Datum.order]
        by_cases hs : x < 9223372036854775808
        · have e : (x / 9223372036854775808 % 2 == 1) = false := by simp; omega
          rw [e, decide_eq_true (by omega)]; rfl
        · have e : (x / 9223372036854775808 % 2 == 1) = true := by simp; omega
          rw [e, decide_eq_false (by omega)]; rfl
      · rw [decide_eq_false (by omega)]; rfl
theorem and_abs (x : Nat) : x &&& (2 ^ IntKind.u64.bits - 1 - 9223372036854775808) = x % 9223372036854775808 := Nat.and_two_pow_sub_one_eq_mod x 63
theorem ngB_lt2 {x : Nat} (h : x < 18446744073709551616) : ngB x < 18446744073709551616 := by unfold ngB; split <;> omega

theorem fAbs_spec (x : Nat) (w : World) (hx : x < 18446744073709551616) : Ret Tryz.prog 211 [.float .f64 x] w fun u w' => u = .float .f64 (x % 9223372036854775808) ∧ w = w' := by
 refine zE1 Tryz.func211 rfl ?_;refine Sr fun _ kh1 => za rfl (zz (kh1 (Sr fun _ kh3 => zm rfl ?_)));refine WL.ev (Ev.ext rfl (ext65 _ _)) rfl ?_;refine WL.ev (Ev.andNotU (a := x) (b := 9223372036854775808) rfl rfl rfl (by simp only [IntKind.bits]; omega) (by decide)) rfl ?_;rw [and_abs];refine WL.ev (Ev.ext rfl (ext87 _ _)) rfl ?_;refine za rfl (zz (kh3 ?_));refine zr (zr1 rfl rfl ?_);exact ⟨congrArg (Value.float .f64) (by first | rfl | omega), rfl⟩

theorem fSign_spec (x : Nat) (w : World) (hx : x < 18446744073709551616) : Ret Tryz.prog 266 [.float .f64 x] w fun u w' => u = .bool (decide (9223372036854775808 ≤ x)) ∧ w = w' := by
 refine zE1 Tryz.func266 rfl ?_;refine Sr fun _ kh1 => za rfl (zz (kh1 (Sr fun _ kh3 => zm rfl ?_)));refine WL.ev (Ev.ext rfl (ext65 _ _)) rfl ?_;refine WL.ev (Ev.conv rfl rfl) rfl ?_;rw [wrap_i64m];refine WL.ev (Ev.lss rfl rfl) rfl ?_;refine za rfl (zz (kh3 ?_));refine zr (zr1 rfl rfl ?_);exact ⟨congrArg Value.bool (decide_eq_decide.2 (by omega)), rfl⟩

theorem fInf_spec (x : Nat) (s : Int) (w : World) (hx : x < 18446744073709551616) (hs : s = -1 ∨ s = 0 ∨ s = 1) : Ret Tryz.prog 126 [.float .f64 x, .int .i64 s] w fun u w' => u = .bool (decide (isInfP x s)) ∧ w = w' := by
 refine zE2 Tryz.func126 rfl ?_;refine Sr fun _ kh1 => za rfl (zz (kh1 (zc fun _ kh3 => Sr fun _ kh4 => zm rfl (zq rfl rfl (zz (kh4 ?_))))));refine zy rfl ?_ ?_<;>intro hc1<;>try simp only [qs] at hc1
 ·have h0 : s = 0 := hc1
  refine zR fun _ kr6 => ?_;refine zm rfl ?_;refine WL.call hasF211 rfl rfl (fAbs_spec x _ hx) fun v w1 h' => ?_;obtain ⟨rfl, rfl⟩ := h';refine za rfl ?_;refine WL.nil (kr6 _ _ _ (kh3 ?_));refine Sr fun _ kh7 => zm rfl ?_;refine WL.ev (Ev.fgtr rfl rfl) rfl ?_;refine za rfl (zz (kh7 ?_));refine zr (zr1 rfl rfl ?_);refine ⟨congrArg Value.bool ((order_max (by omega)).trans (decide_eq_decide.2 ?_)), rfl⟩;unfold isInfP; rw [if_pos h0]
 ·have h0 : ¬ s = 0 := hc1
  refine Sr fun _ kh9 => zm rfl ?_;refine WL.ev (Ev.lss rfl rfl) rfl ?_;refine zz (kh9 ?_);refine zy rfl ?_ ?_<;>intro hc2<;>try simp only [qs] at hc2
  ·have h1 : s < 0 := hc2
   refine zR fun _ kr11 => ?_;refine zm rfl ?_;refine WL.ev (Ev.fneg rfl) rfl ?_;rw [negFloat_eq hx];refine za rfl ?_;refine WL.nil (kr11 _ _ _ (kh3 ?_));refine Sr fun _ kh12 => zm rfl ?_;refine WL.ev (Ev.fgtr rfl rfl) rfl ?_;refine za rfl (zz (kh12 ?_));refine zr (zr1 rfl rfl ?_);refine ⟨congrArg Value.bool ((order_max (ngB_lt2 hx)).trans (decide_eq_decide.2 ?_)), rfl⟩;unfold isInfP ngB; rw [if_neg h0, if_pos h1]; split <;> omega
  ·have h1 : ¬ s < 0 := by have := hc2; omega
   refine zkk ?_;refine kh3 (Sr fun _ kh14 => zm rfl ?_);refine WL.ev (Ev.fgtr rfl rfl) rfl ?_;refine za rfl (zz (kh14 ?_));refine zr (zr1 rfl rfl ?_);refine ⟨congrArg Value.bool ((order_max hx).trans (decide_eq_decide.2 ?_)), rfl⟩;unfold isInfP; rw [if_neg h0, if_neg h1]

end

/- The ends of a shard that is read: end, ends. No condition. -/
section
open Go Sx Wd Fl

/-- May x be the end on a side? -/
def endP (x : Nat) (side : Int) (there beyond noughts : Nat) (S : Sh) : Prop :=
  if 0 < there then isInfP x side else if S.fin = 0 then 0 < beyond ∧ isInfP x (-side) else if isInfP x 0 then False else if 0 < S.pln then True else x % 9223372036854775808 = 0 ∧ (9223372036854775808 ≤ x ↔ (side < 0 ↔ 0 < noughts))
instance (x : Nat) (side : Int) (a b c : Nat) (S : Sh) : Decidable (endP x side a b c S) := by unfold endP; exact inferInstance
def endsP (S : Sh) : Prop := ¬ (isNaN S.lo = true ∨ isNaN S.hi = true ∨ key S.hi < key S.lo) ∧ endP S.lo (-1) S.s.dn S.s.up S.s.mi S ∧ endP S.hi 1 S.s.up S.s.dn S.s.pl S
instance (S : Sh) : Decidable (endsP S) := by unfold endsP; exact inferInstance
theorem LASTEQ {a b c d : Prop} {x : Nat} [Decidable a] [Decidable b] [Decidable c] [Decidable d] (hq : c ↔ d) (h : x % 9223372036854775808 = 0) : (decide a == (decide b == decide c)) = decide (x % 9223372036854775808 = 0 ∧ (a ↔ (b ↔ d))) := by
  rw [Bool.eq_iff_iff]
  by_cases ha : a <;> by_cases hb : b <;> by_cases hd : d <;> simp [ha, hb, hd, hq, h]
theorem BEYT {a c : Prop} [Decidable a] [Decidable c] (h : a) : decide c = decide (a ∧ c) := by simp [h]
theorem BEYF {a c : Prop} [Decidable a] [Decidable c] (h : ¬ a) : false = decide (a ∧ c) := by simp [h]
theorem dec_iff {a b : Prop} [Decidable a] [Decidable b] : (decide a == decide b) = decide (a ↔ b) := by
  by_cases ha : a <;> by_cases hb : b <;> simp [ha, hb]

theorem shend_spec (b x there beyond noughts : Nat) (side : Int) (S : Sh) (w : World) (hS : ShM 109 w b S) (hle : S.s.le 1099511627776) (hx : x < 18446744073709551616) (hsd : side = -1 ∨ side = 1) : Ret Tryz.prog 181 [.float .f64 x, .int .i64 side, .int .i64 (there : Int), .int .i64 (beyond : Int), .int .i64 (noughts : Int), .pointer (some ⟨b, 0, none⟩)] w fun u w' => u = .bool (decide (endP x side there beyond noughts S)) ∧ Chg [] w w' := by
 have hS0 := hS;have hch : Chg [] w w := Chg.refl _ _;refine Ret.enter Tryz.func181 rfl rfl ?_;simp only [args0, Nat.zero_add, Nat.reduceAdd];refine Sr fun _ kh1 => za rfl (zz (kh1 (zc fun _ kh3 => ?_)));refine CW.block ?_;refine Sr fun _ kh4 => zm rfl ?_;refine WL.ev (Ev.gtr rfl rfl) rfl ?_;refine za rfl (zz (kh4 ?_));refine zy rfl ?_ ?_<;>intro hc1<;>try simp only [qs] at hc1
 ·have h1 : 0 < there := by have := hc1; omega
  refine Sr fun _ kh6 => zm rfl (zm rfl ?_);refine WL.call hasF126 rfl rfl (fInf_spec x side _ hx (by omega)) fun v w1 h' => ?_;obtain ⟨rfl, rfl⟩ := h';refine za rfl (zz (kh6 ?_));refine zr (zr1 rfl rfl ?_);refine ⟨congrArg Value.bool (decide_eq_decide.2 ?_), hch⟩
  show _ ↔ endP x side there beyond noughts S
  unfold endP;rw [if_pos h1]
 ·have h1 : ¬ 0 < there := by have := hc1; omega
  refine Sr fun _ kh8 => zm rfl ?_;refine WL.call hasF85 rfl rfl (finite_spec b S _ hS0 hle) fun v w2 h' => ?_;obtain ⟨rfl, hC⟩ := h';have hch := hch.ta hC;have hS0 := hS0.keep0 hC;refine zq rfl rfl (za rfl (zz (kh8 ?_)));refine zy rfl ?_ ?_<;>intro hc2<;>try simp only [qs] at hc2
  ·have h2 : S.fin = 0 := hc2
   refine Sr fun _ kh10 => zm rfl ?_;refine WL.ev (Ev.gtr rfl rfl) rfl ?_;refine zm rfl ?_;refine zb ?_ ?_<;>intro hg3<;>try simp only [qs] at hg3
   ·refine zw rfl (zm rfl (zw rfl (zm rfl (zw rfl ?_))));refine WL.ev (Ev.negIn rfl (by omega)) rfl ?_
    refine zw rfl ?_;refine WL.call hasF126 rfl rfl (fInf_spec x (-side) _ hx (by omega)) fun v w3 h' => ?_;obtain ⟨rfl, rfl⟩ := h';refine zt rfl rfl (za rfl (zz (kh10 ?_)));refine zr (zr1 rfl rfl ?_);refine ⟨congrArg Value.bool ?_, hch⟩;have e : (endP x side there beyond noughts S) ↔ (0 < beyond ∧ isInfP x (-side)) := by unfold endP; rw [if_neg h1, if_pos h2]
    rw [decide_eq_decide.2 e]
    first | exact BEYT (by omega) | exact BEYF (by omega)
   ·refine zv rfl (zv rfl (zv rfl (zv rfl (ze rfl rfl (za rfl (zz (kh10 ?_)))))));refine zr (zr1 rfl rfl ?_);refine ⟨congrArg Value.bool ?_, hch⟩;have e : (endP x side there beyond noughts S) ↔ (0 < beyond ∧ isInfP x (-side)) := by unfold endP; rw [if_neg h1, if_pos h2]
    rw [decide_eq_decide.2 e]
    first | exact BEYT (by omega) | exact BEYF (by omega)
  ·have h2 : ¬ S.fin = 0 := hc2
   refine Sr fun _ kh12 => zm rfl ?_;refine WL.call hasF126 rfl rfl (fInf_spec x 0 _ hx (by omega)) fun v w4 h' => ?_;obtain ⟨rfl, rfl⟩ := h';refine za rfl (zz (kh12 ?_));refine zy rfl ?_ ?_<;>intro hc4<;>try simp only [qs] at hc4
   ·have h3 : isInfP x 0 := by simpa using hc4
    refine Sr fun _ kh14 => za rfl (zz (kh14 ?_));refine zr (zr1 rfl rfl ?_);refine ⟨congrArg Value.bool (decide_eq_false ?_).symm, hch⟩;unfold endP;rw [if_neg h1, if_neg h2, if_pos h3];exact fun z => z
   ·have h3 : ¬ isInfP x 0 := by simpa using hc4
    refine Sr fun _ kh16 => zm rfl ?_;refine WL.call hasF178 rfl rfl (plain_spec b S _ hS0 hle) fun v w5 h' => ?_;obtain ⟨rfl, hC⟩ := h';have hch := hch.ta hC;refine WL.ev (Ev.gtr rfl rfl) rfl ?_;refine za rfl (zz (kh16 ?_));refine zy rfl ?_ ?_<;>intro hc5<;>try simp only [qs] at hc5
    ·have h4 : 0 < S.pln := by have := hc5; omega
     refine Sr fun _ kh18 => za rfl (zz (kh18 ?_));refine zr (zr1 rfl rfl ?_);refine ⟨congrArg Value.bool (decide_eq_true ?_).symm, hch⟩;unfold endP;rw [if_neg h1, if_neg h2, if_neg h3, if_pos h4]
     trivial
    ·have h4 : ¬ 0 < S.pln := by have := hc5; omega
     refine zkk ?_;refine kh3 (Sr fun _ kh20 => zm rfl ?_);refine WL.ev (Ev.lss rfl rfl) rfl ?_;refine zm rfl ?_;refine WL.ev (Ev.gtr rfl rfl) rfl ?_;refine WL.ev (Ev.eql_bool rfl rfl) rfl ?_;refine za rfl (zz (kh20 (Sr fun _ kh22 => zm rfl ?_)));refine WL.ev (Ev.feql rfl rfl) rfl ?_;rw [order_zero];refine zm rfl ?_;refine zb ?_ ?_<;>intro hg6<;>try simp only [qs] at hg6
     ·refine zw rfl (zm rfl (zw rfl ?_));refine WL.call hasF266 rfl rfl (fSign_spec x _ hx) fun v w6 h' => ?_
      obtain ⟨rfl, rfl⟩ := h';refine zw rfl (zm rfl (zw rfl ?_));refine WL.ev (Ev.eql_bool rfl rfl) rfl ?_;refine zt rfl rfl (za rfl (zz (kh22 ?_)));refine zr (zr1 rfl rfl ?_);refine ⟨congrArg Value.bool ?_, hch⟩;have e : (endP x side there beyond noughts S) ↔ (x % 9223372036854775808 = 0 ∧ (9223372036854775808 ≤ x ↔ (side < 0 ↔ 0 < noughts))) := by unfold endP; rw [if_neg h1, if_neg h2, if_neg h3, if_neg h4]
      rw [decide_eq_decide.2 e];have hq : (0 < (noughts : Int)) ↔ 0 < noughts := by omega
      first | (exact LASTEQ hq (by assumption))  | (rw [dec_iff, dec_iff]; refine decide_eq_decide.2 ?_; constructor <;> intro z <;> simp_all <;> omega) | (symm; refine decide_eq_false ?_; simp_all; done)
     ·refine zv rfl (zv rfl (zv rfl (zv rfl (ze rfl rfl (za rfl (zz (kh22 ?_)))))));refine zr (zr1 rfl rfl ?_);refine ⟨congrArg Value.bool ?_, hch⟩;have e : (endP x side there beyond noughts S) ↔ (x % 9223372036854775808 = 0 ∧ (9223372036854775808 ≤ x ↔ (side < 0 ↔ 0 < noughts))) := by unfold endP; rw [if_neg h1, if_neg h2, if_neg h3, if_neg h4]
      rw [decide_eq_decide.2 e];have hq : (0 < (noughts : Int)) ↔ 0 < noughts := by omega
      first | (exact LASTEQ hq (by assumption))  | (rw [dec_iff, dec_iff]; refine decide_eq_decide.2 ?_; constructor <;> intro z <;> simp_all <;> omega) | (symm; refine decide_eq_false ?_; simp_all; done)

end

end Go.Proofs.YtnbipejaidbihaaGreatDoor