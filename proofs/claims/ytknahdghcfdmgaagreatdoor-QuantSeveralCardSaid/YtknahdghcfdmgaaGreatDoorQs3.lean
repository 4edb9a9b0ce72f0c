/- Part 3 of what the proof rests on. No condition. -/
import Derived.Test.YtknahdghcfdmgaaGreatDoorQs2
set_option linter.unusedVariables false
set_option linter.unusedSimpArgs false
set_option maxRecDepth 100000
set_option maxHeartbeats 4000000
namespace Go.Proofs.YtknahdghcfdmgaaGreatDoor
/- Package dyad: Add, Sub, Mul, Neg, Sign. No condition. -/
section
open Go Sx Wd

theorem shift_fits {m k : Nat} (h0 : m ≠ 0) : (m = 0 ∨ (k : Int) ≤ 262144 - (bl m : Int)) ↔ (wd (m * 2 ^ k)).length ≤ 8192 := by
  have h := bl_words (n := m * 2 ^ k) (k := 8192)
  rw [bl_mul_pow h0] at h
  omega
theorem addD_eq {x y : Dy} {p q : Nat} (h1 : x.m ≠ 0) (h2 : y.m ≠ 0) (hp : p = x.m * 2 ^ (x.e - min x.e y.e).toNat) (hq : q = y.m * 2 ^ (y.e - min x.e y.e).toNat) :
    addD x y = if 8192 < (wd p).length ∨ 8192 < (wd q).length then none else if x.neg = y.neg then formD x.neg (p + q) (min x.e y.e) else if p < q then formD y.neg (q - p) (min x.e y.e) else formD x.neg (p - q) (min x.e y.e) := by
  subst hp; subst hq
  unfold addD
  rw [if_neg h1, if_neg h2]

theorem Add_dspec (na nb : Bool) (va vb : Value) (la lb : List Nat) (ea eb : Int) (w : World) (ha : NU w va la) (hb : NU w vb lb) (hg : GW w) (hea : -9223372036854775808 ≤ ea ∧ ea ≤ 9223372036854775807) (heb : -9223372036854775808 ≤ eb ∧ eb ≤ 9223372036854775807) : Ret Tryz.prog 70 [.agg [.bool na, va, .int .i64 ea].toArray, .agg [.bool nb, vb, .int .i64 eb].toArray] w fun u w' => DR w' u (both2 addD (formD na (val la) ea) (formD nb (val lb) eb)) ∧ Chg [] w w' := by
 have hch : Chg [] w w := Chg.refl _ _;have hoa := ha.one;have hob := hb.one;refine zE2 Tryz.func70 rfl ?_;refine Sr fun _ kh1 => ?_;refine WL.boxB rfl rfl rfl fun b2 wm2 hb2 hcm2 hge2 => ?_;have hgehch2 := Nat.le_trans hch.size hge2;have hch := hch.trans hcm2;have ha := ha.keep0 hcm2;have hb := hb.keep0 hcm2;refine WL.boxB rfl rfl rfl fun b3 wm3 hb3 hcm3 hge3 => ?_;have hgehch3 := Nat.le_trans hch.size hge3;have hch := hch.trans hcm3;have ha := ha.keep0 hcm3;have hb := hb.keep0 hcm3;have hneb23 := zdd hb2.lt hge3;have hb2 := hb2.k0 hcm3;refine WL.allocB (l := [.bool false, .slice none 0 0, .int .i64 0]) rfl rfl fun b4 wm4 hb4 hcm4 hge4 => ?_;have hgehch4 := Nat.le_trans hch.size hge4;have hch := hch.trans hcm4;have ha := ha.keep0 hcm4;have hb := hb.keep0 hcm4;have hneb24 := zdd hb2.lt hge4;have hb2 := hb2.k0 hcm4;have hneb34 := zdd hb3.lt hge4;have hb3 := hb3.k0 hcm4;refine za rfl (zz (kh1 (Sr fun _ kh3 => zg hb2 rfl (zg hb3 rfl ?_))));refine WL.call hasF146 rfl rfl (dboth_spec na nb va vb la lb ea eb _ ha hb (hg.keep0 hch) hea heb) fun v w1 h' => ?_;obtain ⟨hB, hC1⟩ := h';have hch := hch.trans hC1;have hb4 := hb4.k0 hC1;rcases hB with ⟨d1, d2, r1, r2, hd1, hd2, rfl, hNr1, hNr2⟩ | ⟨hno, n1, v1, e1, n2, v2, e2, rfl, hv1, hv2⟩
 ·have hok1 := formD_ok hd1;have hok2 := formD_ok hd2;have he1 := hok1.e;have he2 := hok2.e;have hl1 := hok1.len;have hl2 := hok2.len;obtain ⟨⟨a1, c1, rfl, hcap1, hr1⟩, hW1, hl1⟩ := hNr1;have hNr1 : NU _ (.slice a1 (wd d1.m).length c1) (wd d1.m) := NU.of_row hr1 hW1 hl1 rfl hcap1;obtain ⟨⟨a2, c2, rfl, hcap2, hr2⟩, hW2, hl2⟩ := hNr2;have hNr2 : NU _ (.slice a2 (wd d2.m).length c2) (wd d2.m) := NU.of_row hr2 hW2 hl2 rfl hcap2;have hw1 : (wd d1.m).length = 0 ↔ d1.m = 0 := by rw [List.length_eq_zero_iff, wd_eq_nil]
  have hw2 : (wd d2.m).length = 0 ↔ d2.m = 0 := by rw [List.length_eq_zero_iff, wd_eq_nil]
  refine zm rfl (zx rfl rfl (zx rfl rfl (zx rfl rfl ?_)));refine WL.allocB (l := [.bool false, .slice none 0 0, .int .i64 0]) rfl rfl fun b6 wm6 hb6 hcm6 hge6 => ?_;have hgehch6 := Nat.le_trans hch.size hge6;have hch := hch.trans hcm6;have hNr1 := hNr1.keep0 hcm6;have hNr2 := hNr2.keep0 hcm6;have hneb46 := zdd hb4.lt hge6;have hb4 := hb4.k0 hcm6;refine WL.allocB (l := [.bool false, .slice none 0 0, .int .i64 0]) rfl rfl fun b7 wm7 hb7 hcm7 hge7 => ?_;have hgehch7 := Nat.le_trans hch.size hge7;have hch := hch.trans hcm7;have hNr1 := hNr1.keep0 hcm7;have hNr2 := hNr2.keep0 hcm7;have hneb47 := zdd hb4.lt hge7;have hb4 := hb4.k0 hcm7;have hneb67 := zdd hb6.lt hge7;have hb6 := hb6.k0 hcm7;refine zss rfl rfl ao hb6 rfl fun ws25 hb6_ hcs25 => ?_;(try simp only [Sx.splice, qt] at hb6_);have hch := hch.step hcs25 (fun y hy => .inr (by simp only [List.mem_singleton] at hy; subst hy; first | assumption | omega));have hb4 := hb4.kq hcs25;have hb7 := hb7.kq hcs25;have hNr1 := hNr1.keepBK hb6 hcs25 an;have hNr2 := hNr2.keepBK hb6 hcs25 an;have hb6 := hb6_;refine zss rfl rfl ao hb7 rfl fun ws26 hb7_ hcs26 => ?_;(try simp only [Sx.splice, qt] at hb7_);have hch := hch.step hcs26 (fun y hy => .inr (by simp only [List.mem_singleton] at hy; subst hy; first | assumption | omega));have hb4 := hb4.kq hcs26;have hb6 := hb6.kq hcs26;have hNr1 := hNr1.keepBK hb7 hcs26 an;have hNr2 := hNr2.keepBK hb7 hcs26 an;have hb7 := hb7_;refine za rfl (zz (kh3 (zc fun _ kh5 => ?_)));refine CW.block ?_;refine Sr fun _ kh6 => zm rfl ?_;refine WL.ev (Ev.neq rfl rfl) rfl ?_;refine za rfl (zz (kh6 ?_));refine CW.condF rfl ?_;refine Sr fun _ kh8 => zf rfl (zl hb6 rfl rfl (zn rfl (zq rfl rfl (za rfl (zz (kh8 ?_))))));refine zy rfl ?_ ?_<;>intro hc1<;>try simp only [qs] at hc1
  ·have h01 : d1.m = 0 := by omega
   refine Sr fun _ kh10 => zg hb7 rfl ?_;refine zss rfl rfl ao hb4 rfl fun ws27 hb4_ hcs27 => ?_;(try simp only [Sx.splice, qt] at hb4_);have hch := hch.step hcs27 (fun y hy => .inr (by simp only [List.mem_singleton] at hy; subst hy; first | assumption | omega));have hNr2 := hNr2.keepBK hb4 hcs27 an;have hb4 := hb4_;refine za rfl (zz (kh10 ?_));refine zr (bodyA.retR2 rfl (RVal.cell rfl (hb4.varA rfl rfl)) (RVal.tmp rfl) ?_);rw [hd1, hd2];exact ⟨.inl ⟨_, d2, by show addD d1 d2 = _; unfold addD; rw [if_pos h01], rfl, hNr2⟩, hch⟩
  ·have h01 : d1.m ≠ 0 := by omega
   refine Sr fun _ kh12 => zf rfl (zl hb7 rfl rfl (zn rfl (zq rfl rfl (za rfl (zz (kh12 ?_))))));refine zy rfl ?_ ?_<;>intro hc2<;>try simp only [qs] at hc2
   ·have h02 : d2.m = 0 := by omega
    refine Sr fun _ kh14 => zg hb6 rfl ?_;refine zss rfl rfl ao hb4 rfl fun ws28 hb4_ hcs28 => ?_;(try simp only [Sx.splice, qt] at hb4_);have hch := hch.step hcs28 (fun y hy => .inr (by simp only [List.mem_singleton] at hy; subst hy; first | assumption | omega));have hNr1 := hNr1.keepBK hb4 hcs28 an;have hb4 := hb4_;refine za rfl (zz (kh14 ?_));refine zr (bodyA.retR2 rfl (RVal.cell rfl (hb4.varA rfl rfl)) (RVal.tmp rfl) ?_);rw [hd1, hd2];exact ⟨.inl ⟨_, d1, by show addD d1 d2 = _; unfold addD; rw [if_neg h01, if_pos h02], rfl, hNr1⟩, hch⟩
   ·have h02 : d2.m ≠ 0 := by omega
    refine zkk ?_;refine kh5 (Sr fun _ kh16 => zf rfl (zl hb6 rfl rfl (zf rfl (zl hb7 rfl rfl ?_))));refine WL.ev (Ev.minI rfl rfl) rfl ?_;refine za rfl (zz (kh16 (Sr fun _ kh18 => zf rfl (zl hb6 rfl rfl (zf rfl (zl hb6 rfl rfl (zm rfl ?_)))))));refine WL.ev (Ev.subIn rfl rfl (by omega)) rfl ?_;refine WL.call hasF147 rfl rfl (Shift_spec _ _ _ _ hNr1 (by omega)) fun v w2 h' => ?_;obtain ⟨hD3, hC3⟩ := h';rw [val_wd, show d1.e - min d1.e d2.e = ((d1.e - min d1.e d2.e).toNat : Int) by omega, shiftN_pos] at hD3;obtain ⟨p, hp⟩ : ∃ p, p = d1.m * 2 ^ (d1.e - min d1.e d2.e).toNat := ⟨_, rfl⟩;rw [← hp] at hD3;have hch := hch.trans hC3;have hb4 := hb4.k0 hC3;have hb6 := hb6.k0 hC3;have hb7 := hb7.k0 hC3;have hNr2 := hNr2.keep0 hC3;rw [shift_fits h01, ← hp] at hD3;rcases hD3 with ⟨⟨_, hp8⟩, rp, rfl, hNp⟩ | ⟨hp8, rfl⟩
    ·refine zm rfl (zx rfl rfl (zx rfl rfl (za rfl (za rfl (zz (kh18 (Sr fun _ kh20 => zf rfl (zl hb7 rfl rfl (zf rfl (zl hb7 rfl rfl (zm rfl ?_)))))))))));refine WL.ev (Ev.subIn rfl rfl (by omega)) rfl ?_;refine WL.call hasF147 rfl rfl (Shift_spec _ _ _ _ hNr2 (by omega)) fun v w3 h' => ?_;obtain ⟨hD4, hC4⟩ := h';rw [val_wd, show d2.e - min d1.e d2.e = ((d2.e - min d1.e d2.e).toNat : Int) by omega, shiftN_pos] at hD4;obtain ⟨q, hq⟩ : ∃ q, q = d2.m * 2 ^ (d2.e - min d1.e d2.e).toNat := ⟨_, rfl⟩;rw [← hq] at hD4;have hch := hch.trans hC4;have hb4 := hb4.k0 hC4;have hb6 := hb6.k0 hC4;have hb7 := hb7.k0 hC4;have hNp := hNp.keep0 hC4;rw [shift_fits h02, ← hq] at hD4;rcases hD4 with ⟨⟨_, hq8⟩, rq, rfl, hNq⟩ | ⟨hq8, rfl⟩
     ·refine zm rfl (zx rfl rfl (zx rfl rfl (za rfl (za rfl (zz (kh20 (zc fun _ kh22 => ?_)))))));refine CW.block ?_;refine Sr fun _ kh23 => zm rfl ?_;refine WL.ev (Ev.neq rfl rfl) rfl ?_;refine zm rfl (zw rfl (zm rfl (zw rfl ?_)));refine WL.ev (Ev.neq rfl rfl) rfl ?_;refine ze rfl rfl (za rfl (zz (kh23 ?_)));refine CW.condF rfl ?_;refine Sr fun _ kh25 => zf rfl (zl hb6 rfl rfl (zf rfl (zl hb7 rfl rfl ?_)));refine WL.ev (Ev.eql_bool rfl rfl) rfl ?_;refine za rfl (zz (kh25 ?_));refine zy rfl ?_ ?_<;>intro hc3<;>try simp only [qs] at hc3
      ·have hsg : d1.neg = d2.neg := by simpa using hc3
       refine zc fun _ kh27 => ?_;refine CW.regionKC 9 11 rfl hmix fun kR28 kr28 hS hdr => ?_;have hch := hch.trans hdr;have hb4 := hb4.k0 hdr;have hb6 := hb6.k0 hdr;have hNp := hNp.keep0 hdr;have hNq := hNq.keep0 hdr;have hb6_r := hb6;refine wk 0 rfl hS (fun _ _ => Ev.fieldAddr rfl) (wk 1 rfl hS (fun _ hw' => Ev.load rfl rfl ((hb6_r.keep0 hw').at_ rfl)) (wk 2 rfl hS (fun _ _ => Ev.move rfl) (wk 3 rfl hS (fun _ _ => Ev.move rfl) (wk 5 rfl hS (fun _ _ => Ev.move rfl) ?_))));refine WK.oneCall 4 rfl (by kernel_rfl) hasF148 rfl rfl (dsum_spec _ _ _ _ _ hNp hNq (by omega) (by omega)) fun v w4 h' => ?_;obtain ⟨L, hNL, hvL, hC82⟩ := h';rw [val_wd, val_wd] at hvL;have hch := hch.trans hC82;have hb4 := hb4.k0 hC82;have hS := hS.trans hC82;refine ⟨hS, ?_⟩;refine WK.oneCall 6 rfl (by kernel_rfl) hasF144 rfl rfl (form_spec _ _ _ _ _ hNL (hg.keep0 hch) (by omega)) fun v w5 h' => ?_;obtain ⟨hD84, hC84⟩ := h';have hch := hch.trans hC84;have hb4 := hb4.k0 hC84;have hS := hS.trans hC84;refine ⟨hS, ?_⟩;rcases hD84 with ⟨r, d, hd, rfl, hNr⟩ | ⟨hd, rfl⟩
       ·refine wk 7 rfl hS (fun _ _ => Ev.extract rfl rfl) (wk 8 rfl hS (fun _ _ => Ev.extract rfl rfl) ?_);refine WK.storeB 9 rfl (by kernel_rfl) (by kernel_rfl) rfl rfl rfl ao hb4 (by simp) rfl fun ws29 hb4_ hcs29 => ?_;(try simp only [Sx.splice, qt] at hb4_);have hch := hch.step hcs29 (fun y hy => .inr (by simp only [List.mem_singleton] at hy; subst hy; first | assumption | omega));have hNr := hNr.keepBK hb4 hcs29 an;have hb4 := hb4_;refine WK.after 10 rfl (by kernel_rfl) (by kernel_rfl) (Ev.assign rfl) rfl ?_;refine WK.done (by kernel_rfl) (kr28 _ _ _ ?_);refine kh27 ?_;refine zr (bodyA.retR2 rfl (RVal.cell rfl (hb4.varA rfl rfl)) (RVal.tmp rfl) ?_);rw [hd1, hd2];exact ⟨.inl ⟨r, d, by rw [hvL] at hd; show addD d1 d2 = _; rw [addD_eq h01 h02 hp hq, if_neg (by omega), if_pos hsg]; exact hd, rfl, hNr⟩, hch⟩
       ·refine wk 7 rfl hS (fun _ _ => Ev.extract rfl rfl) (wk 8 rfl hS (fun _ _ => Ev.extract rfl rfl) ?_);refine WK.storeB 9 rfl (by kernel_rfl) (by kernel_rfl) rfl rfl rfl ao hb4 (by simp) rfl fun ws30 hb4_ hcs30 => ?_;(try simp only [Sx.splice, qt] at hb4_);have hch := hch.step hcs30 (fun y hy => .inr (by simp only [List.mem_singleton] at hy; subst hy; first | assumption | omega));have hb4 := hb4_;refine WK.after 10 rfl (by kernel_rfl) (by kernel_rfl) (Ev.assign rfl) rfl ?_;refine WK.done (by kernel_rfl) (kr28 _ _ _ ?_);refine kh27 ?_;refine zr (bodyA.retR2 rfl (RVal.cell rfl (hb4.varA rfl rfl)) (RVal.tmp rfl) ?_);rw [hd1, hd2];exact ⟨.inr ⟨by rw [hvL] at hd; show addD d1 d2 = _; rw [addD_eq h01 h02 hp hq, if_neg (by omega), if_pos hsg]; exact hd, rfl⟩, hch⟩
      ·have hsg : d1.neg ≠ d2.neg := by simpa using hc3
       refine Sr fun _ kh29 => zm rfl (zm rfl ?_);refine WL.call hasF149 rfl rfl (Cmp_spec _ _ _ _ _ hNp hNq) fun v w6 h' => ?_;obtain ⟨rfl, hC90⟩ := h';rw [val_wd, val_wd];have hch := hch.trans hC90;have hb4 := hb4.k0 hC90;have hb6 := hb6.k0 hC90;have hb7 := hb7.k0 hC90;have hNp := hNp.keep0 hC90;have hNq := hNq.keep0 hC90;refine WL.ev (Ev.lss rfl rfl) rfl ?_;refine za rfl (zz (kh29 ?_));refine zy rfl ?_ ?_<;>intro hc4<;>try simp only [qs] at hc4
       ·have hpq : p < q := by
         apply Classical.byContradiction; intro hn; unfold sgn at hc4; rw [if_neg hn] at hc4; split at hc4 <;> omega
        refine zR fun _ kr31 => ?_;refine zg hb7 rfl (zm rfl (zm rfl ?_));refine zss rfl rfl ao hb6 rfl fun ws31 hb6_ hcs31 => ?_;(try simp only [Sx.splice, qt] at hb6_);have hch := hch.step hcs31 (fun y hy => .inr (by simp only [List.mem_singleton] at hy; subst hy; first | assumption | omega));have hb4 := hb4.kq hcs31;have hNp := hNp.keepBK hb6 hcs31 an;have hNq := hNq.keepBK hb6 hcs31 an;have hb6 := hb6_;refine za rfl (za rfl ?_);refine WL.nil (kr31 _ _ _ (kh22 ?_));refine Sr fun _ kh32 => zm rfl (zm rfl ?_);refine WL.call hasF150 rfl rfl (Sub_spec _ _ _ _ _ hNq hNp) fun v w7 h' => ?_;obtain ⟨hD98, hC98⟩ := h';rw [val_wd, val_wd] at hD98;rcases hD98 with ⟨_, _, _, rs, rfl, hNs⟩ | ⟨hno, _⟩ | ⟨_, hno, _⟩
        rotate_left
        · omega
        · omega
        have hch := hch.trans hC98;have hb4 := hb4.k0 hC98;have hb6 := hb6.k0 hC98;refine zm rfl (zx rfl rfl (zx rfl rfl (za rfl (za rfl (zz (kh32 (Sr fun _ kh34 => zf rfl (zl hb6 rfl rfl (zm rfl (zm rfl ?_))))))))));refine WL.call hasF144 rfl rfl (form_spec _ _ _ _ _ hNs (hg.keep0 hch) (by omega)) fun v w8 h' => ?_;obtain ⟨hD105, hC105⟩ := h';have hch := hch.trans hC105;have hb4 := hb4.k0 hC105;rcases hD105 with ⟨r, d, hd, rfl, hNr⟩ | ⟨hd, rfl⟩
        ·refine zx rfl rfl (zx rfl rfl ?_);refine zss rfl rfl ao hb4 rfl fun ws32 hb4_ hcs32 => ?_;(try simp only [Sx.splice, qt] at hb4_);have hch := hch.step hcs32 (fun y hy => .inr (by simp only [List.mem_singleton] at hy; subst hy; first | assumption | omega));have hNr := hNr.keepBK hb4 hcs32 an;have hb4 := hb4_;refine za rfl (zz (kh34 ?_));refine zr (bodyA.retR2 rfl (RVal.cell rfl (hb4.varA rfl rfl)) (RVal.tmp rfl) ?_);rw [hd1, hd2];exact ⟨.inl ⟨r, d, by rw [val_wd] at hd; show addD d1 d2 = _; rw [addD_eq h01 h02 hp hq, if_neg (by omega), if_neg hsg, if_pos hpq]; exact hd, rfl, hNr⟩, hch⟩
        ·refine zx rfl rfl (zx rfl rfl ?_);refine zss rfl rfl ao hb4 rfl fun ws33 hb4_ hcs33 => ?_;(try simp only [Sx.splice, qt] at hb4_);have hch := hch.step hcs33 (fun y hy => .inr (by simp only [List.mem_singleton] at hy; subst hy; first | assumption | omega));have hb4 := hb4_;refine za rfl (zz (kh34 ?_));refine zr (bodyA.retR2 rfl (RVal.cell rfl (hb4.varA rfl rfl)) (RVal.tmp rfl) ?_);rw [hd1, hd2];exact ⟨.inr ⟨by rw [val_wd] at hd; show addD d1 d2 = _; rw [addD_eq h01 h02 hp hq, if_neg (by omega), if_neg hsg, if_pos hpq]; exact hd, rfl⟩, hch⟩
       ·have hpq : ¬ p < q := fun hn => by unfold sgn at hc4; rw [if_pos hn] at hc4; omega
        refine zkk ?_;refine kh22 (Sr fun _ kh36 => zm rfl (zm rfl ?_));refine WL.call hasF150 rfl rfl (Sub_spec _ _ _ _ _ hNp hNq) fun v w9 h' => ?_;obtain ⟨hD98, hC98⟩ := h';rw [val_wd, val_wd] at hD98;rcases hD98 with ⟨_, _, _, rs, rfl, hNs⟩ | ⟨hno, _⟩ | ⟨_, hno, _⟩
        rotate_left
        · omega
        · omega
        have hch := hch.trans hC98;have hb4 := hb4.k0 hC98;have hb6 := hb6.k0 hC98;refine zm rfl (zx rfl rfl (zx rfl rfl (za rfl (za rfl (zz (kh36 (Sr fun _ kh38 => zf rfl (zl hb6 rfl rfl (zm rfl (zm rfl ?_))))))))));refine WL.call hasF144 rfl rfl (form_spec _ _ _ _ _ hNs (hg.keep0 hch) (by omega)) fun v w10 h' => ?_;obtain ⟨hD105, hC105⟩ := h';have hch := hch.trans hC105;have hb4 := hb4.k0 hC105;rcases hD105 with ⟨r, d, hd, rfl, hNr⟩ | ⟨hd, rfl⟩
        ·refine zx rfl rfl (zx rfl rfl ?_);refine zss rfl rfl ao hb4 rfl fun ws34 hb4_ hcs34 => ?_;(try simp only [Sx.splice, qt] at hb4_);have hch := hch.step hcs34 (fun y hy => .inr (by simp only [List.mem_singleton] at hy; subst hy; first | assumption | omega));have hNr := hNr.keepBK hb4 hcs34 an;have hb4 := hb4_;refine za rfl (zz (kh38 ?_));refine zr (bodyA.retR2 rfl (RVal.cell rfl (hb4.varA rfl rfl)) (RVal.tmp rfl) ?_);rw [hd1, hd2];exact ⟨.inl ⟨r, d, by rw [val_wd] at hd; show addD d1 d2 = _; rw [addD_eq h01 h02 hp hq, if_neg (by omega), if_neg hsg, if_neg hpq]; exact hd, rfl, hNr⟩, hch⟩
        ·refine zx rfl rfl (zx rfl rfl ?_);refine zss rfl rfl ao hb4 rfl fun ws35 hb4_ hcs35 => ?_;(try simp only [Sx.splice, qt] at hb4_);have hch := hch.step hcs35 (fun y hy => .inr (by simp only [List.mem_singleton] at hy; subst hy; first | assumption | omega));have hb4 := hb4_;refine za rfl (zz (kh38 ?_));refine zr (bodyA.retR2 rfl (RVal.cell rfl (hb4.varA rfl rfl)) (RVal.tmp rfl) ?_);rw [hd1, hd2];exact ⟨.inr ⟨by rw [val_wd] at hd; show addD d1 d2 = _; rw [addD_eq h01 h02 hp hq, if_neg (by omega), if_neg hsg, if_neg hpq]; exact hd, rfl⟩, hch⟩
     ·refine zm rfl (zx rfl rfl (zx rfl rfl (za rfl (za rfl (zz (kh20 (zc fun _ kh40 => ?_)))))));refine CW.block ?_;refine Sr fun _ kh41 => zm rfl ?_;refine WL.ev (Ev.neq rfl rfl) rfl ?_;refine zm rfl (zw rfl (zm rfl (zw rfl ?_)));refine WL.ev (Ev.neq rfl rfl) rfl ?_;refine ze rfl rfl (za rfl (zz (kh41 ?_)));refine CW.condT rfl ?_;refine Sr fun _ kh43 => ?_;refine WL.ev (Ev.build (vs := _) (cs := [_, _, _]) rfl rfl) rfl ?_;refine zss rfl rfl ao hb4 rfl fun ws36 hb4_ hcs36 => ?_;(try simp only [Sx.splice, qt] at hb4_);have hch := hch.step hcs36 (fun y hy => .inr (by simp only [List.mem_singleton] at hy; subst hy; first | assumption | omega));have hb4 := hb4_;refine za rfl (zz (kh43 ?_));refine zr (bodyA.retR2 rfl (RVal.cell rfl (hb4.varA rfl rfl)) (RVal.tmp rfl) ?_);rw [hd1, hd2];exact ⟨.inr ⟨by show addD d1 d2 = _; rw [addD_eq h01 h02 hp hq, if_pos (by omega)], rfl⟩, hch⟩
    ·refine zm rfl (zx rfl rfl (zx rfl rfl (za rfl (za rfl (zz (kh18 (Sr fun _ kh45 => zf rfl (zl hb7 rfl rfl (zf rfl (zl hb7 rfl rfl (zm rfl ?_)))))))))));refine WL.ev (Ev.subIn rfl rfl (by omega)) rfl ?_;refine WL.call hasF147 rfl rfl (Shift_spec _ _ _ _ hNr2 (by omega)) fun v w11 h' => ?_;obtain ⟨hD4, hC4⟩ := h';rw [val_wd, show d2.e - min d1.e d2.e = ((d2.e - min d1.e d2.e).toNat : Int) by omega, shiftN_pos] at hD4;obtain ⟨q, hq⟩ : ∃ q, q = d2.m * 2 ^ (d2.e - min d1.e d2.e).toNat := ⟨_, rfl⟩;rw [← hq] at hD4;have hch := hch.trans hC4;have hb4 := hb4.k0 hC4;rcases hD4 with ⟨_, rq, rfl, hNq⟩ | ⟨_, rfl⟩
     ·refine zm rfl (zx rfl rfl (zx rfl rfl (za rfl (za rfl (zz (kh45 (zc fun _ kh47 => ?_)))))));refine CW.block ?_;refine Sr fun _ kh48 => zm rfl ?_;refine WL.ev (Ev.neq rfl rfl) rfl ?_;refine zm rfl (zv rfl (zv rfl (zt rfl rfl (za rfl (zz (kh48 ?_))))));refine CW.condT rfl ?_;refine Sr fun _ kh50 => ?_;refine WL.ev (Ev.build (vs := _) (cs := [_, _, _]) rfl rfl) rfl ?_;refine zss rfl rfl ao hb4 rfl fun ws37 hb4_ hcs37 => ?_;(try simp only [Sx.splice, qt] at hb4_);have hch := hch.step hcs37 (fun y hy => .inr (by simp only [List.mem_singleton] at hy; subst hy; first | assumption | omega));have hb4 := hb4_;refine za rfl (zz (kh50 ?_));refine zr (bodyA.retR2 rfl (RVal.cell rfl (hb4.varA rfl rfl)) (RVal.tmp rfl) ?_);rw [hd1, hd2];exact ⟨.inr ⟨by show addD d1 d2 = _; rw [addD_eq h01 h02 hp hq, if_pos (by omega)], rfl⟩, hch⟩
     ·refine zm rfl (zx rfl rfl (zx rfl rfl (za rfl (za rfl (zz (kh45 (zc fun _ kh52 => ?_)))))));refine CW.block ?_;refine Sr fun _ kh53 => zm rfl ?_;refine WL.ev (Ev.neq rfl rfl) rfl ?_;refine zm rfl (zv rfl (zv rfl (zt rfl rfl (za rfl (zz (kh53 ?_))))));refine CW.condT rfl ?_;refine Sr fun _ kh55 => ?_;refine WL.ev (Ev.build (vs := _) (cs := [_, _, _]) rfl rfl) rfl ?_;refine zss rfl rfl ao hb4 rfl fun ws38 hb4_ hcs38 => ?_;(try simp only [Sx.splice, qt] at hb4_);have hch := hch.step hcs38 (fun y hy => .inr (by simp only [List.mem_singleton] at hy; subst hy; first | assumption | omega));have hb4 := hb4_;refine za rfl (zz (kh55 ?_));refine zr (bodyA.retR2 rfl (RVal.cell rfl (hb4.varA rfl rfl)) (RVal.tmp rfl) ?_);rw [hd1, hd2];exact ⟨.inr ⟨by show addD d1 d2 = _; rw [addD_eq h01 h02 hp hq, if_pos (by omega)], rfl⟩, hch⟩
 ·have hF : both2 addD (formD na (val la) ea) (formD nb (val lb) eb) = none := by rcases hno with hno | hno <;> rw [hno] <;> first | rfl | exact both2_none_right
  refine zm rfl (zx rfl rfl (zx rfl rfl (zx rfl rfl ?_)));refine WL.allocB (l := [.bool false, .slice none 0 0, .int .i64 0]) rfl rfl fun b6 wm6 hb6 hcm6 hge6 => ?_;have hgehch6 := Nat.le_trans hch.size hge6;have hch := hch.trans hcm6;have hneb46 := zdd hb4.lt hge6;have hb4 := hb4.k0 hcm6;refine WL.allocB (l := [.bool false, .slice none 0 0, .int .i64 0]) rfl rfl fun b7 wm7 hb7 hcm7 hge7 => ?_;have hgehch7 := Nat.le_trans hch.size hge7;have hch := hch.trans hcm7;have hneb47 := zdd hb4.lt hge7;have hb4 := hb4.k0 hcm7;have hneb67 := zdd hb6.lt hge7;have hb6 := hb6.k0 hcm7;refine zss rfl rfl ao hb6 rfl fun ws39 hb6_ hcs39 => ?_;have hch := hch.step hcs39 (fun y hy => .inr (by simp only [List.mem_singleton] at hy; subst hy; first | assumption | omega));have hb4 := hb4.kq hcs39;have hb7 := hb7.kq hcs39;refine zss rfl rfl ao hb7 rfl fun ws40 hb7_ hcs40 => ?_;have hch := hch.step hcs40 (fun y hy => .inr (by simp only [List.mem_singleton] at hy; subst hy; first | assumption | omega));have hb4 := hb4.kq hcs40;refine za rfl (zz (kh3 (zc fun _ kh57 => ?_)));refine CW.block ?_;refine Sr fun _ kh58 => zm rfl ?_;refine WL.ev (Ev.neq rfl rfl) rfl ?_;refine za rfl (zz (kh58 ?_));refine CW.condT rfl ?_;refine Sr fun _ kh60 => ?_;refine WL.ev (Ev.build (vs := _) (cs := [_, _, _]) rfl rfl) rfl ?_;refine zm rfl ?_;refine zss rfl rfl ao hb4 rfl fun ws41 hb4_ hcs41 => ?_;(try simp only [Sx.splice, qt] at hb4_);have hch := hch.step hcs41 (fun y hy => .inr (by simp only [List.mem_singleton] at hy; subst hy; first | assumption | omega));have hb4 := hb4_;refine za rfl (zz (kh60 ?_));refine zr (bodyA.retR2 rfl (RVal.cell rfl (hb4.varA rfl rfl)) (RVal.tmp rfl) ?_);rw [hF];exact ⟨.inr ⟨rfl, rfl⟩, hch⟩

end

/- Package dyad: Sub, Mul, Neg, Sign. No condition. -/
section
open Go Sx Wd

theorem Mul_dspec (na nb : Bool) (va vb : Value) (la lb : List Nat) (ea eb : Int) (w : World) (ha : NU w va la) (hb : NU w vb lb) (hg : GW w) (hea : -9223372036854775808 ≤ ea ∧ ea ≤ 9223372036854775807) (heb : -9223372036854775808 ≤ eb ∧ eb ≤ 9223372036854775807) : Ret Tryz.prog 154 [.agg [.bool na, va, .int .i64 ea].toArray, .agg [.bool nb, vb, .int .i64 eb].toArray] w fun u w' => DR w' u (both2 mulD (formD na (val la) ea) (formD nb (val lb) eb)) ∧ Chg [] w w' := by
 have hch : Chg [] w w := Chg.refl _ _;have hoa := ha.one;have hob := hb.one;refine zE2 Tryz.func154 rfl ?_;refine Sr fun _ kh1 => ?_;refine WL.boxB rfl rfl rfl fun b2 wm2 hb2 hcm2 hge2 => ?_;have hgehch2 := Nat.le_trans hch.size hge2;have hch := hch.trans hcm2;have ha := ha.keep0 hcm2;have hb := hb.keep0 hcm2;refine WL.boxB rfl rfl rfl fun b3 wm3 hb3 hcm3 hge3 => ?_;have hgehch3 := Nat.le_trans hch.size hge3;have hch := hch.trans hcm3;have ha := ha.keep0 hcm3;have hb := hb.keep0 hcm3;have hneb23 := zdd hb2.lt hge3;have hb2 := hb2.k0 hcm3;refine WL.allocB (l := [.bool false, .slice none 0 0, .int .i64 0]) rfl rfl fun b4 wm4 hb4 hcm4 hge4 => ?_;have hgehch4 := Nat.le_trans hch.size hge4;have hch := hch.trans hcm4;have ha := ha.keep0 hcm4;have hb := hb.keep0 hcm4;have hneb24 := zdd hb2.lt hge4;have hb2 := hb2.k0 hcm4;have hneb34 := zdd hb3.lt hge4;have hb3 := hb3.k0 hcm4;refine za rfl (zz (kh1 (Sr fun _ kh3 => zg hb2 rfl (zg hb3 rfl ?_))));refine WL.call hasF146 rfl rfl (dboth_spec na nb va vb la lb ea eb _ ha hb (hg.keep0 hch) hea heb) fun v w1 h' => ?_;obtain ⟨hB, hC1⟩ := h';have hch := hch.trans hC1;have hb4 := hb4.k0 hC1;rcases hB with ⟨d1, d2, r1, r2, hd1, hd2, rfl, hNr1, hNr2⟩ | ⟨hno, n1, v1, e1, n2, v2, e2, rfl, hv1, hv2⟩
 ·have hok1 := formD_ok hd1;have hok2 := formD_ok hd2;have he1 := hok1.e;have he2 := hok2.e;have hl1 := hok1.len;have hl2 := hok2.len;obtain ⟨⟨a1, c1, rfl, hcap1, hr1⟩, hW1, hl1⟩ := hNr1;have hNr1 : NU _ (.slice a1 (wd d1.m).length c1) (wd d1.m) := NU.of_row hr1 hW1 hl1 rfl hcap1;obtain ⟨⟨a2, c2, rfl, hcap2, hr2⟩, hW2, hl2⟩ := hNr2;have hNr2 : NU _ (.slice a2 (wd d2.m).length c2) (wd d2.m) := NU.of_row hr2 hW2 hl2 rfl hcap2;have hw1 : (wd d1.m).length = 0 ↔ d1.m = 0 := by rw [List.length_eq_zero_iff, wd_eq_nil]
  have hw2 : (wd d2.m).length = 0 ↔ d2.m = 0 := by rw [List.length_eq_zero_iff, wd_eq_nil]
  refine zm rfl (zx rfl rfl (zx rfl rfl (zx rfl rfl ?_)));refine WL.allocB (l := [.bool false, .slice none 0 0, .int .i64 0]) rfl rfl fun b6 wm6 hb6 hcm6 hge6 => ?_;have hgehch6 := Nat.le_trans hch.size hge6;have hch := hch.trans hcm6;have hNr1 := hNr1.keep0 hcm6;have hNr2 := hNr2.keep0 hcm6;have hneb46 := zdd hb4.lt hge6;have hb4 := hb4.k0 hcm6;refine WL.allocB (l := [.bool false, .slice none 0 0, .int .i64 0]) rfl rfl fun b7 wm7 hb7 hcm7 hge7 => ?_;have hgehch7 := Nat.le_trans hch.size hge7;have hch := hch.trans hcm7;have hNr1 := hNr1.keep0 hcm7;have hNr2 := hNr2.keep0 hcm7;have hneb47 := zdd hb4.lt hge7;have hb4 := hb4.k0 hcm7;have hneb67 := zdd hb6.lt hge7;have hb6 := hb6.k0 hcm7;refine zss rfl rfl ao hb6 rfl fun ws45 hb6_ hcs45 => ?_;(try simp only [Sx.splice, qt] at hb6_);have hch := hch.step hcs45 (fun y hy => .inr (by simp only [List.mem_singleton] at hy; subst hy; first | assumption | omega));have hb4 := hb4.kq hcs45;have hb7 := hb7.kq hcs45;have hNr1 := hNr1.keepBK hb6 hcs45 an;have hNr2 := hNr2.keepBK hb6 hcs45 an;have hb6 := hb6_;refine zss rfl rfl ao hb7 rfl fun ws46 hb7_ hcs46 => ?_;(try simp only [Sx.splice, qt] at hb7_);have hch := hch.step hcs46 (fun y hy => .inr (by simp only [List.mem_singleton] at hy; subst hy; first | assumption | omega));have hb4 := hb4.kq hcs46;have hb6 := hb6.kq hcs46;have hNr1 := hNr1.keepBK hb7 hcs46 an;have hNr2 := hNr2.keepBK hb7 hcs46 an;have hb7 := hb7_;refine za rfl (zz (kh3 (zc fun _ kh5 => Sr fun _ kh6 => zm rfl ?_)));refine WL.ev (Ev.neq rfl rfl) rfl ?_;refine zz (kh6 ?_);refine CW.condF rfl ?_;refine zkk ?_;refine kh5 (Sr fun _ kh8 => zf rfl (zl hb6 rfl rfl (zf rfl (zl hb7 rfl rfl ?_))));refine WL.call hasF238 rfl rfl (Mul_spec _ _ _ _ _ hNr1 hNr2) fun v w2 h' => ?_;obtain ⟨hD3, hC3⟩ := h';rw [val_wd, val_wd] at hD3;have hch := hch.trans hC3;have hb4 := hb4.k0 hC3;have hb6 := hb6.k0 hC3;have hb7 := hb7.k0 hC3;rcases hD3 with ⟨_, _, hp8, rp, rfl, hNp⟩ | ⟨hp8, rfl⟩
  ·refine zm rfl (zx rfl rfl (zx rfl rfl (za rfl (za rfl (zz (kh8 (zc fun _ kh10 => Sr fun _ kh11 => zm rfl ?_)))))));refine WL.ev (Ev.neq rfl rfl) rfl ?_;refine zz (kh11 ?_);refine CW.condF rfl ?_;refine zkk ?_;refine kh10 (Sr fun _ kh13 => zf rfl (zl hb6 rfl rfl (zf rfl (zl hb7 rfl rfl ?_))));refine WL.ev (Ev.neq_bool rfl rfl) rfl ?_;refine zm rfl (zf rfl (zl hb6 rfl rfl (zf rfl (zl hb7 rfl rfl ?_))));(first | refine zi rfl rfl ?_ | refine zo rfl rfl ?_);refine WL.call hasF144 rfl rfl (form_spec _ _ _ _ _ hNp (hg.keep0 hch) (by omega)) fun v w3 h' => ?_;obtain ⟨hD44, hC44⟩ := h';have hch := hch.trans hC44;have hb4 := hb4.k0 hC44;rcases hD44 with ⟨r, d, hd, rfl, hNr⟩ | ⟨hd, rfl⟩
   ·refine zx rfl rfl (zx rfl rfl ?_);refine zss rfl rfl ao hb4 rfl fun ws47 hb4_ hcs47 => ?_;(try simp only [Sx.splice, qt] at hb4_);have hch := hch.step hcs47 (fun y hy => .inr (by simp only [List.mem_singleton] at hy; subst hy; first | assumption | omega));have hNr := hNr.keepBK hb4 hcs47 an;have hb4 := hb4_;refine za rfl (zz (kh13 ?_));refine zr (bodyA.retR2 rfl (RVal.cell rfl (hb4.varA rfl rfl)) (RVal.tmp rfl) ?_);rw [hd1, hd2];exact ⟨.inl ⟨r, d, by rw [val_wd] at hd; show mulD d1 d2 = _; unfold mulD; rw [if_neg (by omega)]; exact hd, rfl, hNr⟩, hch⟩
   ·refine zx rfl rfl (zx rfl rfl ?_);refine zss rfl rfl ao hb4 rfl fun ws48 hb4_ hcs48 => ?_;(try simp only [Sx.splice, qt] at hb4_);have hch := hch.step hcs48 (fun y hy => .inr (by simp only [List.mem_singleton] at hy; subst hy; first | assumption | omega));have hb4 := hb4_;refine za rfl (zz (kh13 ?_));refine zr (bodyA.retR2 rfl (RVal.cell rfl (hb4.varA rfl rfl)) (RVal.tmp rfl) ?_);rw [hd1, hd2];exact ⟨.inr ⟨by rw [val_wd] at hd; show mulD d1 d2 = _; unfold mulD; rw [if_neg (by omega)]; exact hd, rfl⟩, hch⟩
  ·refine zm rfl (zx rfl rfl (zx rfl rfl (za rfl (za rfl (zz (kh8 (zc fun _ kh15 => Sr fun _ kh16 => zm rfl ?_)))))));refine WL.ev (Ev.neq rfl rfl) rfl ?_;refine zz (kh16 ?_);refine CW.condT rfl ?_;refine Sr fun _ kh18 => ?_;refine WL.ev (Ev.build (vs := _) (cs := [_, _, _]) rfl rfl) rfl ?_;refine zm rfl ?_;refine zss rfl rfl ao hb4 rfl fun ws49 hb4_ hcs49 => ?_;(try simp only [Sx.splice, qt] at hb4_);have hch := hch.step hcs49 (fun y hy => .inr (by simp only [List.mem_singleton] at hy; subst hy; first | assumption | omega));have hb4 := hb4_;refine za rfl (zz (kh18 ?_));refine zr (bodyA.retR2 rfl (RVal.cell rfl (hb4.varA rfl rfl)) (RVal.tmp rfl) ?_);rw [hd1, hd2];exact ⟨.inr ⟨by show mulD d1 d2 = _; unfold mulD; rw [if_pos (by omega)], rfl⟩, hch⟩
 ·have hF : both2 mulD (formD na (val la) ea) (formD nb (val lb) eb) = none := by rcases hno with hno | hno <;> rw [hno] <;> first | rfl | exact both2_none_right
  refine zm rfl (zx rfl rfl (zx rfl rfl (zx rfl rfl ?_)));refine WL.allocB (l := [.bool false, .slice none 0 0, .int .i64 0]) rfl rfl fun b6 wm6 hb6 hcm6 hge6 => ?_;have hgehch6 := Nat.le_trans hch.size hge6;have hch := hch.trans hcm6;have hneb46 := zdd hb4.lt hge6;have hb4 := hb4.k0 hcm6;refine WL.allocB (l := [.bool false, .slice none 0 0, .int .i64 0]) rfl rfl fun b7 wm7 hb7 hcm7 hge7 => ?_;have hgehch7 := Nat.le_trans hch.size hge7;have hch := hch.trans hcm7;have hneb47 := zdd hb4.lt hge7;have hb4 := hb4.k0 hcm7;have hneb67 := zdd hb6.lt hge7;have hb6 := hb6.k0 hcm7;refine zss rfl rfl ao hb6 rfl fun ws50 hb6_ hcs50 => ?_;have hch := hch.step hcs50 (fun y hy => .inr (by simp only [List.mem_singleton] at hy; subst hy; first | assumption | omega));have hb4 := hb4.kq hcs50;have hb7 := hb7.kq hcs50;refine zss rfl rfl ao hb7 rfl fun ws51 hb7_ hcs51 => ?_;have hch := hch.step hcs51 (fun y hy => .inr (by simp only [List.mem_singleton] at hy; subst hy; first | assumption | omega));have hb4 := hb4.kq hcs51;refine za rfl (zz (kh3 (zc fun _ kh20 => Sr fun _ kh21 => zm rfl ?_)));refine WL.ev (Ev.neq rfl rfl) rfl ?_;refine zz (kh21 ?_);refine CW.condT rfl ?_;refine Sr fun _ kh23 => ?_;refine WL.ev (Ev.build (vs := _) (cs := [_, _, _]) rfl rfl) rfl ?_;refine zm rfl ?_;refine zss rfl rfl ao hb4 rfl fun ws52 hb4_ hcs52 => ?_;(try simp only [Sx.splice, qt] at hb4_);have hch := hch.step hcs52 (fun y hy => .inr (by simp only [List.mem_singleton] at hy; subst hy; first | assumption | omega));have hb4 := hb4_;refine za rfl (zz (kh23 ?_));refine zr (bodyA.retR2 rfl (RVal.cell rfl (hb4.varA rfl rfl)) (RVal.tmp rfl) ?_);rw [hF];exact ⟨.inr ⟨rfl, rfl⟩, hch⟩

/-- How a value stands to nought. -/
def sgD (neg : Bool) (n : Nat) : Int := if n = 0 then 0 else if neg then -1 else 1

theorem Sign_dspec (na : Bool) (va : Value) (la : List Nat) (ea : Int) (w : World) (ha : NU w va la) : Ret Tryz.prog 100 [.agg [.bool na, va, .int .i64 ea].toArray] w fun u w' => u = .int .i64 (sgD na (val la)) ∧ Chg [] w w' := by
 have hch : Chg [] w w := Chg.refl _ _;have hoa := ha.one;have hbz := bl_eq_zero (n := val la);refine zE1 Tryz.func100 rfl ?_;refine Sr fun _ kh1 => ?_;refine WL.boxB rfl rfl rfl fun b1 wm1 hb1 hcm1 hge1 => ?_;have hgehch1 := Nat.le_trans hch.size hge1;have hch := hch.trans hcm1;have ha := ha.keep0 hcm1;refine za rfl (zz (kh1 (zc fun _ kh3 => ?_)));refine CW.block ?_;refine Sr fun _ kh4 => zf rfl (zl hb1 rfl rfl ?_);refine WL.call hasF185 rfl rfl (Len_spec _ _ _ ha) fun v w1 h' => ?_;obtain ⟨rfl, rfl⟩ := h';refine zq rfl rfl (za rfl (zz (kh4 ?_)));refine zy rfl ?_ ?_<;>intro hc1<;>try simp only [qs] at hc1
 ·refine Sr fun _ kh6 => za rfl (zz (kh6 ?_));refine zr (zr1 rfl rfl ?_);unfold sgD; rw [if_pos (by omega)];exact ⟨rfl, hch⟩
 ·refine Sr fun _ kh8 => zf rfl (zl hb1 rfl rfl (za rfl (zz (kh8 ?_))));refine zy rfl ?_ ?_<;>intro hc2<;>try simp only [qs] at hc2
  ·refine Sr fun _ kh10 => za rfl (zz (kh10 ?_));refine zr (zr1 rfl rfl ?_);unfold sgD; rw [if_neg (by omega), if_pos hc2];exact ⟨rfl, hch⟩
  ·refine zkk ?_
   refine kh3 (Sr fun _ kh12 => za rfl (zz (kh12 ?_)));refine zr (zr1 rfl rfl ?_);unfold sgD; rw [if_neg (by omega), if_neg (by rw [hc2]; decide)];exact ⟨rfl, hch⟩

end

/- Package dyad: rounding. No condition. -/
section
open Go Sx Wd

def awayM (mode : Int) (neg : Bool) (n : Nat) (half only : Bool) : Bool := if mode = 0 then (half && (!only || decide (n % 2 = 1))) else if mode = 4 then half else if mode = 2 then !neg else if mode = 3 then neg else false

theorem away_spec (mode : Int) (neg : Bool) (n : Nat) (half only : Bool) (w : World) (hn : n < 18446744073709551616) : Ret Tryz.prog 236 [.int .i64 mode, .bool neg, .int .u64 (n : Int), .bool half, .bool only] w fun u w' => u = .bool (awayM mode neg n half only) ∧ w = w' := by
 refine zE5 Tryz.func236 rfl ?_;refine Sr fun _ kh1 => za rfl (zz (kh1 (zc fun _ kh3 => Sr fun _ kh4 => zm rfl (zz (kh4 ?_)))));refine CW.block ?_;refine Sr fun _ kh6 => zq rfl rfl (za rfl (zz (kh6 ?_)));refine zy rfl ?_ ?_<;>intro hc1<;>try simp only [qs] at hc1
 ·refine Sr fun _ kh8 => zm rfl (zm rfl ?_);refine zb ?_ ?_<;>intro hg2<;>try simp only [qs] at hg2
  ·refine zw rfl (zm rfl (zw rfl ?_));refine WL.ev (Ev.not rfl) rfl ?_
   refine zw rfl (zm rfl ?_);refine zb ?_ ?_<;>intro hg3<;>try simp only [qs] at hg3
   ·refine zv rfl (zv rfl (zv rfl (zw rfl (zt rfl rfl (zt rfl rfl (za rfl (zz (kh8 ?_))))))));refine zr (zr1 rfl rfl ?_);have h0 : mode = 0 := by omega
    refine ⟨?_, rfl⟩;unfold awayM; rw [if_pos h0, hg2, hg3]; rfl
   ·refine zw rfl (zm rfl (zw rfl ?_));refine WL.ev (Ev.andU (b := 1) rfl rfl rfl (by simp only [IntKind.bits]; omega) (by simp only [IntKind.bits]; omega)) rfl ?_
    rw [Nat.and_one_is_mod];refine zw rfl (zq rfl rfl (zw rfl (ze rfl rfl (zt rfl rfl (za rfl (zz (kh8 ?_)))))));refine zr (zr1 rfl rfl ?_);have h0 : mode = 0 := by omega
    refine ⟨?_, rfl⟩;unfold awayM; rw [if_pos h0, hg2, hg3]
    congr 1
    simp only [Bool.true_and, Bool.not_true, Bool.false_or];refine decide_eq_decide.2 ?_;omega
  ·refine zv rfl (zv rfl (zv rfl (zu rfl (zu rfl (zu rfl (zv rfl (ze rfl rfl (za rfl (zz (kh8 ?_))))))))));refine zr (zr1 rfl rfl ?_);have h0 : mode = 0 := by omega
   refine ⟨?_, rfl⟩;unfold awayM; rw [if_pos h0, hg2]; rfl
 ·refine Sr fun _ kh10 => zq rfl rfl (za rfl (zz (kh10 ?_)));refine zy rfl ?_ ?_<;>intro hc4<;>try simp only [qs] at hc4
  ·refine Sr fun _ kh12 => zm rfl (za rfl (zz (kh12 ?_)));refine zr (zr1 rfl rfl ?_);refine ⟨?_, rfl⟩;unfold awayM; rw [if_neg (by omega), if_pos (by omega)]
  ·refine Sr fun _ kh14 => zq rfl rfl (za rfl (zz (kh14 ?_)));refine zy rfl ?_ ?_<;>intro hc5<;>try simp only [qs] at hc5
   ·refine Sr fun _ kh16 => zm rfl ?_
    refine WL.ev (Ev.not rfl) rfl ?_;refine za rfl (zz (kh16 ?_));refine zr (zr1 rfl rfl ?_);refine ⟨?_, rfl⟩;unfold awayM; rw [if_neg (by omega), if_neg (by omega), if_pos (by omega)]
   ·refine Sr fun _ kh18 => zq rfl rfl (za rfl (zz (kh18 ?_)));refine zy rfl ?_ ?_<;>intro hc6<;>try simp only [qs] at hc6
    ·refine Sr fun _ kh20 => zm rfl (za rfl (zz (kh20 ?_)));refine zr (zr1 rfl rfl ?_);refine ⟨?_, rfl⟩;unfold awayM; rw [if_neg (by omega), if_neg (by omega), if_neg (by omega), if_pos (by omega)]
    ·refine zkk ?_
     refine kh3 (Sr fun _ kh22 => za rfl (zz (kh22 ?_)));refine zr (zr1 rfl rfl ?_);refine ⟨?_, rfl⟩;unfold awayM; rw [if_neg (by omega), if_neg (by omega), if_neg (by omega), if_neg (by omega)]

theorem on_fits {m : Nat} {e ex : Int} {c : Nat} (h0 : m ≠ 0) (hex : max ((bl m : Int) + e - 53) (-1074) = ex) (ht : (bl m : Int) + e ≤ 1024) (hc : (c : Int) = e - ex) : m * 2 ^ c < 9007199254740992 ∧ ((ex + 1074).toNat = 0 ∨ 4503599627370496 ≤ m * 2 ^ c) ∧ m * 2 ^ c + (ex + 1074).toNat * 4503599627370496 < 9218868437227405312 := by
  have hb := bl_mul_pow h0 c
  have h1 : m * 2 ^ c < 9007199254740992 := bl_le.1 (show bl (m * 2 ^ c) ≤ 53 by omega)
  refine ⟨h1, ?_, by omega⟩
  by_cases hx : ex = -1074
  · left; omega
  · right
    exact lt_bl.1 (show 52 < bl (m * 2 ^ c) by omega)
theorem on_cuts {m : Nat} {e ex : Int} {c : Nat} (h0 : m ≠ 0) (hex : max ((bl m : Int) + e - 53) (-1074) = ex) (ht : (bl m : Int) + e ≤ 1024) (hc : (c : Int) = ex - e) : m / 2 ^ c < 9007199254740992 ∧ ((ex + 1074).toNat = 0 ∨ 4503599627370496 ≤ m / 2 ^ c) ∧ m / 2 ^ c + (ex + 1074).toNat * 4503599627370496 < 9218868437227405312 := by
  have h1 : m / 2 ^ c < 9007199254740992 := by
    rw [Nat.div_lt_iff_lt_mul (Nat.two_pow_pos c), show (9007199254740992 : Nat) = 2 ^ 53 by decide, ← Nat.pow_add]
    exact bl_le.1 (by omega)
  refine ⟨h1, ?_, by omega⟩
  by_cases hx : ex = -1074
  · left; omega
  · right
    rw [Nat.le_div_iff_mul_le (Nat.two_pow_pos c), show (4503599627370496 : Nat) = 2 ^ 52 by decide, ← Nat.pow_add]
    exact lt_bl.1 (by omega)

theorem beyond_spec (neg : Bool) (mode : Int) (w : World) : Ret Tryz.prog 234 [.agg [.int .i64 53, .int .i64 (-1074), .int .u64 9218868437227405312].toArray, .bool neg, .int .i64 mode] w fun u w' => u = .int .u64 (((if mode = 1 ∨ (mode = 2 ∧ neg = true) ∨ (mode = 3 ∧ neg = false) then 9218868437227405311 else 9218868437227405312) : Nat) : Int) ∧ Chg [] w w' := by
 have hch : Chg [] w w := Chg.refl _ _;refine zE3 Tryz.func234 rfl ?_;refine Sr fun _ kh1 => ?_;refine WL.boxB rfl rfl rfl fun b3 wm3 hb3 hcm3 hge3 => ?_;have hgehch3 := Nat.le_trans hch.size hge3;have hch := hch.trans hcm3;refine za rfl (zz (kh1 (zc fun _ kh3 => ?_)));refine CW.seqM 23 (decide (mode = 1 ∨ (mode = 2 ∧ neg = true) ∨ (mode = 3 ∧ neg = false))) ?_ ?_
 ·refine zR fun _ kr4 => ?_;refine zm rfl (zq rfl rfl (zm rfl ?_));refine zb ?_ ?_<;>intro hg1<;>try simp only [qs] at hg1
  ·refine zv rfl (zv rfl (zv rfl (zu rfl (zv rfl (zt rfl rfl (zm rfl (zv rfl (zv rfl (zv rfl (zu rfl (zu rfl (zv rfl (zt rfl rfl ?_)))))))))))));refine WL.nil (kr4 _ _ _ ?_);refine ⟨rfl, rfl, Subs.consB rfl ?_ ?_⟩
   ·first | (simp; omega) | (cases neg <;> simp_all <;> omega) | (refine decide_eq_decide.2 ?_; omega) | (cases neg <;> simp_all)
   ·exact SMg
  ·refine zw rfl (zm rfl (zw rfl (zq rfl rfl (zw rfl (zm rfl ?_)))));refine zb ?_ ?_<;>intro hg2<;>try simp only [qs] at hg2
   ·refine zw rfl (zm rfl (zw rfl (zt rfl rfl (ze rfl rfl (zm rfl ?_)))));refine zb ?_ ?_<;>intro hg3<;>try simp only [qs] at hg3
    ·refine zv rfl (zv rfl (zv rfl (zu rfl (zu rfl (zv rfl (zt rfl rfl ?_))))));refine WL.nil (kr4 _ _ _ ?_);refine ⟨rfl, rfl, Subs.consB rfl ?_ ?_⟩
     ·first | (simp; omega) | (cases neg <;> simp_all <;> omega) | (refine decide_eq_decide.2 ?_; omega) | (cases neg <;> simp_all)
     ·exact SMg
    ·refine zw rfl (zm rfl (zw rfl (zq rfl rfl (zw rfl (zm rfl ?_)))));refine zb ?_ ?_<;>intro hg4<;>try simp only [qs] at hg4
     ·refine zw rfl (zm rfl (zw rfl ?_));refine WL.ev (Ev.not rfl) rfl ?_
      refine zw rfl (zt rfl rfl (ze rfl rfl ?_));refine WL.nil (kr4 _ _ _ ?_);refine ⟨rfl, rfl, Subs.consB rfl ?_ ?_⟩
      ·first | (simp; omega) | (cases neg <;> simp_all <;> omega) | (refine decide_eq_decide.2 ?_; omega) | (cases neg <;> simp_all)
      ·exact SMg
     ·refine zv rfl (zv rfl (zw rfl (ze rfl rfl (ze rfl rfl ?_))));refine WL.nil (kr4 _ _ _ ?_);refine ⟨rfl, rfl, Subs.consB rfl ?_ ?_⟩
      ·first | (simp; omega) | (cases neg <;> simp_all <;> omega) | (refine decide_eq_decide.2 ?_; omega) | (cases neg <;> simp_all)
      ·exact SMg
   ·refine zv rfl (zw rfl (ze rfl rfl (ze rfl rfl (zm rfl (zw rfl (zm rfl (zw rfl (zq rfl rfl (zw rfl (zm rfl ?_))))))))));refine zb ?_ ?_<;>intro hg5<;>try simp only [qs] at hg5
    ·refine zw rfl (zm rfl (zw rfl ?_));refine WL.ev (Ev.not rfl) rfl ?_
     refine zw rfl (zt rfl rfl (ze rfl rfl ?_));refine WL.nil (kr4 _ _ _ ?_);refine ⟨rfl, rfl, Subs.consB rfl ?_ ?_⟩
     ·first | (simp; omega) | (cases neg <;> simp_all <;> omega) | (refine decide_eq_decide.2 ?_; omega) | (cases neg <;> simp_all)
     ·exact SMg
    ·refine zv rfl (zv rfl (zw rfl (ze rfl rfl (ze rfl rfl ?_))));refine WL.nil (kr4 _ _ _ ?_);refine ⟨rfl, rfl, Subs.consB rfl ?_ ?_⟩
     ·first | (simp; omega) | (cases neg <;> simp_all <;> omega) | (refine decide_eq_decide.2 ?_; omega) | (cases neg <;> simp_all)
     ·exact SMg
 ·refine zy rfl ?_ ?_<;>intro hc6<;>try simp only [qs] at hc6
  ·refine Sr fun _ kh5 => zf rfl (zl hb3 rfl rfl ?_);refine WL.ev (Ev.sub64In (a := 9218868437227405312) (b := 1) rfl rfl (by omega) (by omega)) rfl ?_
   refine za rfl (zz (kh5 ?_));refine zr (zr1 rfl rfl ?_);rw [if_pos hc6];exact ⟨rfl, hch⟩
  ·refine zkk ?_
   refine kh3 (Sr fun _ kh7 => zf rfl (zl hb3 rfl rfl (za rfl (zz (kh7 ?_)))));refine zr (zr1 rfl rfl ?_);rw [if_neg hc6];exact ⟨rfl, hch⟩

end

/- Package dyad: on, told, Round. No condition. -/
section
open Go Sx Wd

theorem on_spec (neg : Bool) (v : Value) (m : Nat) (e mode : Int) (w : World) (hv : NU w v (wd m)) (hok : (Dy.mk neg m e).ok) (hm : 0 ≤ mode ∧ mode ≤ 4) : Ret Tryz.prog 152 [.agg [.int .i64 53, .int .i64 (-1074), .int .u64 9218868437227405312].toArray, .agg [.bool neg, v, .int .i64 e].toArray, .int .i64 mode] w fun u w' => ∃ r : Nat, u = .int .u64 (r : Int) ∧ IsNear (dyA m e) (dyB e) neg mode r ∧ r ≤ 9218868437227405312 ∧ Chg [] w w' := by
 have hch : Chg [] w w := Chg.refl _ _;have hov := hv.one;have he : -1048576 ≤ e ∧ e ≤ 1048576 := hok.e;have hl : (wd m).length ≤ 8192 := hok.len;have hbz := bl_eq_zero (n := m);have hbl : bl m ≤ 262144 := bl_words.2 hl;refine zE3 Tryz.func152 rfl ?_;refine Sr fun _ kh1 => ?_;refine WL.boxB rfl rfl rfl fun b3 wm3 hb3 hcm3 hge3 => ?_;have hgehch3 := Nat.le_trans hch.size hge3;have hch := hch.trans hcm3;have hv := hv.keep0 hcm3;refine WL.boxB rfl rfl rfl fun b4 wm4 hb4 hcm4 hge4 => ?_;have hgehch4 := Nat.le_trans hch.size hge4;have hch := hch.trans hcm4;have hv := hv.keep0 hcm4;have hneb34 := zdd hb3.lt hge4;have hb3 := hb3.k0 hcm4;refine za rfl (zz (kh1 (Sr fun _ kh3 => zf rfl (zl hb4 rfl rfl ?_))));refine WL.call hasF185 rfl rfl (Len_spec _ _ _ hv) fun v w1 h' => ?_;obtain ⟨rfl, rfl⟩ := h';rw [val_wd];refine za rfl (zz (kh3 (zc fun _ kh5 => Sr fun _ kh6 => zm rfl (zq rfl rfl (zz (kh6 ?_))))));refine zy rfl ?_ ?_<;>intro hc1<;>try simp only [qs] at hc1
 ·refine Sr fun _ kh8 => za rfl (zz (kh8 ?_));refine zr (zr1 rfl rfl ?_);have h0 : m = 0 := by omega
  subst h0;exact ⟨0, rfl, by unfold dyA; rw [Nat.zero_mul]; exact near_zero (dyB_pos e) neg mode, by omega, hch⟩
 ·have h0 : m ≠ 0 := by omega
  refine zkk ?_;refine kh5 (zc fun _ kh10 => ?_);refine CW.regionSC hmix (by kernel_rfl) fun kR11 kr11 hdr => ?_;have hch := hch.trans hdr;have hb3 := hb3.k0 hdr;have hb4 := hb4.k0 hdr;have hv := hv.keep0 hdr;refine WS.ev (Ev.fieldAddr rfl) rfl ?_;refine WS.ev (Ev.load rfl rfl (hb3.at_ rfl)) rfl ?_;refine WS.ev (Ev.fieldAddr rfl) rfl ?_;refine WS.ev (Ev.load rfl rfl (hb3.at_ rfl)) rfl ?_;refine WS.ev (Ev.fieldAddr rfl) rfl ?_;refine WS.ev (Ev.load rfl rfl (hb3.at_ rfl)) rfl ?_
  first | refine WS.ev (Ev.subIn rfl rfl (by omega)) rfl ?_ | refine WS.ev (Ev.sub rfl rfl) rfl ?_
  refine WS.ev (Ev.shrU (a := 9218868437227405312) (b := 52) rfl rfl (by decide)) rfl ?_;refine WS.ev (Ev.convIn rfl rfl (in_i64 (by omega))) rfl ?_
  first | refine WS.ev (Ev.addIn rfl rfl (by omega)) rfl ?_ | refine WS.ev (Ev.add rfl rfl) rfl ?_
  first | refine WS.ev (Ev.subIn rfl rfl (by omega)) rfl ?_ | refine WS.ev (Ev.sub rfl rfl) rfl ?_
  refine WS.ev (Ev.fieldAddr rfl) rfl ?_;refine WS.ev (Ev.load rfl rfl (hb3.at_ rfl)) rfl ?_
  first | refine WS.ev (Ev.addIn rfl rfl (by omega)) rfl ?_ | refine WS.ev (Ev.add rfl rfl) rfl ?_
  refine WS.ev (Ev.subIn rfl rfl (by omega)) rfl ?_;rw [show (-1074 : Int) + ((9218868437227405312 / 2 ^ 52 : Nat) : Int) - 1 + 53 - 1 = 1024 by omega];refine ya rfl ?_;refine WS.nil (kr11 _ _ ?_);refine kh10 (Sr fun _ kh12 => zm rfl (zf rfl (zl hb4 rfl rfl ?_)));(first | refine zi rfl rfl ?_ | refine zo rfl rfl ?_);refine zf rfl (zl hb3 rfl rfl ?_)
  first | refine WL.ev (Ev.subIn rfl rfl (by omega)) rfl ?_ | refine WL.ev (Ev.sub rfl rfl) rfl ?_
  refine zf rfl (zl hb3 rfl rfl ?_);refine WL.ev (Ev.maxI rfl rfl) rfl ?_;generalize hex : max ((bl m : Int) + e - 53) (-1074) = ex;refine za rfl (zz (kh12 (zc fun _ kh14 => Sr fun _ kh15 => zm rfl (zf rfl (zl hb4 rfl rfl ?_)))));(first | refine zi rfl rfl ?_ | refine zo rfl rfl ?_);refine zm rfl ?_;refine WL.ev (Ev.gtr rfl rfl) rfl ?_;refine zz (kh15 ?_);refine zy rfl ?_ ?_<;>intro hc2<;>try simp only [qs] at hc2
  ·refine Sr fun _ kh17 => zg hb3 rfl (zf rfl (zl hb4 rfl rfl (zm rfl ?_)));refine WL.call hasF234 rfl rfl (beyond_spec neg mode _) fun v w2 h' => ?_
   obtain ⟨rfl, hC54⟩ := h';have hch := hch.trans hC54;refine za rfl (zz (kh17 ?_));refine zr (zr1 rfl rfl ?_);exact ⟨_, rfl, near_beyond h0 (by omega) hm, by split <;> omega, hch⟩
  ·refine zkk ?_
   refine kh14 (Sr fun _ kh19 => zm rfl (zf rfl (zl hb4 rfl rfl ?_)))
   first | refine WL.ev (Ev.subIn rfl rfl (by omega)) rfl ?_ | refine WL.ev (Ev.sub rfl rfl) rfl ?_
   refine za rfl (zz (kh19 (Sr fun _ kh21 => za rfl (zz (kh21 (zc fun _ kh23 => Sr fun _ kh24 => zm rfl ?_))))));refine WL.ev (Ev.leq rfl rfl) rfl ?_;refine zz (kh24 ?_);refine zy rfl ?_ ?_<;>intro hc3<;>try simp only [qs] at hc3
   ·obtain ⟨c, hcc⟩ : ∃ c : Nat, (c : Int) = e - ex := ⟨(e - ex).toNat, by omega⟩
    obtain ⟨f1, f2, f3⟩ := on_fits h0 hex (by omega) hcc;have hm64 : m < 18446744073709551616 := Nat.lt_of_le_of_lt (Nat.le_mul_of_pos_right m (Nat.two_pow_pos c)) (by omega);have hd15 : decide (0 < ex - e) = false := decide_eq_false (by omega);refine Sr fun _ kh26 => zf rfl (zl hb4 rfl rfl ?_);refine WL.call hasF235 rfl rfl (Small_spec _ _ _ hv) fun v w3 h' => ?_;obtain ⟨rfl, rfl⟩ := h';rw [val_wd, if_pos hm64, if_pos hm64];refine zm rfl (zx rfl rfl (zx rfl rfl (za rfl (zz (kh26 ?_)))));refine zR fun _ kr28 => ?_;refine zm rfl (zm rfl ?_);refine WL.ev (Ev.negIn rfl (by omega)) rfl ?_;rw [show -(ex - e) = ((c : Nat) : Int) by omega];refine WL.ev (Ev.shlU64 rfl rfl) rfl ?_;rw [Nat.mod_eq_of_lt (show m * 2 ^ c < 18446744073709551616 by omega)];refine za rfl ?_;refine WL.nil (kr28 _ _ _ (kh23 ?_));refine zc fun _ kh29 => zc fun _ kh30 => ?_;refine CW.regionSC hmix (by kernel_rfl) fun kR31 kr31 hdr => ?_;have hch := hch.trans hdr;have hb3 := hb3.k0 hdr;refine ym rfl ?_;refine WS.ev (Ev.gtr rfl rfl) rfl ?_;refine ym rfl ?_;refine WS.pass rfl rfl rfl (by rw [hd15]; rfl) rfl ?_;refine WS.pass rfl rfl rfl (by rw [hd15]; rfl) rfl ?_;refine WS.pass rfl rfl rfl (by rw [hd15]; rfl) rfl ?_;refine WS.pass rfl rfl rfl (by rw [hd15]; rfl) rfl ?_;refine WS.pass rfl rfl rfl (by rw [hd15]; rfl) rfl ?_;refine WS.pass rfl rfl rfl (by rw [hd15]; rfl) rfl ?_;refine WS.pass rfl rfl rfl (by rw [hd15]; rfl) rfl ?_;refine WS.pass rfl rfl rfl (by rw [hd15]; rfl) rfl ?_;refine WS.pass rfl rfl rfl (by rw [hd15]; rfl) rfl ?_;refine WS.pass rfl rfl rfl (by rw [hd15]; rfl) rfl ?_;refine WS.pass rfl rfl rfl (by rw [hd15]; rfl) rfl ?_;refine WS.pass rfl rfl rfl (by rw [hd15]; rfl) rfl ?_;refine WS.ev (Ev.pickF rfl hd15 rfl) rfl ?_;refine WS.nil (kr31 _ _ ?_);refine kh30 ?_;refine CW.condF rfl ?_;refine zkk ?_;refine kh29 (Sr fun _ kh32 => zm rfl (zm rfl (zf rfl (zl hb3 rfl rfl ?_))))
    first | refine WL.ev (Ev.subIn rfl rfl (by omega)) rfl ?_ | refine WL.ev (Ev.sub rfl rfl) rfl ?_
    refine WL.ev (Ev.conv rfl rfl) rfl ?_;rw [wrap_u64i, show (ex - -1074) % 18446744073709551616 = ((((ex + 1074).toNat) : Nat) : Int) by omega];refine zf rfl (zl hb3 rfl rfl ?_);refine WL.ev (Ev.subIn rfl rfl (by omega)) rfl ?_;rw [show (53 : Int) - 1 = ((52 : Nat) : Int) by omega];refine WL.ev (Ev.shlU64 (b := 52) rfl rfl) rfl ?_;rw [Nat.mod_eq_of_lt (show ((ex + 1074).toNat) * 2 ^ 52 < 18446744073709551616 by omega)];refine WL.ev (Ev.add64In rfl rfl (by omega)) rfl ?_;refine za rfl (zz (kh32 ?_));refine zr (zr1 rfl rfl ?_);exact ⟨_, rfl, near_exact f1 f2 f3 rfl (by omega), by omega, hch⟩
   ·obtain ⟨c, hcc⟩ : ∃ c : Nat, (c : Int) = ex - e := ⟨(ex - e).toNat, by omega⟩
    obtain ⟨f1, f2, f3⟩ := on_cuts h0 hex (by omega) hcc;have hd15 : decide (0 < ex - e) = true := decide_eq_true (by omega);have hodd : m % 2 = 1 := hok.odd h0;refine Sr fun _ kh34 => zf rfl (zl hb4 rfl rfl (zm rfl ?_));refine WL.ev (Ev.negIn rfl (by omega)) rfl ?_;refine WL.call hasF147 rfl rfl (Shift_spec _ _ _ _ hv (by omega)) fun v w4 h' => ?_;obtain ⟨hD76, hC76⟩ := h';rw [val_wd, show -(ex - e) = -((c : Nat) : Int) by omega, shiftN_neg _ _ (by omega)] at hD76;rcases hD76 with ⟨_, rk, rfl, hNk⟩ | ⟨hno, _⟩
    rotate_left
    · exfalso; exact hno ⟨hl, .inr (by omega)⟩
    have hch := hch.trans hC76;have hb3 := hb3.k0 hC76;have hb4 := hb4.k0 hC76;have hv := hv.keep0 hC76;refine zm rfl (zx rfl rfl (zx rfl rfl (za rfl (za rfl (zz (kh34 ?_))))));refine zR fun _ kr36 => ?_;refine zm rfl ?_;refine WL.call hasF235 rfl rfl (Small_spec _ _ _ hNk) fun v w5 h' => ?_;obtain ⟨rfl, rfl⟩ := h';rw [val_wd, if_pos (by omega), if_pos (by omega)];refine zm rfl (zx rfl rfl (zx rfl rfl (za rfl ?_)));refine WL.nil (kr36 _ _ _ (kh23 ?_));refine zc fun _ kh37 => zc fun _ kh38 => ?_;refine CW.regionSC hmix (by kernel_rfl) fun kR39 kr39 hdr => ?_;have hch := hch.trans hdr;have hb3 := hb3.k0 hdr;have hb4 := hb4.k0 hdr;have hv := hv.keep0 hdr;refine ym rfl ?_;refine WS.ev (Ev.gtr rfl rfl) rfl ?_;refine ym rfl ?_;refine WS.want rfl rfl rfl (by rw [hd15]; rfl) ?_;refine ym rfl ?_;refine WS.want rfl rfl rfl (by rw [hd15]; rfl) ?_;refine WS.ev (Ev.fieldAddr rfl) rfl ?_;refine WS.want rfl rfl rfl (by rw [hd15]; rfl) ?_;refine WS.ev (Ev.load rfl rfl (hb4.at_ rfl)) rfl ?_;refine WS.want rfl rfl rfl (by rw [hd15]; rfl) ?_;refine ym rfl ?_;refine WS.want rfl rfl rfl (by rw [hd15]; rfl) ?_;refine WS.ev (Ev.fieldAddr rfl) rfl ?_;refine WS.want rfl rfl rfl (by rw [hd15]; rfl) ?_;refine WS.ev (Ev.load rfl rfl (hb4.at_ rfl)) rfl ?_;refine WS.want rfl rfl rfl (by rw [hd15]; rfl) ?_;refine ym rfl ?_;refine WS.want rfl rfl rfl (by rw [hd15]; rfl) ?_
    first | refine WS.ev (Ev.subIn rfl rfl (by omega)) rfl ?_ | refine WS.ev (Ev.sub rfl rfl) rfl ?_
    refine WS.want rfl rfl rfl (by rw [hd15]; rfl) ?_;refine WS.call hasF237 rfl rfl (Bit_spec _ _ _ _ hv (by omega)) ?_;refine WS.want rfl rfl rfl (by rw [hd15]; rfl) ?_;refine ym rfl ?_;refine WS.want rfl rfl rfl (by rw [hd15]; rfl) ?_;refine WS.ev (Ev.eql rfl rfl) rfl ?_;refine WS.want rfl rfl rfl (by rw [hd15]; rfl) ?_;refine WS.call hasF236 rfl rfl (away_spec mode neg (m / 2 ^ c) _ _ _ (by omega)) ?_;refine WS.ev (Ev.pickT rfl hd15 rfl) rfl ?_;refine WS.nil (kr39 _ _ ?_);refine kh38 ?_;refine zy rfl ?_ ?_<;>intro hc4<;>try simp only [qs] at hc4
    ·rw [val_wd, decide_eq_true (show (0 : Int) ≤ ex - e - 1 by omega), Bool.true_and, show (ex - e - 1).toNat = c - 1 by omega, show decide (ex - e = 1) = decide (c = 1) from decide_eq_decide.2 (by omega)] at hc4
     have hAW := hc4;refine zR fun _ kr40 => ?_;refine zm rfl ?_;refine WL.ev (Ev.add64In (b := 1) rfl rfl (by omega)) rfl ?_;refine za rfl ?_;refine WL.nil (kr40 _ _ _ (kh37 ?_));refine Sr fun _ kh41 => zm rfl (zm rfl (zf rfl (zl hb3 rfl rfl ?_)))
     first | refine WL.ev (Ev.subIn rfl rfl (by omega)) rfl ?_ | refine WL.ev (Ev.sub rfl rfl) rfl ?_
     refine WL.ev (Ev.conv rfl rfl) rfl ?_;rw [wrap_u64i, show (ex - -1074) % 18446744073709551616 = ((((ex + 1074).toNat) : Nat) : Int) by omega];refine zf rfl (zl hb3 rfl rfl ?_);refine WL.ev (Ev.subIn rfl rfl (by omega)) rfl ?_;rw [show (53 : Int) - 1 = ((52 : Nat) : Int) by omega];refine WL.ev (Ev.shlU64 (b := 52) rfl rfl) rfl ?_;rw [Nat.mod_eq_of_lt (show ((ex + 1074).toNat) * 2 ^ 52 < 18446744073709551616 by omega)];refine WL.ev (Ev.add64In rfl rfl (by omega)) rfl ?_;refine za rfl (zz (kh41 ?_));refine zr (zr1 rfl rfl ?_);have hN := near_cut (e := e) f1 f2 f3 (neg := neg) (mode := mode) (half := m.testBit (c - 1)) (up := awayM mode neg (m / 2 ^ c) (m.testBit (c - 1)) (decide (c = 1))) (by omega) hodd rfl (by omega) rfl rfl;rw [hAW, if_pos rfl] at hN;exact ⟨_, rfl, by rw [show m / 2 ^ c + 1 + ((ex + 1074).toNat) * 2 ^ 52 = m / 2 ^ c + 1 + ((ex + 1074).toNat) * 4503599627370496 by omega]; exact hN, by omega, hch⟩
    ·rw [val_wd, decide_eq_true (show (0 : Int) ≤ ex - e - 1 by omega), Bool.true_and, show (ex - e - 1).toNat = c - 1 by omega, show decide (ex - e = 1) = decide (c = 1) from decide_eq_decide.2 (by omega)] at hc4
     have hAW := hc4;refine zkk ?_;refine kh37 (Sr fun _ kh43 => zm rfl (zm rfl (zf rfl (zl hb3 rfl rfl ?_))))
     first | refine WL.ev (Ev.subIn rfl rfl (by omega)) rfl ?_ | refine WL.ev (Ev.sub rfl rfl) rfl ?_
     refine WL.ev (Ev.conv rfl rfl) rfl ?_;rw [wrap_u64i, show (ex - -1074) % 18446744073709551616 = ((((ex + 1074).toNat) : Nat) : Int) by omega];refine zf rfl (zl hb3 rfl rfl ?_);refine WL.ev (Ev.subIn rfl rfl (by omega)) rfl ?_;rw [show (53 : Int) - 1 = ((52 : Nat) : Int) by omega];refine WL.ev (Ev.shlU64 (b := 52) rfl rfl) rfl ?_;rw [Nat.mod_eq_of_lt (show ((ex + 1074).toNat) * 2 ^ 52 < 18446744073709551616 by omega)];refine WL.ev (Ev.add64In rfl rfl (by omega)) rfl ?_;refine za rfl (zz (kh43 ?_));refine zr (zr1 rfl rfl ?_);have hN := near_cut (e := e) f1 f2 f3 (neg := neg) (mode := mode) (half := m.testBit (c - 1)) (up := awayM mode neg (m / 2 ^ c) (m.testBit (c - 1)) (decide (c = 1))) (by omega) hodd rfl (by omega) rfl rfl;rw [hAW] at hN;exact ⟨_, rfl, hN, by omega, hch⟩

end

/- Package dyad: told, Round. No condition. -/
section
open Go Sx Wd

theorem negF {x : Nat} (h : x < 9223372036854775808) : Op.negFloat .f64 x = x + 9223372036854775808 := by
  show x ^^^ 2 ^ 63 = _
  have e1 : x ^^^ 2 ^ 63 = x ||| 2 ^ 63 := by
    apply Nat.eq_of_testBit_eq
    intro j
    rw [Nat.testBit_xor, Nat.testBit_or, Nat.testBit_two_pow]
    by_cases hj : 63 = j
    · subst hj
      rw [Nat.testBit_lt_two_pow (show x < 2 ^ 63 from h)]
      simp
    · simp [hj]
  have := or_of_mul (x := x) (y := 1) (s := 63) h
  rw [Nat.one_mul] at this
  rw [e1, this]

theorem dtold_spec (na : Bool) (va : Value) (la : List Nat) (ea mode : Int) (w : World) (ha : NU w va la) (hg : GW w) (hea : -9223372036854775808 ≤ ea ∧ ea ≤ 9223372036854775807) : Ret Tryz.prog 151 [.agg [.bool na, va, .int .i64 ea].toArray, .int .i64 mode] w fun u w' => ((¬ (0 ≤ mode ∧ mode ≤ 4) ∧ u = .tuple [.agg [.bool false, .slice none 0 0, .int .i64 0].toArray, .int .i64 1].toArray) ∨ ((0 ≤ mode ∧ mode ≤ 4) ∧ DR w' u (formD na (val la) ea))) ∧ Chg [] w w' := by
 have hch : Chg [] w w := Chg.refl _ _;have hoa := ha.one;refine zE2 Tryz.func151 rfl ?_;refine Sr fun _ kh1 => ?_;refine WL.boxB rfl rfl rfl fun b2 wm2 hb2 hcm2 hge2 => ?_;have hgehch2 := Nat.le_trans hch.size hge2;have hch := hch.trans hcm2;have ha := ha.keep0 hcm2;refine WL.allocB (l := [.bool false, .slice none 0 0, .int .i64 0]) rfl rfl fun b4 wm4 hb4 hcm4 hge4 => ?_;have hgehch4 := Nat.le_trans hch.size hge4;have hch := hch.trans hcm4;have ha := ha.keep0 hcm4;have hneb24 := zdd hb2.lt hge4;have hb2 := hb2.k0 hcm4;refine za rfl (zz (kh1 (zc fun _ kh3 => ?_)));refine CW.seqM 11 (decide (mode < 0 ∨ 4 < mode)) ?_ ?_
 ·refine zR fun _ kr4 => ?_;refine zm rfl ?_;refine WL.ev (Ev.lss rfl rfl) rfl ?_;refine zm rfl ?_;refine zb ?_ ?_<;>intro hg1<;>try simp only [qs] at hg1
  ·refine zv rfl (zv rfl (zt rfl rfl ?_));refine WL.nil (kr4 _ _ _ ?_);refine ⟨rfl, rfl, Subs.consB rfl ?_ ?_⟩
   ·first | (simp; omega) | (refine decide_eq_decide.2 ?_; omega)
   ·exact SMg
  ·refine zw rfl (zm rfl (zw rfl ?_));refine WL.ev (Ev.gtr rfl rfl) rfl ?_
   refine ze rfl rfl ?_;refine WL.nil (kr4 _ _ _ ?_);refine ⟨rfl, rfl, Subs.consB rfl ?_ ?_⟩
   ·first | (simp; omega) | (refine decide_eq_decide.2 ?_; omega)
   ·exact SMg
 ·refine zy rfl ?_ ?_<;>intro hc2<;>try simp only [qs] at hc2
  ·refine Sr fun _ kh5 => ?_
   refine WL.ev (Ev.build (vs := _) (cs := [_, _, _]) rfl rfl) rfl ?_;refine zss rfl rfl ao hb4 rfl fun ws57 hb4_ hcs57 => ?_;(try simp only [Sx.splice, qt] at hb4_);have hch := hch.step hcs57 (fun y hy => .inr (by simp only [List.mem_singleton] at hy; subst hy; first | assumption | omega));have hb4 := hb4_;refine za rfl (zz (kh5 ?_));refine zr (bodyA.retR2 rfl (RVal.cell rfl (hb4.varA rfl rfl)) (RVal.tmp rfl) ?_);exact ⟨.inl ⟨by omega, rfl⟩, hch⟩
  ·refine zkk ?_
   refine kh3 (Sr fun _ kh7 => zf rfl (zl hb2 rfl rfl (zf rfl (zl hb2 rfl rfl (zf rfl (zl hb2 rfl rfl ?_))))));refine WL.call hasF144 rfl rfl (form_spec _ _ _ _ _ ha (hg.keep0 hch) hea) fun v w1 h' => ?_;obtain ⟨hD, hC19⟩ := h';have hch := hch.trans hC19;have hb4 := hb4.k0 hC19;rcases hD with ⟨r, d, hd, rfl, hNr⟩ | ⟨hd, rfl⟩
   ·refine zx rfl rfl (zx rfl rfl ?_);refine zss rfl rfl ao hb4 rfl fun ws58 hb4_ hcs58 => ?_;(try simp only [Sx.splice, qt] at hb4_);have hch := hch.step hcs58 (fun y hy => .inr (by simp only [List.mem_singleton] at hy; subst hy; first | assumption | omega));have hNr := hNr.keepBK hb4 hcs58 an;have hb4 := hb4_;refine za rfl (zz (kh7 ?_));refine zr (bodyA.retR2 rfl (RVal.cell rfl (hb4.varA rfl rfl)) (RVal.tmp rfl) ?_);exact ⟨.inr ⟨by omega, .inl ⟨r, d, hd, rfl, hNr⟩⟩, hch⟩
   ·refine zx rfl rfl (zx rfl rfl ?_);refine zss rfl rfl ao hb4 rfl fun ws59 hb4_ hcs59 => ?_;(try simp only [Sx.splice, qt] at hb4_);have hch := hch.step hcs59 (fun y hy => .inr (by simp only [List.mem_singleton] at hy; subst hy; first | assumption | omega));have hb4 := hb4_;refine za rfl (zz (kh7 ?_));refine zr (bodyA.retR2 rfl (RVal.cell rfl (hb4.varA rfl rfl)) (RVal.tmp rfl) ?_);exact ⟨.inr ⟨by omega, .inr ⟨hd, rfl⟩⟩, hch⟩

/-- What Round answers: bits and an error. -/
def RoundR (x : Option Dy) (mode : Int) (bits : Nat) (e : Int) : Prop :=
  (¬ (0 ≤ mode ∧ mode ≤ 4) ∧ bits = 0 ∧ e = 1) ∨ ((0 ≤ mode ∧ mode ≤ 4) ∧ ((x = none ∧ bits = 0 ∧ e = 2) ∨ ∃ d r, x = some d ∧ IsNear (dyA d.m d.e) (dyB d.e) d.neg mode r ∧ r ≤ 9218868437227405312 ∧ bits = (if d.neg then r + 9223372036854775808 else r) ∧ e = 0))

theorem Round_dspec (na : Bool) (va : Value) (la : List Nat) (ea mode : Int) (w : World) (ha : NU w va la) (hg : GW w) (hea : -9223372036854775808 ≤ ea ∧ ea ≤ 9223372036854775807) : Ret Tryz.prog 72 [.agg [.bool na, va, .int .i64 ea].toArray, .int .i64 mode] w fun u w' => (∃ bits e, u = .tuple [.float .f64 bits, .int .i64 e].toArray ∧ RoundR (formD na (val la) ea) mode bits e) ∧ Chg [] w w' := by
 have hch : Chg [] w w := Chg.refl _ _;have hoa := ha.one;refine zE2 Tryz.func72 rfl ?_;refine Sr fun _ kh1 => ?_;refine WL.boxB rfl rfl rfl fun b2 wm2 hb2 hcm2 hge2 => ?_;have hgehch2 := Nat.le_trans hch.size hge2;have hch := hch.trans hcm2;have ha := ha.keep0 hcm2;refine za rfl (za rfl (zz (kh1 (Sr fun _ kh3 => zg hb2 rfl (zm rfl ?_)))));refine WL.call hasF151 rfl rfl (dtold_spec _ _ _ _ mode _ ha (hg.keep0 hch) hea) fun v w1 h' => ?_;obtain ⟨hD, hC12⟩ := h';have hch := hch.trans hC12;rcases hD with ⟨hm, rfl⟩ | ⟨hm, ⟨r, d, hd, rfl, hNr⟩ | ⟨hd, rfl⟩⟩
 ·refine zm rfl (zx rfl rfl (zx rfl rfl ?_));refine WL.allocB (l := [.bool false, .slice none 0 0, .int .i64 0]) rfl rfl fun b6 wm6 hb6 hcm6 hge6 => ?_;have hgehch6 := Nat.le_trans hch.size hge6;have hch := hch.trans hcm6;refine zss rfl rfl ao hb6 rfl fun ws60 hb6_ hcs60 => ?_;have hch := hch.step hcs60 (fun y hy => .inr (by simp only [List.mem_singleton] at hy; subst hy; first | assumption | omega));refine za rfl (zz (kh3 (zc fun _ kh5 => Sr fun _ kh6 => zm rfl ?_)));refine WL.ev (Ev.neq rfl rfl) rfl ?_;refine zz (kh6 ?_);refine CW.condT rfl ?_;refine Sr fun _ kh8 => zm rfl (za rfl (za rfl (zz (kh8 ?_))));refine zr (zr2 rfl rfl rfl ?_);exact ⟨⟨_, _, rfl, .inl ⟨hm, rfl, rfl⟩⟩, hch⟩
 ·have hok := formD_ok hd;refine zm rfl (zx rfl rfl (zx rfl rfl ?_));refine WL.allocB (l := [.bool false, .slice none 0 0, .int .i64 0]) rfl rfl fun b6 wm6 hb6 hcm6 hge6 => ?_;have hgehch6 := Nat.le_trans hch.size hge6;have hch := hch.trans hcm6;have hNr := hNr.keep0 hcm6;refine zss rfl rfl ao hb6 rfl fun ws61 hb6_ hcs61 => ?_;(try simp only [Sx.splice, qt] at hb6_);have hch := hch.step hcs61 (fun y hy => .inr (by simp only [List.mem_singleton] at hy; subst hy; first | assumption | omega));have hNr := hNr.keepBK hb6 hcs61 an;have hb6 := hb6_;refine za rfl (zz (kh3 (zc fun _ kh10 => Sr fun _ kh11 => zm rfl ?_)));refine WL.ev (Ev.neq rfl rfl) rfl ?_;refine zz (kh11 ?_);refine CW.condF rfl ?_;refine zkk ?_;refine kh10 (Sr fun _ kh13 => ?_);refine WL.ev (Ev.build (vs := _) (cs := [_, _, _]) rfl rfl) rfl ?_;refine zg hb6 rfl (zm rfl ?_);refine WL.call hasF152 rfl rfl (on_spec d.neg r d.m d.e mode _ hNr hok hm) fun v w2 h' => ?_;obtain ⟨q, rfl, hN, hq, hC21⟩ := h';have hch := hch.trans hC21;have hb6 := hb6.k0 hC21;refine WL.ev (Ev.ext rfl (ext94 _ _)) rfl ?_;rw [show ((q : Nat) : Int).toNat = q by omega];refine za rfl (zz (kh13 (zc fun _ kh15 => Sr fun _ kh16 => zf rfl (zl hb6 rfl rfl (zz (kh16 ?_))))));refine zy rfl ?_ ?_<;>intro hc1<;>try simp only [qs] at hc1
  ·have hneg := hc1
   refine zR fun _ kr18 => ?_;refine zm rfl ?_;refine WL.ev (Ev.fneg rfl) rfl ?_;rw [negF (by omega)];refine za rfl ?_;refine WL.nil (kr18 _ _ _ (kh15 ?_));refine Sr fun _ kh19 => zm rfl (za rfl (za rfl (zz (kh19 ?_))));refine zr (zr2 rfl rfl rfl ?_);exact ⟨⟨_, _, rfl, .inr ⟨hm, .inr ⟨d, q, hd, hN, hq, by rw [if_pos hneg], rfl⟩⟩⟩, hch⟩
  ·have hneg := hc1
   refine zkk ?_;refine kh15 (Sr fun _ kh21 => zm rfl (za rfl (za rfl (zz (kh21 ?_)))));refine zr (zr2 rfl rfl rfl ?_);exact ⟨⟨_, _, rfl, .inr ⟨hm, .inr ⟨d, q, hd, hN, hq, by rw [if_neg (by rw [hneg]; decide)], rfl⟩⟩⟩, hch⟩
 ·refine zm rfl (zx rfl rfl (zx rfl rfl ?_));refine WL.allocB (l := [.bool false, .slice none 0 0, .int .i64 0]) rfl rfl fun b6 wm6 hb6 hcm6 hge6 => ?_;have hgehch6 := Nat.le_trans hch.size hge6;have hch := hch.trans hcm6;refine zss rfl rfl ao hb6 rfl fun ws62 hb6_ hcs62 => ?_;have hch := hch.step hcs62 (fun y hy => .inr (by simp only [List.mem_singleton] at hy; subst hy; first | assumption | omega));refine za rfl (zz (kh3 (zc fun _ kh23 => Sr fun _ kh24 => zm rfl ?_)));refine WL.ev (Ev.neq rfl rfl) rfl ?_;refine zz (kh24 ?_);refine CW.condT rfl ?_;refine Sr fun _ kh26 => zm rfl (za rfl (za rfl (zz (kh26 ?_))));refine zr (zr2 rfl rfl rfl ?_);exact ⟨⟨_, _, rfl, .inr ⟨hm, .inl ⟨hd, rfl, rfl⟩⟩⟩, hch⟩

end

/- Package bits: a number's parts. No condition. -/
section
open Go Sx Wd

/-- A number's parts. -/
structure PP where
  neg : Bool
  cls : Nat
  exp : Int
  frac : Nat
def splitP (x : Nat) : PP :=
  if x / 4503599627370496 % 2048 = 2047 ∧ x % 4503599627370496 ≠ 0 then ⟨false, 4, 0, 0⟩
  else if x / 4503599627370496 % 2048 = 2047 then ⟨decide (x / 9223372036854775808 % 2 = 1), 3, 0, 0⟩
  else if 0 < x / 4503599627370496 % 2048 then ⟨decide (x / 9223372036854775808 % 2 = 1), 2, -1074 + ((x / 4503599627370496 % 2048 : Nat) : Int) - 1, x % 4503599627370496 + 4503599627370496⟩
  else if 0 < x % 4503599627370496 then ⟨decide (x / 9223372036854775808 % 2 = 1), 1, -1074, x % 4503599627370496⟩
  else ⟨decide (x / 9223372036854775808 % 2 = 1), 0, -1074, 0⟩

theorem parts_spec (x : Nat) (w : World) (hx : x < 18446744073709551616) : Ret Tryz.prog 223 [.agg [.int .i64 11, .int .i64 52, .int .i64 (-1074)].toArray, .int .u64 (x : Int)] w fun u w' => u = .agg [.bool (splitP x).neg, .int .i64 ((splitP x).cls : Int), .int .i64 (splitP x).exp, .int .u64 ((splitP x).frac : Int)].toArray ∧ Chg [] w w' := by
 have hch : Chg [] w w := Chg.refl _ _;refine zE2 Tryz.func223 rfl ?_;refine Sr fun _ kh1 => ?_;refine zBh rfl rfl rfl hch fun b2 wm2 hb2 hcm2 hge2 hgehch2 hch => ?_;refine WL.allocB (l := [.bool false, .int .i64 0, .int .i64 0, .int .u64 0]) rfl rfl fun b4 wm4 hb4 hcm4 hge4 => ?_;have hgehch4 := Nat.le_trans hch.size hge4;have hch := hch.ta hcm4;have hneb24 := zdd hb2.lt hge4;have hb2 := hb2.k0 hcm4;refine zz (kh1 (Sr fun _ kh3 => zm rfl (zf rfl (zl hb2 rfl rfl ?_))));refine WL.ev (Ev.shlU64 (a := 1) (b := 52) rfl rfl) rfl ?_;rw [show 1 * 2 ^ 52 % 18446744073709551616 = 4503599627370496 by omega];refine WL.ev (Ev.sub64In (b := 1) rfl rfl (by omega) (by omega)) rfl ?_;refine WL.ev (Ev.andU rfl rfl rfl (by simp only [IntKind.bits]; omega) (by simp only [IntKind.bits]; omega)) rfl ?_;rw [show x &&& (4503599627370496 - 1) = x % 4503599627370496 from Nat.and_two_pow_sub_one_eq_mod x 52];refine za rfl (zz (kh3 (zc fun _ kh5 => ?_)));refine CW.regionSC hmix (by kernel_rfl) fun kR6 kr6 hdr => ?_;have hch := hch.ta hdr;have hb2 := hb2.k0 hdr;have hb4 := hb4.k0 hdr;refine ym rfl ?_;refine WS.ev (Ev.fieldAddr rfl) rfl ?_;refine WS.ev (Ev.load rfl rfl (hb2.at_ rfl)) rfl ?_;refine WS.ev (Ev.shrU (b := 52) rfl rfl (by simp only [IntKind.bits]; omega)) rfl ?_;rw [show x / 2 ^ 52 = x / 4503599627370496 by omega];refine WS.ev (Ev.convIn rfl rfl (in_i64 (by omega))) rfl ?_;refine WS.ev (Ev.fieldAddr rfl) rfl ?_;refine WS.ev (Ev.load rfl rfl (hb2.at_ rfl)) rfl ?_;refine WS.ev (Ev.shlI (a := 1) (b := 11) (c := 2048) rfl rfl (by decide) (by decide)) rfl ?_
 first | refine WS.ev (Ev.subIn rfl rfl (by omega)) rfl ?_ | refine WS.ev (Ev.sub rfl rfl) rfl ?_
 refine WS.ev (Ev.andI (b := 2047) rfl rfl (by omega) (by omega)) rfl ?_;rw [show x / 4503599627370496 &&& 2047 = x / 4503599627370496 % 2048 from Nat.and_two_pow_sub_one_eq_mod _ 11];refine ya rfl ?_;refine WS.nil (kr6 _ _ ?_);refine kh5 (Sr fun _ kh7 => zm rfl (zf rfl (zl hb2 rfl rfl (zf rfl (zl hb2 rfl rfl ?_)))));(first | refine zi rfl rfl ?_ | refine zo rfl rfl ?_);refine WL.ev (Ev.shrU (b := 63) rfl rfl (by simp only [IntKind.bits]; omega)) rfl ?_;rw [show x / 2 ^ 63 = x / 9223372036854775808 by omega];refine WL.ev (Ev.andU (b := 1) rfl rfl rfl (by simp only [IntKind.bits]; omega) (by simp only [IntKind.bits]; omega)) rfl ?_;rw [Nat.and_one_is_mod];refine zq rfl rfl ?_;have hng : decide (((x / 9223372036854775808 % 2 : Nat) : Int) = 1) = decide (x / 9223372036854775808 % 2 = 1) := decide_eq_decide.2 (by omega);rw [hng];refine za rfl (zz (kh7 (zc fun _ kh9 => ?_)));refine CW.block ?_;refine CW.seqM 33 (decide (x / 4503599627370496 % 2048 = 2047 ∧ x % 4503599627370496 ≠ 0)) ?_ ?_
 ·refine zR fun _ kr10 => ?_;refine zm rfl (zf rfl (zl hb2 rfl rfl ?_));refine WL.ev (Ev.shlI (a := 1) (b := 11) (c := 2048) rfl rfl (by decide) (by decide)) rfl ?_
  first | refine WL.ev (Ev.subIn rfl rfl (by omega)) rfl ?_ | refine WL.ev (Ev.sub rfl rfl) rfl ?_
  refine zq rfl rfl (zm rfl ?_);refine zb ?_ ?_<;>intro hg1<;>try simp only [qs] at hg1
  ·refine zw rfl (zm rfl (zw rfl ?_));refine WL.ev (Ev.neq rfl rfl) rfl ?_
   refine zt rfl rfl (za rfl ?_);refine WL.nil (kr10 _ _ _ ?_);refine ⟨rfl, rfl, Subs.consB rfl ?_ ?_⟩
   ·first | (simp; omega) | (refine decide_eq_decide.2 ?_; omega)
   ·exact SMg
  ·refine zv rfl (zv rfl (ze rfl rfl (za rfl ?_)));refine WL.nil (kr10 _ _ _ ?_);refine ⟨rfl, rfl, Subs.consB rfl ?_ ?_⟩
   ·first | (simp; omega) | (refine decide_eq_decide.2 ?_; omega)
   ·exact SMg
 ·refine zy rfl ?_ ?_<;>intro hc2<;>try simp only [qs] at hc2
  ·refine Sr fun _ kh11 => ?_
   refine WL.ev (Ev.build (vs := _) (cs := [_, _, _, _]) rfl rfl) rfl ?_;refine zss rfl rfl ao hb4 rfl fun ws1 hb4_ hcs1 => ?_;(try simp only [Sx.splice, qt] at hb4_);have hch := hch.s1 hcs1;have hb4 := hb4_;refine zz (kh11 ?_);refine zr (bodyA.retR1 rfl (RVal.cell rfl (hb4.varA rfl rfl)) ?_);unfold splitP; rw [if_pos (by omega)];exact ⟨rfl, hch⟩
  ·refine Sr fun _ kh13 => zm rfl (zf rfl (zl hb2 rfl rfl ?_));refine WL.ev (Ev.shlI (a := 1) (b := 11) (c := 2048) rfl rfl (by decide) (by decide)) rfl ?_
   first | refine WL.ev (Ev.subIn rfl rfl (by omega)) rfl ?_ | refine WL.ev (Ev.sub rfl rfl) rfl ?_
   refine zq rfl rfl (za rfl (zz (kh13 ?_)));refine zy rfl ?_ ?_<;>intro hc3<;>try simp only [qs] at hc3
   ·refine Sr fun _ kh15 => zm rfl ?_
    refine WL.ev (Ev.build (vs := _) (cs := [_, _, _, _]) rfl rfl) rfl ?_;refine zss rfl rfl ao hb4 rfl fun ws2 hb4_ hcs2 => ?_;(try simp only [Sx.splice, qt] at hb4_);have hch := hch.s1 hcs2;have hb4 := hb4_;refine zz (kh15 ?_);refine zr (bodyA.retR1 rfl (RVal.cell rfl (hb4.varA rfl rfl)) ?_);unfold splitP; rw [if_neg (by omega), if_pos (by omega)];exact ⟨rfl, hch⟩
   ·refine Sr fun _ kh17 => zm rfl ?_
    refine WL.ev (Ev.gtr rfl rfl) rfl ?_;refine za rfl (zz (kh17 ?_));refine zy rfl ?_ ?_<;>intro hc4<;>try simp only [qs] at hc4
    ·refine zc fun _ kh19 => ?_
     refine CW.regionKC 12 13 rfl hmix fun kR20 kr20 hS hdr => ?_;have hch := hch.ta hdr;have hb2 := hb2.k0 hdr;have hb4 := hb4.k0 hdr;have hb2_r := hb2;refine wk 0 rfl hS (fun _ _ => Ev.move rfl) (wk 1 rfl hS (fun _ _ => Ev.fieldAddr rfl) (wk 2 rfl hS (fun _ hw' => Ev.load rfl rfl ((hb2_r.keep0 hw').at_ rfl)) (wk 3 rfl hS (fun _ _ => Ev.move rfl) (wk 4 rfl hS (fun _ _ => Ev.addIn rfl rfl (by omega)) (wk 5 rfl hS (fun _ _ => Ev.subIn rfl rfl (by omega)) (wk 6 rfl hS (fun _ _ => Ev.move rfl) (wk 7 rfl hS (fun _ _ => Ev.fieldAddr rfl) (wk 8 rfl hS (fun _ hw' => Ev.load rfl rfl ((hb2_r.keep0 hw').at_ rfl)) (wk 9 rfl hS (fun _ _ => Ev.shlU64 (a := 1) (b := 52) rfl rfl) ?_)))))))));rw [show 1 * 2 ^ 52 % 18446744073709551616 = 4503599627370496 by omega];refine wk 10 rfl hS (fun _ _ => Ev.orU rfl rfl rfl (by simp only [IntKind.bits]; omega) (by simp only [IntKind.bits]; omega)) ?_;rw [show x % 4503599627370496 ||| 4503599627370496 = x % 4503599627370496 + 4503599627370496 from or_of_mul (s := 52) (y := 1) (Nat.mod_lt _ (by decide))];refine wk 11 rfl hS (fun _ _ => Ev.build (vs := _) (cs := [_, _, _, _]) rfl rfl) ?_;refine WK.storeB 12 rfl (by kernel_rfl) (by kernel_rfl) rfl rfl rfl ao hb4 (by simp) rfl fun ws3 hb4_ hcs3 => ?_;(try simp only [Sx.splice, qt] at hb4_);have hch := hch.s1 hcs3;have hb4 := hb4_;refine WK.done (by kernel_rfl) (kr20 _ _ _ ?_);refine kh19 ?_;refine zr (bodyA.retR1 rfl (RVal.cell rfl (hb4.varA rfl rfl)) ?_);unfold splitP; rw [if_neg (by omega), if_neg (by omega), if_pos (by omega)];exact ⟨rfl, hch⟩
    ·refine Sr fun _ kh21 => zm rfl ?_
     refine WL.ev (Ev.gtr rfl rfl) rfl ?_;refine za rfl (zz (kh21 ?_));refine zy rfl ?_ ?_<;>intro hc5<;>try simp only [qs] at hc5
     ·refine Sr fun _ kh23 => zm rfl (zf rfl (zl hb2 rfl rfl (zm rfl ?_)));refine WL.ev (Ev.build (vs := _) (cs := [_, _, _, _]) rfl rfl) rfl ?_
      refine zss rfl rfl ao hb4 rfl fun ws4 hb4_ hcs4 => ?_;(try simp only [Sx.splice, qt] at hb4_);have hch := hch.s1 hcs4;have hb4 := hb4_;refine zz (kh23 ?_);refine zr (bodyA.retR1 rfl (RVal.cell rfl (hb4.varA rfl rfl)) ?_);unfold splitP; rw [if_neg (by omega), if_neg (by omega), if_neg (by omega), if_pos (by omega)];exact ⟨rfl, hch⟩
     ·refine zkk ?_
      refine kh9 (Sr fun _ kh25 => zm rfl (zf rfl (zl hb2 rfl rfl ?_)));refine WL.ev (Ev.build (vs := _) (cs := [_, _, _, _]) rfl rfl) rfl ?_;refine zss rfl rfl ao hb4 rfl fun ws5 hb4_ hcs5 => ?_;(try simp only [Sx.splice, qt] at hb4_);have hch := hch.s1 hcs5;have hb4 := hb4_;refine zz (kh25 ?_);refine zr (bodyA.retR1 rfl (RVal.cell rfl (hb4.varA rfl rfl)) ?_);unfold splitP; rw [if_neg (by omega), if_neg (by omega), if_neg (by omega), if_neg (by omega)];exact ⟨rfl, hch⟩

end

/- Package bits: Split, Class; package policy: kinds, counts. No condition. -/
section
open Go Sx Wd

theorem long_spec (w : World) : Ret Tryz.prog 222 [] w fun u w' => u = .agg [.int .i64 11, .int .i64 52, .int .i64 (-1074)].toArray ∧ Chg [] w w' := by
 have hch : Chg [] w w := Chg.refl _ _;refine zE0 Tryz.func222 rfl ?_;refine Sr fun _ kh1 => ?_;refine WL.allocB (l := [.int .i64 0, .int .i64 0, .int .i64 0]) rfl rfl fun b0 wm0 hb0 hcm0 hge0 => ?_;have hgehch0 := Nat.le_trans hch.size hge0;have hch := hch.ta hcm0;refine zz (kh1 (Sr fun _ kh3 => ?_));refine WL.ev (Ev.build (vs := _) (cs := [_, _, _]) rfl rfl) rfl ?_;refine zss rfl rfl ao hb0 rfl fun ws6 hb0_ hcs6 => ?_;(try simp only [Sx.splice, qt] at hb0_);have hch := hch.s1 hcs6;have hb0 := hb0_;refine zz (kh3 ?_);refine zr (bodyA.retR1 rfl (RVal.cell rfl (hb0.varA rfl rfl)) ?_);exact ⟨rfl, hch⟩

theorem Split_spec (x : Nat) (w : World) (hx : x < 18446744073709551616) : Ret Tryz.prog 143 [.float .f64 x] w fun u w' => u = .agg [.bool (splitP x).neg, .int .i64 ((splitP x).cls : Int), .int .i64 (splitP x).exp, .int .u64 ((splitP x).frac : Int)].toArray ∧ Chg [] w w' := by
 have hch : Chg [] w w := Chg.refl _ _;refine zE1 Tryz.func143 rfl ?_;refine Sr fun _ kh1 => ?_;refine WL.allocB (l := [.bool false, .int .i64 0, .int .i64 0, .int .u64 0]) rfl rfl fun b2 wm2 hb2 hcm2 hge2 => ?_;have hgehch2 := Nat.le_trans hch.size hge2;have hch := hch.ta hcm2;refine zz (kh1 (Sr fun _ kh3 => ?_));refine WL.call hasF222 rfl rfl (long_spec _) fun v w1 h' => ?_;obtain ⟨rfl, hC3⟩ := h';have hch := hch.ta hC3;have hb2 := hb2.k0 hC3;refine zm rfl ?_;refine WL.ev (Ev.ext rfl (ext63 _ _)) rfl ?_;refine WL.call hasF223 rfl rfl (parts_spec x _ hx) fun v w2 h' => ?_;obtain ⟨rfl, hC6⟩ := h';have hch := hch.ta hC6;have hb2 := hb2.k0 hC6;refine zss rfl rfl ao hb2 rfl fun ws7 hb2_ hcs7 => ?_;(try simp only [Sx.splice, qt] at hb2_);have hch := hch.s1 hcs7;have hb2 := hb2_;refine zz (kh3 ?_);refine zr (bodyA.retR1 rfl (RVal.cell rfl (hb2.varA rfl rfl)) ?_);exact ⟨rfl, hch⟩

theorem Class_spec (x : Nat) (w : World) (hx : x < 18446744073709551616) : Ret Tryz.prog 130 [.float .f64 x] w fun u w' => u = .int .i64 ((splitP x).cls : Int) ∧ Chg [] w w' := by
 have hch : Chg [] w w := Chg.refl _ _;refine zE1 Tryz.func130 rfl ?_;refine Sr fun _ kh1 => za rfl (zz (kh1 (Sr fun _ kh3 => zm rfl ?_)));refine WL.call hasF143 rfl rfl (Split_spec x _ hx) fun v w1 h' => ?_;obtain ⟨rfl, hC4⟩ := h';have hch := hch.ta hC4;refine WL.ev (Ev.field (ft := 3) rfl rfl rfl rfl rfl) rfl ?_;refine za rfl (zz (kh3 ?_));refine zr (zr1 rfl rfl ?_);exact ⟨rfl, hch⟩

/-- A number's kind: finite, -0, +0, +Inf, -Inf, NaN. -/
def kindP (x : Nat) : Nat :=
  if (splitP x).cls = 4 then 5 else if (splitP x).cls = 3 ∧ (splitP x).neg = true then 4 else if (splitP x).cls = 3 then 3
  else if (splitP x).cls = 0 ∧ (splitP x).neg = true then 1 else if (splitP x).cls = 0 then 2 else 0

theorem kind_spec (x : Nat) (w : World) (hx : x < 18446744073709551616) : Ret Tryz.prog 194 [.float .f64 x] w fun u w' => u = .int .i64 (kindP x : Int) ∧ Chg [] w w' := by
 have hch : Chg [] w w := Chg.refl _ _;refine zE1 Tryz.func194 rfl ?_;refine Sr fun _ kh1 => za rfl (zz (kh1 (Sr fun _ kh3 => zm rfl ?_)));refine WL.call hasF143 rfl rfl (Split_spec x _ hx) fun v w1 h' => ?_;obtain ⟨rfl, hC5⟩ := h';have hch := hch.ta hC5;refine WL.allocB (l := [.bool false, .int .i64 0, .int .i64 0, .int .u64 0]) rfl rfl fun b3 wm3 hb3 hcm3 hge3 => ?_;have hgehch3 := Nat.le_trans hch.size hge3;have hch := hch.ta hcm3;refine zss rfl rfl ao hb3 rfl fun ws8 hb3_ hcs8 => ?_;(try simp only [Sx.splice, qt] at hb3_);have hch := hch.s1 hcs8;have hb3 := hb3_;refine zz (kh3 (zc fun _ kh5 => ?_));refine CW.block ?_;refine Sr fun _ kh6 => zf rfl (zl hb3 rfl rfl (zq rfl rfl (za rfl (zz (kh6 ?_)))));refine zy rfl ?_ ?_<;>intro hc1<;>try simp only [qs] at hc1
 ·refine Sr fun _ kh8 => za rfl (zz (kh8 ?_));refine zr (zr1 rfl rfl ?_);unfold kindP; rw [if_pos (by omega)];exact ⟨rfl, hch⟩
 ·refine CW.seqM 10 (decide ((splitP x).cls = 3 ∧ (splitP x).neg = true)) ?_ ?_
  ·refine zR fun _ kr10 => ?_;refine zf rfl (zl hb3 rfl rfl (zq rfl rfl (zm rfl ?_)));refine zb ?_ ?_<;>intro hg2<;>try simp only [qs] at hg2
   ·refine zw rfl (zf rfl (zw rfl (zl hb3 rfl rfl (zt rfl rfl (za rfl ?_)))));refine WL.nil (kr10 _ _ _ ?_);refine ⟨rfl, rfl, Subs.consB rfl ?_ ?_⟩
    ·first | (simp_all; done) | (simp; omega) | (cases hnn : (splitP x).neg <;> simp_all <;> omega)
    ·exact SMg
   ·refine zv rfl (zv rfl (ze rfl rfl (za rfl ?_)));refine WL.nil (kr10 _ _ _ ?_);refine ⟨rfl, rfl, Subs.consB rfl ?_ ?_⟩
    ·first | (simp_all; done) | (simp; omega) | (cases hnn : (splitP x).neg <;> simp_all <;> omega)
    ·exact SMg
  ·refine zy rfl ?_ ?_<;>intro hc3<;>try simp only [qs] at hc3
   ·have hK10 := hc3
    refine Sr fun _ kh11 => za rfl (zz (kh11 ?_));refine zr (zr1 rfl rfl ?_);unfold kindP; rw [if_neg (by omega), if_pos hK10];exact ⟨rfl, hch⟩
   ·have hK10 := hc3
    refine Sr fun _ kh13 => zf rfl (zl hb3 rfl rfl (zq rfl rfl (za rfl (zz (kh13 ?_)))));refine zy rfl ?_ ?_<;>intro hc4<;>try simp only [qs] at hc4
    ·refine Sr fun _ kh15 => za rfl (zz (kh15 ?_));refine zr (zr1 rfl rfl ?_);unfold kindP; rw [if_neg (by omega), if_neg hK10, if_pos (by omega)];exact ⟨rfl, hch⟩
    ·refine CW.seqM 22 (decide ((splitP x).cls = 0 ∧ (splitP x).neg = true)) ?_ ?_
     ·refine zR fun _ kr17 => ?_;refine zf rfl (zl hb3 rfl rfl (zq rfl rfl (zm rfl ?_)));refine zb ?_ ?_<;>intro hg5<;>try simp only [qs] at hg5
      ·refine zw rfl (zf rfl (zw rfl (zl hb3 rfl rfl (zt rfl rfl (za rfl ?_)))));refine WL.nil (kr17 _ _ _ ?_);refine ⟨rfl, rfl, Subs.consB rfl ?_ ?_⟩
       ·first | (simp_all; done) | (simp; omega) | (cases hnn : (splitP x).neg <;> simp_all <;> omega)
       ·exact SMg
      ·refine zv rfl (zv rfl (ze rfl rfl (za rfl ?_)));refine WL.nil (kr17 _ _ _ ?_);refine ⟨rfl, rfl, Subs.consB rfl ?_ ?_⟩
       ·first | (simp_all; done) | (simp; omega) | (cases hnn : (splitP x).neg <;> simp_all <;> omega)
       ·exact SMg
     ·refine zy rfl ?_ ?_<;>intro hc6<;>try simp only [qs] at hc6
      ·have hK22 := hc6
       refine Sr fun _ kh18 => za rfl (zz (kh18 ?_));refine zr (zr1 rfl rfl ?_);unfold kindP; rw [if_neg (by omega), if_neg hK10, if_neg (by omega), if_pos hK22];exact ⟨rfl, hch⟩
      ·have hK22 := hc6
       refine Sr fun _ kh20 => zf rfl (zl hb3 rfl rfl (zq rfl rfl (za rfl (zz (kh20 ?_)))));refine zy rfl ?_ ?_<;>intro hc7<;>try simp only [qs] at hc7
       ·refine Sr fun _ kh22 => za rfl (zz (kh22 ?_));refine zr (zr1 rfl rfl ?_);unfold kindP; rw [if_neg (by omega), if_neg hK10, if_neg (by omega), if_neg hK22, if_pos (by omega)];exact ⟨rfl, hch⟩
       ·refine zkk ?_
        refine kh5 (Sr fun _ kh24 => za rfl (zz (kh24 ?_)));refine zr (zr1 rfl rfl ?_);unfold kindP; rw [if_neg (by omega), if_neg hK10, if_neg (by omega), if_neg hK22, if_neg (by omega)];exact ⟨rfl, hch⟩

theorem choice_spec (n : Int) (w : World) : Ret Tryz.prog 190 [.int .i64 n] w fun u w' => u = .bool (decide (0 ≤ n ∧ n ≤ 2)) ∧ w = w' := by
 refine zE1 Tryz.func190 rfl ?_;refine Sr fun _ kh1 => za rfl (zz (kh1 (Sr fun _ kh3 => zm rfl ?_)));refine WL.ev (Ev.geq rfl rfl) rfl ?_;refine zm rfl ?_;refine zb ?_ ?_<;>intro hg1<;>try simp only [qs] at hg1
 ·refine zw rfl (zm rfl (zw rfl ?_));refine WL.ev (Ev.leq rfl rfl) rfl ?_
  refine zt rfl rfl (za rfl (zz (kh3 ?_)));refine zr (zr1 rfl rfl ?_);refine ⟨congrArg Value.bool (decide_eq_decide.2 (by omega)), rfl⟩
 ·refine zv rfl (zv rfl (ze rfl rfl (za rfl (zz (kh3 ?_)))));refine zr (zr1 rfl rfl ?_);refine ⟨?_, rfl⟩;rw [decide_eq_false (by omega)]

def mayQ (a b : Int) : Prop := (0 ≤ a ∧ a ≤ 2) ∧ (0 ≤ b ∧ b ≤ 2)
instance (a b : Int) : Decidable (mayQ a b) := by unfold mayQ; exact inferInstance

theorem May_spec (pn pi : Int) (w : World) : Ret Tryz.prog 105 [.agg [.int .i64 pn, .int .i64 pi].toArray] w fun u w' => u = .bool (decide (mayQ pn pi)) ∧ Chg [] w w' := by
 have hch : Chg [] w w := Chg.refl _ _;refine zE1 Tryz.func105 rfl ?_;refine Sr fun _ kh1 => ?_;refine zBh rfl rfl rfl hch fun b1 wm1 hb1 hcm1 hge1 hgehch1 hch => ?_;refine za rfl (zz (kh1 (Sr fun _ kh3 => zf rfl (zl hb1 rfl rfl ?_))));refine WL.call hasF190 rfl rfl (choice_spec pn _) fun v w1 h' => ?_;obtain ⟨rfl, rfl⟩ := h';refine zm rfl ?_;refine zb ?_ ?_<;>intro hg1<;>try simp only [qs] at hg1
 ·refine zw rfl (zf rfl (zw rfl (zl hb1 rfl rfl (zw rfl ?_))));refine WL.call hasF190 rfl rfl (choice_spec pi _) fun v w2 h' => ?_
  obtain ⟨rfl, rfl⟩ := h';refine zt rfl rfl (za rfl (zz (kh3 ?_)));refine zr (zr1 rfl rfl ?_);refine ⟨congrArg Value.bool (decide_eq_decide.2 (by unfold mayQ; omega)), hch⟩
 ·refine zv rfl (zv rfl (zv rfl (ze rfl rfl (za rfl (zz (kh3 ?_))))));refine zr (zr1 rfl rfl ?_);refine ⟨?_, hch⟩;rw [decide_eq_false (by unfold mayQ; omega)]

end

/- Package policy: counts of kinds. No condition. -/
section
open Go Sx Wd

/-- Counts of kinds. -/
structure SP where
  na : Nat
  up : Nat
  dn : Nat
  mi : Nat
  pl : Nat
  al : Nat
def SP.cells (s : SP) : List Value := [.int .i64 (s.na : Int), .int .i64 (s.up : Int), .int .i64 (s.dn : Int), .int .i64 (s.mi : Int), .int .i64 (s.pl : Int), .int .i64 (s.al : Int)]
def SP.le (s : SP) (n : Nat) : Prop := s.na ≤ n ∧ s.up ≤ n ∧ s.dn ≤ n ∧ s.mi ≤ n ∧ s.pl ≤ n ∧ s.al ≤ n
def SP.zero : SP := ⟨0, 0, 0, 0, 0, 0⟩
def countP (s : SP) (k : Nat) : SP :=
  ⟨s.na + (if k = 5 then 1 else 0), s.up + (if k = 3 then 1 else 0), s.dn + (if k = 4 then 1 else 0), s.mi + (if k = 1 then 1 else 0), s.pl + (if k = 2 then 1 else 0), s.al + 1⟩
theorem countP.le {s : SP} {k n : Nat} (h : s.le n) : (countP s k).le (n + 1) := by
  obtain ⟨a, b, c, d, e, f⟩ := h
  refine ⟨?_, ?_, ?_, ?_, ?_, ?_⟩ <;> (simp only [countP]; try split) <;> omega
def mayBeP (s : SP) : Prop := s.na + s.up + s.dn + s.mi + s.pl ≤ s.al ∧ s.al ≤ 1099511627776
instance (s : SP) : Decidable (mayBeP s) := by unfold mayBeP; exact inferInstance
def SP.five (s : SP) : List Nat := [s.na, s.up, s.dn, s.mi, s.pl]
theorem take_sum {l : List Nat} : ∀ {i : Nat}, i < l.length → (l.take (i + 1)).sum = (l.take i).sum + l.getD i 0 := by
  induction l with
  | nil => intro i h; simp at h
  | cons a l ih =>
    intro i h
    cases i with
    | zero => simp
    | succ i =>
      have := ih (i := i) (by simpa using h)
      simp only [List.take_succ_cons, List.sum_cons, this, List.getD_cons_succ]; omega
theorem five_le (s : SP) (i : Nat) : s.five.getD i 0 ≤ s.na + s.up + s.dn + s.mi + s.pl := by
  unfold SP.five
  match i with
  | 0 => simp; omega
  | 1 => simp; omega
  | 2 => simp; omega
  | 3 => simp; omega
  | 4 => simp
  | n + 5 => simp
theorem five_sum (s : SP) : (s.five.take 5).sum = s.na + s.up + s.dn + s.mi + s.pl := by
  simp [SP.five]; omega

theorem count_spec (b k : Nat) (s : SP) (w : World) (hB : BK w b 124 s.cells) (hs : s.le 1000000000000000) : Ret Tryz.prog 195 [.pointer (some ⟨b, 0, none⟩), .int .i64 (k : Int)] w fun u w' => BK w' b 124 (countP s k).cells ∧ Chg [b] w w' := by
 obtain ⟨hs1, hs2, hs3, hs4, hs5, hs6⟩ := hs;unfold SP.cells at hB;have hch : Chg [b] w w := Chg.refl _ _;refine zE2 Tryz.func195 rfl ?_;refine Sr fun _ kh1 => zm rfl ?_;refine WL.ev (Ev.nilPtr rfl) rfl ?_;refine zf rfl (zl hB rfl rfl ?_);(first | refine zi rfl rfl ?_ | refine zo rfl rfl ?_);refine WL.ev (Ev.nilPtr rfl) rfl ?_;refine zf rfl ?_;refine WL.storeC rfl rfl o1 hB (by simp) rfl fun ws9 hB_ hcs9 => ?_;(try simp only [Sx.splice, qt] at hB_);have hch := hch.s1 hcs9;have hB := hB_;refine zz (kh1 (Sr fun _ kh3 => zm rfl (zz (kh3 ?_))));refine CW.block ?_;refine Sr fun _ kh5 => zq rfl rfl (za rfl (zz (kh5 ?_)));refine zy rfl ?_ ?_<;>intro hc1<;>try simp only [qs] at hc1
 ·refine zR fun _ kr7 => ?_
  refine zm rfl ?_;refine WL.ev (Ev.nilPtr rfl) rfl ?_;refine zf rfl (zl hB rfl rfl ?_);(first | refine zi rfl rfl ?_ | refine zo rfl rfl ?_);refine WL.ev (Ev.nilPtr rfl) rfl ?_;refine zf rfl ?_;refine WL.storeC rfl rfl o1 hB (by simp) rfl fun ws10 hB_ hcs10 => ?_;(try simp only [Sx.splice, qt] at hB_);have hch := hch.s1 hcs10;have hB := hB_;refine WL.nil (kr7 _ _ _ ?_);refine bodyA.norm0 rfl ?_;refine ⟨?_, hch⟩;have hk : k = 5 := by omega
  subst hk
  simpa [SP.cells, countP] using hB
 ·refine Sr fun _ kh8 => zq rfl rfl (za rfl (zz (kh8 ?_)));refine zy rfl ?_ ?_<;>intro hc2<;>try simp only [qs] at hc2
  ·refine zR fun _ kr10 => ?_
   refine zm rfl ?_;refine WL.ev (Ev.nilPtr rfl) rfl ?_;refine zf rfl (zl hB rfl rfl ?_);(first | refine zi rfl rfl ?_ | refine zo rfl rfl ?_);refine WL.ev (Ev.nilPtr rfl) rfl ?_;refine zf rfl ?_;refine WL.storeC rfl rfl o1 hB (by simp) rfl fun ws11 hB_ hcs11 => ?_;(try simp only [Sx.splice, qt] at hB_);have hch := hch.s1 hcs11;have hB := hB_;refine WL.nil (kr10 _ _ _ ?_);refine bodyA.norm0 rfl ?_;refine ⟨?_, hch⟩;have hk : k = 3 := by omega
   subst hk
   simpa [SP.cells, countP] using hB
  ·refine Sr fun _ kh11 => zq rfl rfl (za rfl (zz (kh11 ?_)));refine zy rfl ?_ ?_<;>intro hc3<;>try simp only [qs] at hc3
   ·refine zR fun _ kr13 => ?_
    refine zm rfl ?_;refine WL.ev (Ev.nilPtr rfl) rfl ?_;refine zf rfl (zl hB rfl rfl ?_);(first | refine zi rfl rfl ?_ | refine zo rfl rfl ?_);refine WL.ev (Ev.nilPtr rfl) rfl ?_;refine zf rfl ?_;refine WL.storeC rfl rfl o1 hB (by simp) rfl fun ws12 hB_ hcs12 => ?_;(try simp only [Sx.splice, qt] at hB_);have hch := hch.s1 hcs12;have hB := hB_;refine WL.nil (kr13 _ _ _ ?_);refine bodyA.norm0 rfl ?_;refine ⟨?_, hch⟩;have hk : k = 4 := by omega
    subst hk
    simpa [SP.cells, countP] using hB
   ·refine Sr fun _ kh14 => zq rfl rfl (za rfl (zz (kh14 ?_)));refine zy rfl ?_ ?_<;>intro hc4<;>try simp only [qs] at hc4
    ·refine zR fun _ kr16 => ?_
     refine zm rfl ?_;refine WL.ev (Ev.nilPtr rfl) rfl ?_;refine zf rfl (zl hB rfl rfl ?_);(first | refine zi rfl rfl ?_ | refine zo rfl rfl ?_);refine WL.ev (Ev.nilPtr rfl) rfl ?_;refine zf rfl ?_;refine WL.storeC rfl rfl o1 hB (by simp) rfl fun ws13 hB_ hcs13 => ?_;(try simp only [Sx.splice, qt] at hB_);have hch := hch.s1 hcs13;have hB := hB_;refine WL.nil (kr16 _ _ _ ?_);refine bodyA.norm0 rfl ?_;refine ⟨?_, hch⟩;have hk : k = 1 := by omega
     subst hk
     simpa [SP.cells, countP] using hB
    ·refine Sr fun _ kh17 => zq rfl rfl (za rfl (zz (kh17 ?_)));refine zy rfl ?_ ?_<;>intro hc5<;>try simp only [qs] at hc5
     ·refine zR fun _ kr19 => ?_
      refine zm rfl ?_;refine WL.ev (Ev.nilPtr rfl) rfl ?_;refine zf rfl (zl hB rfl rfl ?_);(first | refine zi rfl rfl ?_ | refine zo rfl rfl ?_);refine WL.ev (Ev.nilPtr rfl) rfl ?_;refine zf rfl ?_;refine WL.storeC rfl rfl o1 hB (by simp) rfl fun ws14 hB_ hcs14 => ?_;(try simp only [Sx.splice, qt] at hB_);have hch := hch.s1 hcs14;have hB := hB_;refine WL.nil (kr19 _ _ _ ?_);refine bodyA.norm0 rfl ?_;refine ⟨?_, hch⟩;have hk : k = 2 := by omega
      subst hk
      simpa [SP.cells, countP] using hB
     ·refine zkk ?_
      refine bodyA.norm0 rfl ?_;refine ⟨?_, hch⟩;have k1 : ¬ k = 5 := by omega
      have k2 : ¬ k = 3 := by omega
      have k3 : ¬ k = 4 := by omega
      have k4 : ¬ k = 1 := by omega
      have k5 : ¬ k = 2 := by omega
      simpa [SP.cells, countP, k1, k2, k3, k4, k5] using hB

def KMb (s : SP) (b : Nat) (w0 : World) (g : Nat × Nat) (w : World) : Prop := g.1 ≤ 5 ∧ g.2 = (s.five.take g.1).sum ∧ g.2 ≤ g.1 * 1099511627776 ∧ BK w b 124 s.cells ∧ Chg [] w0 w

theorem mayBe_spec (s : SP) (w : World) (hs : s.le 1000000000000000) : Ret Tryz.prog 183 [.agg [.int .i64 (s.na : Int), .int .i64 (s.up : Int), .int .i64 (s.dn : Int), .int .i64 (s.mi : Int), .int .i64 (s.pl : Int), .int .i64 (s.al : Int)].toArray] w fun u w' => u = .bool (decide (mayBeP s)) ∧ Chg [] w w' := by
  obtain ⟨hs1, hs2, hs3, hs4, hs5, hs6⟩ := hs;have hch : Chg [] w w := Chg.refl _ _;refine zE1 Tryz.func183 rfl ?_;refine Sr fun _ kh1 => ?_;refine zBh rfl rfl rfl hch fun b1 wm1 hb1 hcm1 hge1 hgehch1 hch => ?_;refine za rfl (zz (kh1 (Sr fun _ kh3 => za rfl (zz (kh3 (zc fun _ kh5 => Sr fun _ kh6 => zf rfl (zl hb1 rfl rfl (zf rfl (zl hb1 rfl rfl (zf rfl (zl hb1 rfl rfl (zf rfl (zl hb1 rfl rfl (zf rfl (zl hb1 rfl rfl ?_)))))))))))))));refine WL.ev (Ev.buildA (vs := _) (cs := [_, _, _, _, _]) rfl rfl) rfl ?_;refine zm rfl (zz (kh6 ?_));refine CW.block ?_;refine CW.loop (S := fun g : Nat × Nat => [(1, .pointer (some ⟨b1, 0, none⟩)), (2, .bool false), (3, .int .i64 (g.2 : Int)), (16, .agg (s.five.map fun n : Nat => Value.int .i64 (n : Int)).toArray), (17, .int .i64 (g.1 : Int))]) (Inv := KMb s b1 w) (mu := fun g => 5 - g.1) ((0, 0)) ?_ ?_ ?_
  · exact ⟨by omega, rfl, by omega, hb1, hch⟩
  · exact SLp
  · rintro ⟨i, m⟩ wr ⟨hi5, hm, hmx, hb1, hch⟩;dsimp only at hi5 hm hmx hb1 hch;unfold SP.cells at hb1;have hmv := five_le s i;refine Sr fun _ kh8 => ?_;refine WL.ev (Ev.lss rfl rfl) rfl ?_;refine zz (kh8 (zc fun _ kh10 => ?_));refine zy rfl ?_ ?_<;>intro hc1<;>try simp only [qs] at hc1
    · refine zkk ?_
      refine kh10 (zc fun _ kh11 => ?_);refine CW.block ?_;refine Sr fun _ kh12 => ?_;refine WL.ev (Ev.indexAr (i := i) (v := .int .i64 ((s.five.getD i 0 : Nat) : Int)) rfl rfl (by omega) rfl ?_) rfl ?_
      · have : i < s.five.length := by show i < 5; omega
        rw [List.getElem?_map, List.getD_eq_getElem?_getD, List.getElem?_eq_getElem this]; rfl
      refine za rfl (zz (kh12 (zc fun _ kh14 => ?_)));refine CW.seqM 25 (decide (1099511627776 < s.five.getD i 0)) ?_ ?_
      · refine zR fun _ kr15 => ?_;refine zm rfl ?_;refine WL.ev (Ev.lss rfl rfl) rfl ?_;refine zm rfl ?_;refine zb ?_ ?_<;>intro hg2<;>try simp only [qs] at hg2
        · refine zv rfl (zv rfl (zt rfl rfl ?_));refine WL.nil (kr15 _ _ _ ?_);refine ⟨rfl, rfl, Subs.consB rfl ?_ ?_⟩
          · first | (simp; omega) | (refine decide_eq_decide.2 ?_; omega)
          · exact SMg
        · refine zw rfl (zm rfl (zw rfl ?_));refine WL.ev (Ev.gtr rfl rfl) rfl ?_
          refine ze rfl rfl ?_;refine WL.nil (kr15 _ _ _ ?_);refine ⟨rfl, rfl, Subs.consB rfl ?_ ?_⟩
          · first | (simp; omega) | (refine decide_eq_decide.2 ?_; omega)
          · exact SMg
      · refine zy rfl ?_ ?_<;>intro hc3<;>try simp only [qs] at hc3
        · refine Sr fun _ kh16 => za rfl (zz (kh16 ?_));refine zr (zr1 rfl rfl ?_);refine ⟨?_, hch⟩;rw [decide_eq_false (by unfold mayBeP; omega)]
        · refine zkk ?_
          refine kh14 ?_;refine zR fun _ kr18 => ?_;refine zm rfl (zm rfl ?_);(first | refine zi rfl rfl ?_ | refine zo rfl rfl ?_);refine za rfl ?_;refine WL.nil (kr18 _ _ _ (kh11 ?_));refine zR fun _ kr19 => ?_;(first | refine zi rfl rfl ?_ | refine zo rfl rfl ?_);refine zm rfl ?_;refine WL.nil (kr19 _ _ _ ?_);refine ⟨rfl, (i + 1, m + s.five.getD i 0), ?_, ?_, ?_⟩
          · exact SLp
          · exact ⟨by omega, by dsimp only; rw [hm]; exact (take_sum (by show i < 5; omega)).symm, by dsimp only; omega, hb1, hch⟩
          · show 5 - (i + 1) < 5 - i; omega
    · refine CW.exit ?_
      refine kh5 (zc fun _ kh20 => ?_);have h5 : i = 5 := by omega
      subst h5;rw [five_sum] at hm;refine zR fun _ kr21 => ?_;refine zm rfl (zf rfl (zl hb1 rfl rfl ?_));refine WL.ev (Ev.leq rfl rfl) rfl ?_;refine zm rfl ?_;refine zb ?_ ?_<;>intro hg4<;>try simp only [qs] at hg4
      · refine zw rfl (zf rfl (zw rfl (zl hb1 rfl rfl (zw rfl ?_))));refine WL.ev (Ev.leq rfl rfl) rfl ?_
        refine zt rfl rfl (za rfl ?_);refine WL.nil (kr21 _ _ _ (kh20 ?_));refine zr (zr1 rfl rfl ?_);refine ⟨congrArg Value.bool (decide_eq_decide.2 (by unfold mayBeP; omega)), hch⟩
      · refine zv rfl (zv rfl (zv rfl (ze rfl rfl (za rfl ?_))));refine WL.nil (kr21 _ _ _ (kh20 ?_));refine zr (zr1 rfl rfl ?_);refine ⟨?_, hch⟩;rw [decide_eq_false (by unfold mayBeP; omega)]

end

/- Package policy: Verdict, Nought, Plain; math.Inf, Copysign; bits.NaN. No condition. -/
section
open Go Sx Wd

theorem Inf_spec (n : Int) (w : World) : Ret Tryz.prog 184 [.int .i64 n] w fun u w' => u = .float .f64 (if 0 ≤ n then 9218868437227405312 else 18442240474082181120) ∧ w = w' := by
 refine zE1 Tryz.func184 rfl ?_;refine Sr fun _ kh1 => za rfl (zz (kh1 (Sr fun _ kh3 => za rfl (zz (kh3 (zc fun _ kh5 => Sr fun _ kh6 => zm rfl ?_))))));refine WL.ev (Ev.geq rfl rfl) rfl ?_;refine zz (kh6 ?_);refine zy rfl ?_ ?_<;>intro hc1<;>try simp only [qs] at hc1
 ·refine zR fun _ kr8 => ?_
  refine za rfl ?_;refine WL.nil (kr8 _ _ _ (kh5 ?_));refine Sr fun _ kh9 => zm rfl ?_;refine WL.ev (Ev.ext rfl (ext94 _ _)) rfl ?_;refine za rfl (zz (kh9 ?_));refine zr (zr1 rfl rfl ?_);rw [if_pos (by omega)];exact ⟨rfl, rfl⟩
 ·refine zR fun _ kr11 => ?_
  refine za rfl ?_;refine WL.nil (kr11 _ _ _ (kh5 ?_));refine Sr fun _ kh12 => zm rfl ?_;refine WL.ev (Ev.ext rfl (ext94 _ _)) rfl ?_;refine za rfl (zz (kh12 ?_));refine zr (zr1 rfl rfl ?_);rw [if_neg (by omega)];exact ⟨rfl, rfl⟩

theorem Copysign_spec (w : World) : Ret Tryz.prog 186 [.float .f64 0, .float .f64 13830554455654793216] w fun u w' => u = .float .f64 9223372036854775808 ∧ w = w' := by
 refine zE2 Tryz.func186 rfl ?_;refine Sr fun _ kh1 => za rfl (zz (kh1 (Sr fun _ kh3 => zm rfl ?_)));refine WL.ev (Ev.ext rfl (ext63 _ _)) rfl ?_;refine WL.ev (Ev.andNotU (a := 0) (b := 9223372036854775808) rfl rfl rfl (by decide) (by decide)) rfl ?_;rw [show 0 &&& (2 ^ IntKind.u64.bits - 1 - 9223372036854775808) = 0 from Nat.zero_and _];refine zm rfl ?_;refine WL.ev (Ev.ext rfl (ext63 _ _)) rfl ?_;refine WL.ev (Ev.andU (a := 13830554455654793216) (b := 9223372036854775808) rfl rfl rfl (by decide) (by decide)) rfl ?_;rw [show 13830554455654793216 &&& 9223372036854775808 = 9223372036854775808 from by decide];refine WL.ev (Ev.orU (a := 0) (b := 9223372036854775808) rfl rfl rfl (by decide) (by decide)) rfl ?_;rw [show 0 ||| 9223372036854775808 = 9223372036854775808 from by decide];refine WL.ev (Ev.ext rfl (ext94 _ _)) rfl ?_;refine za rfl (zz (kh3 ?_));refine zr (zr1 rfl rfl ?_);exact ⟨rfl, rfl⟩

theorem NaN_spec (w : World) : Ret Tryz.prog 103 [] w fun u w' => u = .float .f64 9221120237041090560 ∧ w = w' := by
 refine zE0 Tryz.func103 rfl ?_;refine Sr fun _ kh1 => za rfl (zz (kh1 (Sr fun _ kh3 => ?_)));refine WL.ev (Ev.ext rfl (ext94 _ _)) rfl ?_;refine za rfl (zz (kh3 ?_));refine zr (zr1 rfl rfl ?_);exact ⟨rfl, rfl⟩

theorem Plain_spec (w : World) : Ret Tryz.prog 153 [] w fun u w' => u = .agg [.int .i64 0, .int .i64 0].toArray ∧ Chg [] w w' := by
 have hch : Chg [] w w := Chg.refl _ _;refine zE0 Tryz.func153 rfl ?_;refine Sr fun _ kh1 => ?_;refine WL.allocB (l := [.int .i64 0, .int .i64 0]) rfl rfl fun b0 wm0 hb0 hcm0 hge0 => ?_;have hgehch0 := Nat.le_trans hch.size hge0;have hch := hch.ta hcm0;refine zz (kh1 (Sr fun _ kh3 => ?_));refine WL.ev (Ev.build (vs := _) (cs := [_, _]) rfl rfl) rfl ?_;refine zss rfl rfl ao hb0 rfl fun ws15 hb0_ hcs15 => ?_;(try simp only [Sx.splice, qt] at hb0_);have hch := hch.s1 hcs15;have hb0 := hb0_;refine zz (kh3 ?_);refine zr (bodyA.retR1 rfl (RVal.cell rfl (hb0.varA rfl rfl)) ?_);exact ⟨rfl, hch⟩

/-- What a sum with such specials is. -/
def verdP (s : SP) (pn pi : Int) : Option Nat :=
  if ¬ mayBeP s ∨ ¬ mayQ pn pi then none else if (0 < s.na ∧ pn = 0) ∨ (0 < s.up ∧ 0 < s.dn ∧ pi = 0) then some 9221120237041090560
  else if 0 < s.up ∧ pi = 0 then some 9218868437227405312 else if 0 < s.dn ∧ pi = 0 then some 18442240474082181120 else none
/-- The sign of a sum that comes to nought. -/
def noughtP (s : SP) (mode : Int) : Nat :=
  if mayBeP s ∧ s.na + s.up + s.dn < s.al ∧ (s.mi + s.na + s.up + s.dn = s.al ∨ s.pl + s.na + s.up + s.dn < s.al ∧ mode = 3) then 9223372036854775808 else 0

theorem Verdict_spec (s : SP) (pn pi : Int) (w : World) (hs : s.le 1000000000000000) : Ret Tryz.prog 99 [.agg [.int .i64 (s.na : Int), .int .i64 (s.up : Int), .int .i64 (s.dn : Int), .int .i64 (s.mi : Int), .int .i64 (s.pl : Int), .int .i64 (s.al : Int)].toArray, .agg [.int .i64 pn, .int .i64 pi].toArray] w fun u w' => u = .tuple [.float .f64 ((verdP s pn pi).getD 0), .bool (verdP s pn pi).isSome].toArray ∧ Chg [] w w' := by
 have hs0 := hs;obtain ⟨hs1, hs2, hs3, hs4, hs5, hs6⟩ := hs;have hch : Chg [] w w := Chg.refl _ _;refine zE2 Tryz.func99 rfl ?_;refine Sr fun _ kh1 => ?_;refine zBh rfl rfl rfl hch fun b2 wm2 hb2 hcm2 hge2 hgehch2 hch => ?_;refine zBh rfl rfl rfl hch fun b3 wm3 hb3 hcm3 hge3 hgehch3 hch => ?_;have hneb23 := zdd hb2.lt hge3;have hb2 := hb2.k0 hcm3;refine za rfl (za rfl (zz (kh1 (zc fun _ kh3 => Sr fun _ kh4 => zg hb2 rfl ?_))));refine WL.call hasF183 rfl rfl (mayBe_spec s _ hs0) fun v w1 h' => ?_;obtain ⟨rfl, hC9⟩ := h';have hch := hch.ta hC9;have hb2 := hb2.k0 hC9;have hb3 := hb3.k0 hC9;refine WL.ev (Ev.not rfl) rfl ?_;refine zm rfl ?_;refine zb ?_ ?_<;>intro hg1<;>try simp only [qs] at hg1
 ·have hMM : ¬ mayBeP s ∨ ¬ mayQ pn pi := .inl hg1
  refine zv rfl (zv rfl (zv rfl (zt rfl rfl (zz (kh4 ?_)))));refine CW.condT rfl ?_;refine Sr fun _ kh6 => za rfl (za rfl (zz (kh6 ?_)));refine zr (zr2 rfl rfl rfl ?_)
  first | (exfalso; omega) | (refine ⟨?_, hch⟩; unfold verdP; rw [if_pos hMM]; rfl) | (refine ⟨?_, hch⟩; unfold verdP; rw [if_neg hMM]; (repeat (first | rw [if_pos (by omega)] | rw [if_neg (by omega)])); rfl)
 ·have hM1 : mayBeP s := hg1
  refine zw rfl (zg hb3 rfl (zw rfl ?_));refine WL.call hasF105 rfl rfl (May_spec pn pi _) fun v w2 h' => ?_;obtain ⟨rfl, hC13⟩ := h';have hch := hch.ta hC13;have hb2 := hb2.k0 hC13;have hb3 := hb3.k0 hC13;refine zw rfl ?_;refine WL.ev (Ev.not rfl) rfl ?_;refine ze rfl rfl (zz (kh4 ?_));refine zy rfl ?_ ?_<;>intro hc2<;>try simp only [qs] at hc2
  ·have hMM : ¬ mayBeP s ∨ ¬ mayQ pn pi := .inr hc2
   refine Sr fun _ kh8 => za rfl (za rfl (zz (kh8 ?_)));refine zr (zr2 rfl rfl rfl ?_)
   first | (exfalso; omega) | (refine ⟨?_, hch⟩; unfold verdP; rw [if_pos hMM]; rfl) | (refine ⟨?_, hch⟩; unfold verdP; rw [if_neg hMM]; (repeat (first | rw [if_pos (by omega)] | rw [if_neg (by omega)])); rfl)
  ·have hMM : ¬ (¬ mayBeP s ∨ ¬ mayQ pn pi) := fun q => q.elim (fun z => z hM1) (fun z => z hc2);refine zkk ?_
   refine kh3 (zc fun _ kh10 => ?_);refine CW.regionSC hmix (by kernel_rfl) fun kR11 kr11 hdr => ?_;have hch := hch.ta hdr;have hb2 := hb2.k0 hdr;have hb3 := hb3.k0 hdr;refine WS.ev (Ev.fieldAddr rfl) rfl ?_;refine WS.ev (Ev.load rfl rfl (hb2.at_ rfl)) rfl ?_;refine WS.ev (Ev.gtr rfl rfl) rfl ?_;refine ym rfl ?_;refine WS.boolCase (fun hg3 => ?_) (fun hg3 => ?_)
   ·(try simp only [qs] at hg3);refine yw rfl ?_
    refine WS.ev (Ev.fieldAddr rfl) rfl ?_;refine yw rfl ?_;refine WS.ev (Ev.load rfl rfl (hb3.at_ rfl)) rfl ?_;refine yw rfl ?_;refine WS.ev (Ev.eql rfl rfl) rfl ?_;refine yt rfl rfl ?_;refine WS.ev (Ev.fieldAddr rfl) rfl ?_;refine WS.ev (Ev.load rfl rfl (hb2.at_ rfl)) rfl ?_;refine WS.ev (Ev.gtr rfl rfl) rfl ?_;refine ym rfl ?_;refine WS.boolCase (fun hg4 => ?_) (fun hg4 => ?_)
    ·(try simp only [qs] at hg4);refine yw rfl ?_
     refine WS.ev (Ev.fieldAddr rfl) rfl ?_;refine yw rfl ?_;refine WS.ev (Ev.load rfl rfl (hb3.at_ rfl)) rfl ?_;refine yw rfl ?_;refine WS.ev (Ev.eql rfl rfl) rfl ?_;refine yt rfl rfl (ya rfl (ya rfl ?_));refine WS.nil (kr11 _ _ ?_);refine kh10 (zc fun _ kh12 => ?_);refine CW.block ?_;refine zc fun _ kh13 => Sr fun _ kh14 => zf rfl (zl hb2 rfl rfl ?_);refine WL.ev (Ev.gtr rfl rfl) rfl ?_;refine zm rfl ?_;refine zb ?_ ?_<;>intro hg5<;>try simp only [qs] at hg5
     ·refine zw rfl (zf rfl (zw rfl (zl hb3 rfl rfl (zw rfl (zq rfl rfl (zt rfl rfl (za rfl (zz (kh14 ?_)))))))));refine zy rfl ?_ ?_<;>intro hc6<;>try simp only [qs] at hc6
      ·refine zkk ?_
       refine kh13 ?_;refine zy rfl ?_ ?_<;>intro hc7<;>try simp only [qs] at hc7
       ·refine Sr fun _ kh16 => ?_
        refine WL.call hasF103 rfl rfl (NaN_spec _) fun v w3 h' => ?_;obtain ⟨rfl, rfl⟩ := h';refine za rfl (za rfl (zz (kh16 ?_)));refine zr (zr2 rfl rfl rfl ?_)
        first | (exfalso; omega) | (refine ⟨?_, hch⟩; unfold verdP; rw [if_pos hMM]; rfl) | (refine ⟨?_, hch⟩; unfold verdP; rw [if_neg hMM]; (repeat (first | rw [if_pos (by omega)] | rw [if_neg (by omega)])); rfl)
       ·refine Sr fun _ kh18 => zm rfl (za rfl (zz (kh18 ?_)));refine zy rfl ?_ ?_<;>intro hc8<;>try simp only [qs] at hc8
        ·refine Sr fun _ kh20 => ?_
         refine WL.call hasF184 rfl rfl (Inf_spec 1 _) fun v w4 h' => ?_;obtain ⟨rfl, rfl⟩ := h';refine za rfl (za rfl (zz (kh20 ?_)));refine zr (zr2 rfl rfl rfl ?_)
         first | (exfalso; omega) | (refine ⟨?_, hch⟩; unfold verdP; rw [if_pos hMM]; rfl) | (refine ⟨?_, hch⟩; unfold verdP; rw [if_neg hMM]; (repeat (first | rw [if_pos (by omega)] | rw [if_neg (by omega)])); rfl)
        ·refine Sr fun _ kh22 => zm rfl (za rfl (zz (kh22 ?_)));refine zy rfl ?_ ?_<;>intro hc9<;>try simp only [qs] at hc9
         ·refine Sr fun _ kh24 => ?_
          refine WL.call hasF184 rfl rfl (Inf_spec (-1) _) fun v w5 h' => ?_;obtain ⟨rfl, rfl⟩ := h';refine za rfl (za rfl (zz (kh24 ?_)));refine zr (zr2 rfl rfl rfl ?_)
          first | (exfalso; omega) | (refine ⟨?_, hch⟩; unfold verdP; rw [if_pos hMM]; rfl) | (refine ⟨?_, hch⟩; unfold verdP; rw [if_neg hMM]; (repeat (first | rw [if_pos (by omega)] | rw [if_neg (by omega)])); rfl)
         ·refine zkk ?_
          refine kh12 (Sr fun _ kh26 => za rfl (za rfl (zz (kh26 ?_))));refine zr (zr2 rfl rfl rfl ?_)
          first | (exfalso; omega) | (refine ⟨?_, hch⟩; unfold verdP; rw [if_pos hMM]; rfl) | (refine ⟨?_, hch⟩; unfold verdP; rw [if_neg hMM]; (repeat (first | rw [if_pos (by omega)] | rw [if_neg (by omega)])); rfl)
      ·refine zR fun _ kr28 => ?_
       refine zm rfl (zm rfl ?_);refine zb ?_ ?_<;>intro hg10<;>try simp only [qs] at hg10
       ·refine zw rfl (zm rfl (zt rfl rfl (za rfl ?_)));refine WL.nil (kr28 _ _ _ (kh13 ?_));refine zy rfl ?_ ?_<;>intro hc11<;>try simp only [qs] at hc11
        ·refine Sr fun _ kh29 => ?_
         refine WL.call hasF103 rfl rfl (NaN_spec _) fun v w6 h' => ?_;obtain ⟨rfl, rfl⟩ := h';refine za rfl (za rfl (zz (kh29 ?_)));refine zr (zr2 rfl rfl rfl ?_)
         first | (exfalso; omega) | (refine ⟨?_, hch⟩; unfold verdP; rw [if_pos hMM]; rfl) | (refine ⟨?_, hch⟩; unfold verdP; rw [if_neg hMM]; (repeat (first | rw [if_pos (by omega)] | rw [if_neg (by omega)])); rfl)
        ·refine Sr fun _ kh31 => zm rfl (za rfl (zz (kh31 ?_)));refine zy rfl ?_ ?_<;>intro hc12<;>try simp only [qs] at hc12
         ·refine Sr fun _ kh33 => ?_
          refine WL.call hasF184 rfl rfl (Inf_spec 1 _) fun v w7 h' => ?_;obtain ⟨rfl, rfl⟩ := h';refine za rfl (za rfl (zz (kh33 ?_)));refine zr (zr2 rfl rfl rfl ?_)
          first | (exfalso; omega) | (refine ⟨?_, hch⟩; unfold verdP; rw [if_pos hMM]; rfl) | (refine ⟨?_, hch⟩; unfold verdP; rw [if_neg hMM]; (repeat (first | rw [if_pos (by omega)] | rw [if_neg (by omega)])); rfl)
         ·refine Sr fun _ kh35 => zm rfl (za rfl (zz (kh35 ?_)));refine zy rfl ?_ ?_<;>intro hc13<;>try simp only [qs] at hc13
          ·refine Sr fun _ kh37 => ?_
           refine WL.call hasF184 rfl rfl (Inf_spec (-1) _) fun v w8 h' => ?_;obtain ⟨rfl, rfl⟩ := h';refine za rfl (za rfl (zz (kh37 ?_)));refine zr (zr2 rfl rfl rfl ?_)
           first | (exfalso; omega) | (refine ⟨?_, hch⟩; unfold verdP; rw [if_pos hMM]; rfl) | (refine ⟨?_, hch⟩; unfold verdP; rw [if_neg hMM]; (repeat (first | rw [if_pos (by omega)] | rw [if_neg (by omega)])); rfl)
          ·refine zkk ?_
           refine kh12 (Sr fun _ kh39 => za rfl (za rfl (zz (kh39 ?_))));refine zr (zr2 rfl rfl rfl ?_)
           first | (exfalso; omega) | (refine ⟨?_, hch⟩; unfold verdP; rw [if_pos hMM]; rfl) | (refine ⟨?_, hch⟩; unfold verdP; rw [if_neg hMM]; (repeat (first | rw [if_pos (by omega)] | rw [if_neg (by omega)])); rfl)
       ·refine zv rfl (ze rfl rfl (za rfl ?_));refine WL.nil (kr28 _ _ _ (kh13 ?_));refine CW.condF rfl ?_
        refine Sr fun _ kh41 => zm rfl (za rfl (zz (kh41 ?_)));refine zy rfl ?_ ?_<;>intro hc14<;>try simp only [qs] at hc14
        ·refine Sr fun _ kh43 => ?_
         refine WL.call hasF184 rfl rfl (Inf_spec 1 _) fun v w9 h' => ?_;obtain ⟨rfl, rfl⟩ := h';refine za rfl (za rfl (zz (kh43 ?_)));refine zr (zr2 rfl rfl rfl ?_)
         first | (exfalso; omega) | (refine ⟨?_, hch⟩; unfold verdP; rw [if_pos hMM]; rfl) | (refine ⟨?_, hch⟩; unfold verdP; rw [if_neg hMM]; (repeat (first | rw [if_pos (by omega)] | rw [if_neg (by omega)])); rfl)
        ·refine Sr fun _ kh45 => zm rfl (za rfl (zz (kh45 ?_)));refine zy rfl ?_ ?_<;>intro hc15<;>try simp only [qs] at hc15
         ·refine Sr fun _ kh47 => ?_
          refine WL.call hasF184 rfl rfl (Inf_spec (-1) _) fun v w10 h' => ?_;obtain ⟨rfl, rfl⟩ := h';refine za rfl (za rfl (zz (kh47 ?_)));refine zr (zr2 rfl rfl rfl ?_)
          first | (exfalso; omega) | (refine ⟨?_, hch⟩; unfold verdP; rw [if_pos hMM]; rfl) | (refine ⟨?_, hch⟩; unfold verdP; rw [if_neg hMM]; (repeat (first | rw [if_pos (by omega)] | rw [if_neg (by omega)])); rfl)
         ·refine zkk ?_
          refine kh12 (Sr fun _ kh49 => za rfl (za rfl (zz (kh49 ?_))));refine zr (zr2 rfl rfl rfl ?_)
          first | (exfalso; omega) | (refine ⟨?_, hch⟩; unfold verdP; rw [if_pos hMM]; rfl) | (refine ⟨?_, hch⟩; unfold verdP; rw [if_neg hMM]; (repeat (first | rw [if_pos (by omega)] | rw [if_neg (by omega)])); rfl)
     ·refine zv rfl (zv rfl (zv rfl (ze rfl rfl (za rfl (zz (kh14 ?_))))));refine CW.condF rfl ?_
      refine zR fun _ kr51 => ?_;refine zm rfl (zm rfl ?_);refine zb ?_ ?_<;>intro hg16<;>try simp only [qs] at hg16
      ·refine zw rfl (zm rfl (zt rfl rfl (za rfl ?_)));refine WL.nil (kr51 _ _ _ (kh13 ?_));refine zy rfl ?_ ?_<;>intro hc17<;>try simp only [qs] at hc17
       ·refine Sr fun _ kh52 => ?_
        refine WL.call hasF103 rfl rfl (NaN_spec _) fun v w11 h' => ?_;obtain ⟨rfl, rfl⟩ := h';refine za rfl (za rfl (zz (kh52 ?_)));refine zr (zr2 rfl rfl rfl ?_)
        first | (exfalso; omega) | (refine ⟨?_, hch⟩; unfold verdP; rw [if_pos hMM]; rfl) | (refine ⟨?_, hch⟩; unfold verdP; rw [if_neg hMM]; (repeat (first | rw [if_pos (by omega)] | rw [if_neg (by omega)])); rfl)
       ·refine Sr fun _ kh54 => zm rfl (za rfl (zz (kh54 ?_)));refine zy rfl ?_ ?_<;>intro hc18<;>try simp only [qs] at hc18
        ·refine Sr fun _ kh56 => ?_
         refine WL.call hasF184 rfl rfl (Inf_spec 1 _) fun v w12 h' => ?_;obtain ⟨rfl, rfl⟩ := h';refine za rfl (za rfl (zz (kh56 ?_)));refine zr (zr2 rfl rfl rfl ?_)
         first | (exfalso; omega) | (refine ⟨?_, hch⟩; unfold verdP; rw [if_pos hMM]; rfl) | (refine ⟨?_, hch⟩; unfold verdP; rw [if_neg hMM]; (repeat (first | rw [if_pos (by omega)] | rw [if_neg (by omega)])); rfl)
        ·refine Sr fun _ kh58 => zm rfl (za rfl (zz (kh58 ?_)));refine zy rfl ?_ ?_<;>intro hc19<;>try simp only [qs] at hc19
         ·refine Sr fun _ kh60 => ?_
          refine WL.call hasF184 rfl rfl (Inf_spec (-1) _) fun v w13 h' => ?_;obtain ⟨rfl, rfl⟩ := h';refine za rfl (za rfl (zz (kh60 ?_)));refine zr (zr2 rfl rfl rfl ?_)
          first | (exfalso; omega) | (refine ⟨?_, hch⟩; unfold verdP; rw [if_pos hMM]; rfl) | (refine ⟨?_, hch⟩; unfold verdP; rw [if_neg hMM]; (repeat (first | rw [if_pos (by omega)] | rw [if_neg (by omega)])); rfl)
         ·refine zkk ?_
          refine kh12 (Sr fun _ kh62 => za rfl (za rfl (zz (kh62 ?_))));refine zr (zr2 rfl rfl rfl ?_)
          first | (exfalso; omega) | (refine ⟨?_, hch⟩; unfold verdP; rw [if_pos hMM]; rfl) | (refine ⟨?_, hch⟩; unfold verdP; rw [if_neg hMM]; (repeat (first | rw [if_pos (by omega)] | rw [if_neg (by omega)])); rfl)
      ·refine zv rfl (ze rfl rfl (za rfl ?_));refine WL.nil (kr51 _ _ _ (kh13 ?_));refine CW.condF rfl ?_
       refine Sr fun _ kh64 => zm rfl (za rfl (zz (kh64 ?_)));refine zy rfl ?_ ?_<;>intro hc20<;>try simp only [qs] at hc20
       ·refine Sr fun _ kh66 => ?_
        refine WL.call hasF184 rfl rfl (Inf_spec 1 _) fun v w14 h' => ?_;obtain ⟨rfl, rfl⟩ := h';refine za rfl (za rfl (zz (kh66 ?_)));refine zr (zr2 rfl rfl rfl ?_)
        first | (exfalso; omega) | (refine ⟨?_, hch⟩; unfold verdP; rw [if_pos hMM]; rfl) | (refine ⟨?_, hch⟩; unfold verdP; rw [if_neg hMM]; (repeat (first | rw [if_pos (by omega)] | rw [if_neg (by omega)])); rfl)
       ·refine Sr fun _ kh68 => zm rfl (za rfl (zz (kh68 ?_)));refine zy rfl ?_ ?_<;>intro hc21<;>try simp only [qs] at hc21
        ·refine Sr fun _ kh70 => ?_
         refine WL.call hasF184 rfl rfl (Inf_spec (-1) _) fun v w15 h' => ?_;obtain ⟨rfl, rfl⟩ := h';refine za rfl (za rfl (zz (kh70 ?_)));refine zr (zr2 rfl rfl rfl ?_)
         first | (exfalso; omega) | (refine ⟨?_, hch⟩; unfold verdP; rw [if_pos hMM]; rfl) | (refine ⟨?_, hch⟩; unfold verdP; rw [if_neg hMM]; (repeat (first | rw [if_pos (by omega)] | rw [if_neg (by omega)])); rfl)
        ·refine zkk ?_
         refine kh12 (Sr fun _ kh72 => za rfl (za rfl (zz (kh72 ?_))));refine zr (zr2 rfl rfl rfl ?_)
         first | (exfalso; omega) | (refine ⟨?_, hch⟩; unfold verdP; rw [if_pos hMM]; rfl) | (refine ⟨?_, hch⟩; unfold verdP; rw [if_neg hMM]; (repeat (first | rw [if_pos (by omega)] | rw [if_neg (by omega)])); rfl)
    ·(try simp only [qs] at hg4);refine yv rfl (yv rfl (yv rfl (ye rfl rfl (ya rfl (ya rfl ?_)))));refine WS.nil (kr11 _ _ ?_);refine kh10 (zc fun _ kh74 => ?_);refine CW.block ?_
     refine zc fun _ kh75 => Sr fun _ kh76 => zf rfl (zl hb2 rfl rfl ?_);refine WL.ev (Ev.gtr rfl rfl) rfl ?_;refine zm rfl ?_;refine zb ?_ ?_<;>intro hg22<;>try simp only [qs] at hg22
     ·refine zw rfl (zf rfl (zw rfl (zl hb3 rfl rfl (zw rfl (zq rfl rfl (zt rfl rfl (za rfl (zz (kh76 ?_)))))))));refine zy rfl ?_ ?_<;>intro hc23<;>try simp only [qs] at hc23
      ·refine zkk ?_
       refine kh75 ?_;refine zy rfl ?_ ?_<;>intro hc24<;>try simp only [qs] at hc24
       ·refine Sr fun _ kh78 => ?_
        refine WL.call hasF103 rfl rfl (NaN_spec _) fun v w16 h' => ?_;obtain ⟨rfl, rfl⟩ := h';refine za rfl (za rfl (zz (kh78 ?_)));refine zr (zr2 rfl rfl rfl ?_)
        first | (exfalso; omega) | (refine ⟨?_, hch⟩; unfold verdP; rw [if_pos hMM]; rfl) | (refine ⟨?_, hch⟩; unfold verdP; rw [if_neg hMM]; (repeat (first | rw [if_pos (by omega)] | rw [if_neg (by omega)])); rfl)
       ·refine Sr fun _ kh80 => zm rfl (za rfl (zz (kh80 ?_)));refine zy rfl ?_ ?_<;>intro hc25<;>try simp only [qs] at hc25
        ·refine Sr fun _ kh82 => ?_
         refine WL.call hasF184 rfl rfl (Inf_spec 1 _) fun v w17 h' => ?_;obtain ⟨rfl, rfl⟩ := h';refine za rfl (za rfl (zz (kh82 ?_)));refine zr (zr2 rfl rfl rfl ?_)
         first | (exfalso; omega) | (refine ⟨?_, hch⟩; unfold verdP; rw [if_pos hMM]; rfl) | (refine ⟨?_, hch⟩; unfold verdP; rw [if_neg hMM]; (repeat (first | rw [if_pos (by omega)] | rw [if_neg (by omega)])); rfl)
        ·refine Sr fun _ kh84 => zm rfl (za rfl (zz (kh84 ?_)));refine CW.condF rfl ?_
         refine zkk ?_;refine kh74 (Sr fun _ kh86 => za rfl (za rfl (zz (kh86 ?_))));refine zr (zr2 rfl rfl rfl ?_)
         first | (exfalso; omega) | (refine ⟨?_, hch⟩; unfold verdP; rw [if_pos hMM]; rfl) | (refine ⟨?_, hch⟩; unfold verdP; rw [if_neg hMM]; (repeat (first | rw [if_pos (by omega)] | rw [if_neg (by omega)])); rfl)
      ·refine zR fun _ kr88 => ?_
       refine zm rfl (zm rfl ?_);refine zb ?_ ?_<;>intro hg26<;>try simp only [qs] at hg26
       ·refine zw rfl (zm rfl (zt rfl rfl (za rfl ?_)));refine WL.nil (kr88 _ _ _ (kh75 ?_));refine CW.condF rfl ?_
        refine Sr fun _ kh89 => zm rfl (za rfl (zz (kh89 ?_)));refine zy rfl ?_ ?_<;>intro hc27<;>try simp only [qs] at hc27
        ·refine Sr fun _ kh91 => ?_
         refine WL.call hasF184 rfl rfl (Inf_spec 1 _) fun v w18 h' => ?_;obtain ⟨rfl, rfl⟩ := h';refine za rfl (za rfl (zz (kh91 ?_)));refine zr (zr2 rfl rfl rfl ?_)
         first | (exfalso; omega) | (refine ⟨?_, hch⟩; unfold verdP; rw [if_pos hMM]; rfl) | (refine ⟨?_, hch⟩; unfold verdP; rw [if_neg hMM]; (repeat (first | rw [if_pos (by omega)] | rw [if_neg (by omega)])); rfl)
        ·refine Sr fun _ kh93 => zm rfl (za rfl (zz (kh93 ?_)));refine CW.condF rfl ?_
         refine zkk ?_;refine kh74 (Sr fun _ kh95 => za rfl (za rfl (zz (kh95 ?_))));refine zr (zr2 rfl rfl rfl ?_)
         first | (exfalso; omega) | (refine ⟨?_, hch⟩; unfold verdP; rw [if_pos hMM]; rfl) | (refine ⟨?_, hch⟩; unfold verdP; rw [if_neg hMM]; (repeat (first | rw [if_pos (by omega)] | rw [if_neg (by omega)])); rfl)
       ·refine zv rfl (ze rfl rfl (za rfl ?_));refine WL.nil (kr88 _ _ _ (kh75 ?_));refine CW.condF rfl ?_
        refine Sr fun _ kh97 => zm rfl (za rfl (zz (kh97 ?_)));refine zy rfl ?_ ?_<;>intro hc28<;>try simp only [qs] at hc28
        ·refine Sr fun _ kh99 => ?_
         refine WL.call hasF184 rfl rfl (Inf_spec 1 _) fun v w19 h' => ?_;obtain ⟨rfl, rfl⟩ := h';refine za rfl (za rfl (zz (kh99 ?_)));refine zr (zr2 rfl rfl rfl ?_)
         first | (exfalso; omega) | (refine ⟨?_, hch⟩; unfold verdP; rw [if_pos hMM]; rfl) | (refine ⟨?_, hch⟩; unfold verdP; rw [if_neg hMM]; (repeat (first | rw [if_pos (by omega)] | rw [if_neg (by omega)])); rfl)
        ·refine Sr fun _ kh101 => zm rfl (za rfl (zz (kh101 ?_)));refine CW.condF rfl ?_
         refine zkk ?_;refine kh74 (Sr fun _ kh103 => za rfl (za rfl (zz (kh103 ?_))));refine zr (zr2 rfl rfl rfl ?_)
         first | (exfalso; omega) | (refine ⟨?_, hch⟩; unfold verdP; rw [if_pos hMM]; rfl) | (refine ⟨?_, hch⟩; unfold verdP; rw [if_neg hMM]; (repeat (first | rw [if_pos (by omega)] | rw [if_neg (by omega)])); rfl)
     ·refine zv rfl (zv rfl (zv rfl (ze rfl rfl (za rfl (zz (kh76 ?_))))));refine CW.condF rfl ?_
      refine zR fun _ kr105 => ?_;refine zm rfl (zm rfl ?_);refine zb ?_ ?_<;>intro hg29<;>try simp only [qs] at hg29
      ·refine zw rfl (zm rfl (zt rfl rfl (za rfl ?_)));refine WL.nil (kr105 _ _ _ (kh75 ?_));refine CW.condF rfl ?_
       refine Sr fun _ kh106 => zm rfl (za rfl (zz (kh106 ?_)));refine zy rfl ?_ ?_<;>intro hc30<;>try simp only [qs] at hc30
       ·refine Sr fun _ kh108 => ?_
        refine WL.call hasF184 rfl rfl (Inf_spec 1 _) fun v w20 h' => ?_;obtain ⟨rfl, rfl⟩ := h';refine za rfl (za rfl (zz (kh108 ?_)));refine zr (zr2 rfl rfl rfl ?_)
        first | (exfalso; omega) | (refine ⟨?_, hch⟩; unfold verdP; rw [if_pos hMM]; rfl) | (refine ⟨?_, hch⟩; unfold verdP; rw [if_neg hMM]; (repeat (first | rw [if_pos (by omega)] | rw [if_neg (by omega)])); rfl)
       ·refine Sr fun _ kh110 => zm rfl (za rfl (zz (kh110 ?_)));refine CW.condF rfl ?_
        refine zkk ?_;refine kh74 (Sr fun _ kh112 => za rfl (za rfl (zz (kh112 ?_))));refine zr (zr2 rfl rfl rfl ?_)
        first | (exfalso; omega) | (refine ⟨?_, hch⟩; unfold verdP; rw [if_pos hMM]; rfl) | (refine ⟨?_, hch⟩; unfold verdP; rw [if_neg hMM]; (repeat (first | rw [if_pos (by omega)] | rw [if_neg (by omega)])); rfl)
      ·refine zv rfl (ze rfl rfl (za rfl ?_));refine WL.nil (kr105 _ _ _ (kh75 ?_));refine CW.condF rfl ?_
       refine Sr fun _ kh114 => zm rfl (za rfl (zz (kh114 ?_)));refine zy rfl ?_ ?_<;>intro hc31<;>try simp only [qs] at hc31
       ·refine Sr fun _ kh116 => ?_
        refine WL.call hasF184 rfl rfl (Inf_spec 1 _) fun v w21 h' => ?_;obtain ⟨rfl, rfl⟩ := h';refine za rfl (za rfl (zz (kh116 ?_)));refine zr (zr2 rfl rfl rfl ?_)
        first | (exfalso; omega) | (refine ⟨?_, hch⟩; unfold verdP; rw [if_pos hMM]; rfl) | (refine ⟨?_, hch⟩; unfold verdP; rw [if_neg hMM]; (repeat (first | rw [if_pos (by omega)] | rw [if_neg (by omega)])); rfl)
       ·refine Sr fun _ kh118 => zm rfl (za rfl (zz (kh118 ?_)));refine CW.condF rfl ?_
        refine zkk ?_;refine kh74 (Sr fun _ kh120 => za rfl (za rfl (zz (kh120 ?_))));refine zr (zr2 rfl rfl rfl ?_)
        first | (exfalso; omega) | (refine ⟨?_, hch⟩; unfold verdP; rw [if_pos hMM]; rfl) | (refine ⟨?_, hch⟩; unfold verdP; rw [if_neg hMM]; (repeat (first | rw [if_pos (by omega)] | rw [if_neg (by omega)])); rfl)
   ·(try simp only [qs] at hg3);refine yv rfl (yv rfl (yv rfl (ye rfl rfl ?_)));refine WS.ev (Ev.fieldAddr rfl) rfl ?_
    refine WS.ev (Ev.load rfl rfl (hb2.at_ rfl)) rfl ?_;refine WS.ev (Ev.gtr rfl rfl) rfl ?_;refine ym rfl ?_;refine WS.boolCase (fun hg32 => ?_) (fun hg32 => ?_)
    ·(try simp only [qs] at hg32);refine yw rfl ?_
     refine WS.ev (Ev.fieldAddr rfl) rfl ?_;refine yw rfl ?_;refine WS.ev (Ev.load rfl rfl (hb3.at_ rfl)) rfl ?_;refine yw rfl ?_;refine WS.ev (Ev.eql rfl rfl) rfl ?_;refine yt rfl rfl (ya rfl (ya rfl ?_));refine WS.nil (kr11 _ _ ?_);refine kh10 (zc fun _ kh122 => ?_);refine CW.block ?_;refine zc fun _ kh123 => Sr fun _ kh124 => zf rfl (zl hb2 rfl rfl ?_);refine WL.ev (Ev.gtr rfl rfl) rfl ?_;refine zm rfl ?_;refine zb ?_ ?_<;>intro hg33<;>try simp only [qs] at hg33
     ·refine zw rfl (zf rfl (zw rfl (zl hb3 rfl rfl (zw rfl (zq rfl rfl (zt rfl rfl (za rfl (zz (kh124 ?_)))))))));refine zy rfl ?_ ?_<;>intro hc34<;>try simp only [qs] at hc34
      ·refine zkk ?_
       refine kh123 ?_;refine zy rfl ?_ ?_<;>intro hc35<;>try simp only [qs] at hc35
       ·refine Sr fun _ kh126 => ?_
        refine WL.call hasF103 rfl rfl (NaN_spec _) fun v w22 h' => ?_;obtain ⟨rfl, rfl⟩ := h';refine za rfl (za rfl (zz (kh126 ?_)));refine zr (zr2 rfl rfl rfl ?_)
        first | (exfalso; omega) | (refine ⟨?_, hch⟩; unfold verdP; rw [if_pos hMM]; rfl) | (refine ⟨?_, hch⟩; unfold verdP; rw [if_neg hMM]; (repeat (first | rw [if_pos (by omega)] | rw [if_neg (by omega)])); rfl)
       ·refine Sr fun _ kh128 => zm rfl (za rfl (zz (kh128 ?_)));refine CW.condF rfl ?_
        refine Sr fun _ kh130 => zm rfl (za rfl (zz (kh130 ?_)));refine zy rfl ?_ ?_<;>intro hc36<;>try simp only [qs] at hc36
        ·refine Sr fun _ kh132 => ?_
         refine WL.call hasF184 rfl rfl (Inf_spec (-1) _) fun v w23 h' => ?_;obtain ⟨rfl, rfl⟩ := h';refine za rfl (za rfl (zz (kh132 ?_)));refine zr (zr2 rfl rfl rfl ?_)
         first | (exfalso; omega) | (refine ⟨?_, hch⟩; unfold verdP; rw [if_pos hMM]; rfl) | (refine ⟨?_, hch⟩; unfold verdP; rw [if_neg hMM]; (repeat (first | rw [if_pos (by omega)] | rw [if_neg (by omega)])); rfl)
        ·refine zkk ?_
         refine kh122 (Sr fun _ kh134 => za rfl (za rfl (zz (kh134 ?_))));refine zr (zr2 rfl rfl rfl ?_)
         first | (exfalso; omega) | (refine ⟨?_, hch⟩; unfold verdP; rw [if_pos hMM]; rfl) | (refine ⟨?_, hch⟩; unfold verdP; rw [if_neg hMM]; (repeat (first | rw [if_pos (by omega)] | rw [if_neg (by omega)])); rfl)
      ·refine zR fun _ kr136 => ?_
       refine zm rfl (zm rfl (zv rfl (ze rfl rfl (za rfl ?_))));refine WL.nil (kr136 _ _ _ (kh123 ?_));refine CW.condF rfl ?_;refine Sr fun _ kh137 => zm rfl (za rfl (zz (kh137 ?_)));refine CW.condF rfl ?_;refine Sr fun _ kh139 => zm rfl (za rfl (zz (kh139 ?_)));refine zy rfl ?_ ?_<;>intro hc37<;>try simp only [qs] at hc37
       ·refine Sr fun _ kh141 => ?_
        refine WL.call hasF184 rfl rfl (Inf_spec (-1) _) fun v w24 h' => ?_;obtain ⟨rfl, rfl⟩ := h';refine za rfl (za rfl (zz (kh141 ?_)));refine zr (zr2 rfl rfl rfl ?_)
        first | (exfalso; omega) | (refine ⟨?_, hch⟩; unfold verdP; rw [if_pos hMM]; rfl) | (refine ⟨?_, hch⟩; unfold verdP; rw [if_neg hMM]; (repeat (first | rw [if_pos (by omega)] | rw [if_neg (by omega)])); rfl)
       ·refine zkk ?_
        refine kh122 (Sr fun _ kh143 => za rfl (za rfl (zz (kh143 ?_))));refine zr (zr2 rfl rfl rfl ?_)
        first | (exfalso; omega) | (refine ⟨?_, hch⟩; unfold verdP; rw [if_pos hMM]; rfl) | (refine ⟨?_, hch⟩; unfold verdP; rw [if_neg hMM]; (repeat (first | rw [if_pos (by omega)] | rw [if_neg (by omega)])); rfl)
     ·refine zv rfl (zv rfl (zv rfl (ze rfl rfl (za rfl (zz (kh124 ?_))))));refine CW.condF rfl ?_
      refine zR fun _ kr145 => ?_;refine zm rfl (zm rfl (zv rfl (ze rfl rfl (za rfl ?_))));refine WL.nil (kr145 _ _ _ (kh123 ?_));refine CW.condF rfl ?_;refine Sr fun _ kh146 => zm rfl (za rfl (zz (kh146 ?_)));refine CW.condF rfl ?_;refine Sr fun _ kh148 => zm rfl (za rfl (zz (kh148 ?_)));refine zy rfl ?_ ?_<;>intro hc38<;>try simp only [qs] at hc38
      ·refine Sr fun _ kh150 => ?_
       refine WL.call hasF184 rfl rfl (Inf_spec (-1) _) fun v w25 h' => ?_;obtain ⟨rfl, rfl⟩ := h';refine za rfl (za rfl (zz (kh150 ?_)));refine zr (zr2 rfl rfl rfl ?_)
       first | (exfalso; omega) | (refine ⟨?_, hch⟩; unfold verdP; rw [if_pos hMM]; rfl) | (refine ⟨?_, hch⟩; unfold verdP; rw [if_neg hMM]; (repeat (first | rw [if_pos (by omega)] | rw [if_neg (by omega)])); rfl)
      ·refine zkk ?_
       refine kh122 (Sr fun _ kh152 => za rfl (za rfl (zz (kh152 ?_))));refine zr (zr2 rfl rfl rfl ?_)
       first | (exfalso; omega) | (refine ⟨?_, hch⟩; unfold verdP; rw [if_pos hMM]; rfl) | (refine ⟨?_, hch⟩; unfold verdP; rw [if_neg hMM]; (repeat (first | rw [if_pos (by omega)] | rw [if_neg (by omega)])); rfl)
    ·(try simp only [qs] at hg32);refine yv rfl (yv rfl (yv rfl (ye rfl rfl (ya rfl (ya rfl ?_)))));refine WS.nil (kr11 _ _ ?_);refine kh10 (zc fun _ kh154 => ?_);refine CW.block ?_
     refine zc fun _ kh155 => Sr fun _ kh156 => zf rfl (zl hb2 rfl rfl ?_);refine WL.ev (Ev.gtr rfl rfl) rfl ?_;refine zm rfl ?_;refine zb ?_ ?_<;>intro hg39<;>try simp only [qs] at hg39
     ·refine zw rfl (zf rfl (zw rfl (zl hb3 rfl rfl (zw rfl (zq rfl rfl (zt rfl rfl (za rfl (zz (kh156 ?_)))))))));refine zy rfl ?_ ?_<;>intro hc40<;>try simp only [qs] at hc40
      ·refine zkk ?_
       refine kh155 ?_;refine zy rfl ?_ ?_<;>intro hc41<;>try simp only [qs] at hc41
       ·refine Sr fun _ kh158 => ?_
        refine WL.call hasF103 rfl rfl (NaN_spec _) fun v w26 h' => ?_;obtain ⟨rfl, rfl⟩ := h';refine za rfl (za rfl (zz (kh158 ?_)));refine zr (zr2 rfl rfl rfl ?_)
        first | (exfalso; omega) | (refine ⟨?_, hch⟩; unfold verdP; rw [if_pos hMM]; rfl) | (refine ⟨?_, hch⟩; unfold verdP; rw [if_neg hMM]; (repeat (first | rw [if_pos (by omega)] | rw [if_neg (by omega)])); rfl)
       ·refine Sr fun _ kh160 => zm rfl (za rfl (zz (kh160 ?_)));refine CW.condF rfl ?_
        refine Sr fun _ kh162 => zm rfl (za rfl (zz (kh162 ?_)));refine CW.condF rfl ?_;refine zkk ?_;refine kh154 (Sr fun _ kh164 => za rfl (za rfl (zz (kh164 ?_))));refine zr (zr2 rfl rfl rfl ?_)
        first | (exfalso; omega) | (refine ⟨?_, hch⟩; unfold verdP; rw [if_pos hMM]; rfl) | (refine ⟨?_, hch⟩; unfold verdP; rw [if_neg hMM]; (repeat (first | rw [if_pos (by omega)] | rw [if_neg (by omega)])); rfl)
      ·refine zR fun _ kr166 => ?_
       refine zm rfl (zm rfl (zv rfl (ze rfl rfl (za rfl ?_))));refine WL.nil (kr166 _ _ _ (kh155 ?_));refine CW.condF rfl ?_;refine Sr fun _ kh167 => zm rfl (za rfl (zz (kh167 ?_)));refine CW.condF rfl ?_;refine Sr fun _ kh169 => zm rfl (za rfl (zz (kh169 ?_)));refine CW.condF rfl ?_;refine zkk ?_;refine kh154 (Sr fun _ kh171 => za rfl (za rfl (zz (kh171 ?_))));refine zr (zr2 rfl rfl rfl ?_)
       first | (exfalso; omega) | (refine ⟨?_, hch⟩; unfold verdP; rw [if_pos hMM]; rfl) | (refine ⟨?_, hch⟩; unfold verdP; rw [if_neg hMM]; (repeat (first | rw [if_pos (by omega)] | rw [if_neg (by omega)])); rfl)
     ·refine zv rfl (zv rfl (zv rfl (ze rfl rfl (za rfl (zz (kh156 ?_))))));refine CW.condF rfl ?_
      refine zR fun _ kr173 => ?_;refine zm rfl (zm rfl (zv rfl (ze rfl rfl (za rfl ?_))));refine WL.nil (kr173 _ _ _ (kh155 ?_));refine CW.condF rfl ?_;refine Sr fun _ kh174 => zm rfl (za rfl (zz (kh174 ?_)));refine CW.condF rfl ?_;refine Sr fun _ kh176 => zm rfl (za rfl (zz (kh176 ?_)));refine CW.condF rfl ?_;refine zkk ?_;refine kh154 (Sr fun _ kh178 => za rfl (za rfl (zz (kh178 ?_))));refine zr (zr2 rfl rfl rfl ?_)
      first | (exfalso; omega) | (refine ⟨?_, hch⟩; unfold verdP; rw [if_pos hMM]; rfl) | (refine ⟨?_, hch⟩; unfold verdP; rw [if_neg hMM]; (repeat (first | rw [if_pos (by omega)] | rw [if_neg (by omega)])); rfl)

theorem Nought_spec (s : SP) (mode : Int) (w : World) (hs : s.le 1000000000000000) : Ret Tryz.prog 101 [.agg [.int .i64 (s.na : Int), .int .i64 (s.up : Int), .int .i64 (s.dn : Int), .int .i64 (s.mi : Int), .int .i64 (s.pl : Int), .int .i64 (s.al : Int)].toArray, .int .i64 mode] w fun u w' => u = .float .f64 (noughtP s mode) ∧ Chg [] w w' := by
 have hs0 := hs;obtain ⟨hs1, hs2, hs3, hs4, hs5, hs6⟩ := hs;have hch : Chg [] w w := Chg.refl _ _;refine zE2 Tryz.func101 rfl ?_;refine Sr fun _ kh1 => ?_;refine zBh rfl rfl rfl hch fun b2 wm2 hb2 hcm2 hge2 hgehch2 hch => ?_;refine za rfl (zz (kh1 (Sr fun _ kh3 => zf rfl (zl hb2 rfl rfl (zf rfl (zl hb2 rfl rfl ?_))))))
 first | refine WL.ev (Ev.subIn rfl rfl (by omega)) rfl ?_ | refine WL.ev (Ev.sub rfl rfl) rfl ?_
 refine zf rfl (zl hb2 rfl rfl ?_)
 first | refine WL.ev (Ev.subIn rfl rfl (by omega)) rfl ?_ | refine WL.ev (Ev.sub rfl rfl) rfl ?_
 refine zf rfl (zl hb2 rfl rfl ?_)
 first | refine WL.ev (Ev.subIn rfl rfl (by omega)) rfl ?_ | refine WL.ev (Ev.sub rfl rfl) rfl ?_
 refine za rfl (zz (kh3 (zc fun _ kh5 => Sr fun _ kh6 => zg hb2 rfl ?_)));refine WL.call hasF183 rfl rfl (mayBe_spec s _ hs0) fun v w1 h' => ?_;obtain ⟨rfl, hC18⟩ := h';have hch := hch.ta hC18;have hb2 := hb2.k0 hC18;refine zm rfl ?_;refine zb ?_ ?_<;>intro hg1<;>try simp only [qs] at hg1
 ·have hMM : mayBeP s := hg1
  refine zw rfl (zm rfl (zw rfl ?_));refine WL.ev (Ev.gtr rfl rfl) rfl ?_;refine zt rfl rfl (zm rfl ?_);refine zb ?_ ?_<;>intro hg2<;>try simp only [qs] at hg2
  ·refine zw rfl (zf rfl (zw rfl (zl hb2 rfl rfl (zw rfl (zm rfl (zw rfl (zq rfl rfl (zw rfl (zm rfl ?_)))))))));refine zb ?_ ?_<;>intro hg3<;>try simp only [qs] at hg3
   ·refine zv rfl (zv rfl (zv rfl (zv rfl (zv rfl (zu rfl (zu rfl (zv rfl (zw rfl (zt rfl rfl (zt rfl rfl (zz (kh6 ?_))))))))))));refine CW.condT rfl ?_
    refine Sr fun _ kh8 => ?_;refine WL.call hasF186 rfl rfl (Copysign_spec _) fun v w2 h' => ?_;obtain ⟨rfl, rfl⟩ := h';refine za rfl (zz (kh8 ?_));refine zr (zr1 rfl rfl ?_);refine ⟨?_, hch⟩;unfold noughtP
    first | (have qM : ¬ mayBeP s := hMM; rw [if_neg (fun q => qM q.1)]; done) | ((have qM : mayBeP s := hMM); (have qY : s.na + s.up + s.dn < s.al := by omega); (have qX : s.mi + s.na + s.up + s.dn = s.al ∨ s.pl + s.na + s.up + s.dn < s.al ∧ mode = 3 := by (first | exact .inl (by omega) | exact .inr ⟨by omega, by omega⟩)); rw [if_pos ⟨qM, qY, qX⟩]; done) | (rw [if_neg (fun q => by have q2 := q.2; omega)]; done)
   ·refine zw rfl (zf rfl (zw rfl (zl hb2 rfl rfl (zw rfl (zm rfl (zw rfl ?_))))));refine WL.ev (Ev.lss rfl rfl) rfl ?_
    refine zw rfl (zm rfl ?_);refine zb ?_ ?_<;>intro hg4<;>try simp only [qs] at hg4
    ·refine zw rfl (zm rfl (zw rfl (zq rfl rfl (zw rfl (zt rfl rfl (zw rfl (ze rfl rfl (zt rfl rfl (zz (kh6 ?_))))))))));refine zy rfl ?_ ?_<;>intro hc5<;>try simp only [qs] at hc5
     ·refine Sr fun _ kh10 => ?_
      refine WL.call hasF186 rfl rfl (Copysign_spec _) fun v w3 h' => ?_;obtain ⟨rfl, rfl⟩ := h';refine za rfl (zz (kh10 ?_));refine zr (zr1 rfl rfl ?_);refine ⟨?_, hch⟩;unfold noughtP
      first | (have qM : ¬ mayBeP s := hMM; rw [if_neg (fun q => qM q.1)]; done) | ((have qM : mayBeP s := hMM); (have qY : s.na + s.up + s.dn < s.al := by omega); (have qX : s.mi + s.na + s.up + s.dn = s.al ∨ s.pl + s.na + s.up + s.dn < s.al ∧ mode = 3 := by (first | exact .inl (by omega) | exact .inr ⟨by omega, by omega⟩)); rw [if_pos ⟨qM, qY, qX⟩]; done) | (rw [if_neg (fun q => by have q2 := q.2; omega)]; done)
     ·refine zkk ?_
      refine kh5 (Sr fun _ kh12 => za rfl (zz (kh12 ?_)));refine zr (zr1 rfl rfl ?_);refine ⟨?_, hch⟩;unfold noughtP
      first | (have qM : ¬ mayBeP s := hMM; rw [if_neg (fun q => qM q.1)]; done) | ((have qM : mayBeP s := hMM); (have qY : s.na + s.up + s.dn < s.al := by omega); (have qX : s.mi + s.na + s.up + s.dn = s.al ∨ s.pl + s.na + s.up + s.dn < s.al ∧ mode = 3 := by (first | exact .inl (by omega) | exact .inr ⟨by omega, by omega⟩)); rw [if_pos ⟨qM, qY, qX⟩]; done) | (rw [if_neg (fun q => by have q2 := q.2; omega)]; done)
    ·refine zv rfl (zv rfl (zw rfl (ze rfl rfl (zw rfl (ze rfl rfl (zt rfl rfl (zz (kh6 ?_))))))));refine CW.condF rfl ?_
     refine zkk ?_;refine kh5 (Sr fun _ kh14 => za rfl (zz (kh14 ?_)));refine zr (zr1 rfl rfl ?_);refine ⟨?_, hch⟩;unfold noughtP
     first | (have qM : ¬ mayBeP s := hMM; rw [if_neg (fun q => qM q.1)]; done) | ((have qM : mayBeP s := hMM); (have qY : s.na + s.up + s.dn < s.al := by omega); (have qX : s.mi + s.na + s.up + s.dn = s.al ∨ s.pl + s.na + s.up + s.dn < s.al ∧ mode = 3 := by (first | exact .inl (by omega) | exact .inr ⟨by omega, by omega⟩)); rw [if_pos ⟨qM, qY, qX⟩]; done) | (rw [if_neg (fun q => by have q2 := q.2; omega)]; done)
  ·refine zv rfl (zv rfl (zv rfl (zv rfl (zv rfl (zu rfl (zu rfl (zu rfl (zu rfl (zu rfl (zu rfl (zu rfl (zu rfl (zv rfl (ze rfl rfl (zz (kh6 ?_))))))))))))))));refine CW.condF rfl ?_
   refine zkk ?_;refine kh5 (Sr fun _ kh16 => za rfl (zz (kh16 ?_)));refine zr (zr1 rfl rfl ?_);refine ⟨?_, hch⟩;unfold noughtP
   first | (have qM : ¬ mayBeP s := hMM; rw [if_neg (fun q => qM q.1)]; done) | ((have qM : mayBeP s := hMM); (have qY : s.na + s.up + s.dn < s.al := by omega); (have qX : s.mi + s.na + s.up + s.dn = s.al ∨ s.pl + s.na + s.up + s.dn < s.al ∧ mode = 3 := by (first | exact .inl (by omega) | exact .inr ⟨by omega, by omega⟩)); rw [if_pos ⟨qM, qY, qX⟩]; done) | (rw [if_neg (fun q => by have q2 := q.2; omega)]; done)
 ·have hMM : ¬ mayBeP s := hg1
  refine zv rfl (zv rfl (ze rfl rfl (zm rfl (zv rfl (zv rfl (zv rfl (zv rfl (zv rfl (zu rfl (zu rfl (zu rfl (zu rfl (zu rfl (zu rfl (zu rfl (zu rfl (zv rfl (ze rfl rfl (zz (kh6 ?_))))))))))))))))))));refine CW.condF rfl ?_;refine zkk ?_;refine kh5 (Sr fun _ kh18 => za rfl (zz (kh18 ?_)));refine zr (zr1 rfl rfl ?_);refine ⟨?_, hch⟩;unfold noughtP
  first | (have qM : ¬ mayBeP s := hMM; rw [if_neg (fun q => qM q.1)]; done) | ((have qM : mayBeP s := hMM); (have qY : s.na + s.up + s.dn < s.al := by omega); (have qX : s.mi + s.na + s.up + s.dn = s.al ∨ s.pl + s.na + s.up + s.dn < s.al ∧ mode = 3 := by (first | exact .inl (by omega) | exact .inr ⟨by omega, by omega⟩)); rw [if_pos ⟨qM, qY, qX⟩]; done) | (rw [if_neg (fun q => by have q2 := q.2; omega)]; done)

end

/- Package policy: Sift. No condition. -/
section
open Go Sx Wd

/-- A slice of numbers of 64 bits that reads as l. -/
structure NF (w : World) (v : Value) (l : List Nat) : Prop where
  ex : ∃ a c, v = .slice a l.length c ∧ l.length ≤ c ∧ RW w a (l.map f64v)
  hw : ∀ x ∈ l, x < 18446744073709551616
  len : l.length ≤ 70368744177664
theorem NF.keep0 {w w' : World} {v : Value} {l : List Nat} (h : NF w v l) (hc : Chg [] w w') : NF w' v l := by
  obtain ⟨⟨a, c, h1, h2, h3⟩, h4, h5⟩ := h
  exact ⟨⟨a, c, h1, h2, h3.keep0 hc⟩, h4, h5⟩
theorem NF.part {w : World} {a : Option Addr} {l : List Nat} {k c : Nat} (h : RW w a (l.map f64v)) (hw : ∀ x ∈ l.take k, x < 18446744073709551616) (hl : l.length ≤ 70368744177664) (hk : k ≤ l.length) (hc : k ≤ c) : NF w (.slice a k c) (l.take k) := by
  have e : (l.take k).length = k := by rw [List.length_take]; omega
  refine ⟨⟨a, c, by rw [e], by omega, ?_⟩, hw, by omega⟩
  rw [List.map_take]
  exact h.take k
theorem D_getD {l : List Nat} (h : ∀ x ∈ l, x < 18446744073709551616) (i : Nat) : l.getD i 0 < 18446744073709551616 := by
  rw [List.getD_eq_getElem?_getD]
  cases q : l[i]? with
  | none => simp
  | some x => exact h x (List.mem_of_getElem? q)
def finP (x : Nat) : Bool := decide (kindP x ≤ 2)
def filP (l : List Nat) : List Nat := l.filter finP
def cntP (l : List Nat) : SP := l.foldl (fun s x => countP s (kindP x)) SP.zero
def siftE (l : List Nat) (pn pi : Int) : Int :=
  if ¬ mayQ pn pi then 1 else if 65536 < l.length then 2 else if 0 < (cntP l).na ∧ pn = 2 then 60 else if 0 < (cntP l).up + (cntP l).dn ∧ pi = 2 then 61 else 0
theorem take_step {l : List Nat} {i : Nat} (h : i < l.length) : l.take (i + 1) = l.take i ++ [l.getD i 0] := by
  rw [List.take_add_one, List.getD_eq_getElem?_getD, List.getElem?_eq_getElem h]; rfl
theorem cntP_step {l : List Nat} {i : Nat} (h : i < l.length) : cntP (l.take (i + 1)) = countP (cntP (l.take i)) (kindP (l.getD i 0)) := by
  unfold cntP; rw [take_step h, List.foldl_append]; rfl
theorem cntP_le : ∀ (l : List Nat) (s : SP) (n : Nat), s.le n → (l.foldl (fun s x => countP s (kindP x)) s).le (n + l.length)
  | [], s, n, h => h
  | x :: l, s, n, h => by
    have := cntP_le l (countP s (kindP x)) (n + 1) (countP.le h)
    simpa [Nat.add_assoc, Nat.add_comm 1] using this
theorem cnt_le (l : List Nat) : (cntP l).le l.length := by
  have := cntP_le l SP.zero 0 (by refine ⟨?_, ?_, ?_, ?_, ?_, ?_⟩ <;> exact Nat.zero_le _)
  rw [Nat.zero_add] at this; exact this
theorem SP.le.mono {s : SP} {n m : Nat} (h : s.le n) (hm : n ≤ m) : s.le m := by
  obtain ⟨a, b, c, d, e, f⟩ := h
  exact ⟨by omega, by omega, by omega, by omega, by omega, by omega⟩
theorem filP_step {l : List Nat} {i : Nat} (h : i < l.length) : filP (l.take (i + 1)) = if kindP (l.getD i 0) ≤ 2 then filP (l.take i) ++ [l.getD i 0] else filP (l.take i) := by
  unfold filP
  rw [take_step h, List.filter_append, List.filter_cons]
  simp only [finP, decide_eq_true_eq, List.filter_nil]
  split <;> simp
theorem filP_len (l : List Nat) (i : Nat) : (filP (l.take i)).length ≤ i := by
  unfold filP
  have := List.length_filter_le finP (l.take i)
  rw [List.length_take] at this
  omega
theorem set_take {L : List Nat} {m v : Nat} (h : m < L.length) : (L.set m v).take (m + 1) = L.take m ++ [v] := by
  rw [List.take_add_one, List.take_set_of_le (Nat.le_refl _), List.getElem?_set_self h]; rfl

structure KSift (l : List Nat) (pn pi : Int) (w0 : World) (b3 b5 b7 b23 : Nat) (g : Nat × List Nat) (w : World) : Prop where
  le : g.1 ≤ l.length
  len : g.2.length = l.length
  tk : g.2.take (filP (l.take g.1)).length = filP (l.take g.1)
  h3 : BK w b3 50 [.int .i64 pn, .int .i64 pi]
  h5 : BK w b5 124 [.int .i64 0, .int .i64 0, .int .i64 0, .int .i64 0, .int .i64 0, .int .i64 0]
  h7 : BK w b7 124 (cntP (l.take g.1)).cells
  hF : FB w b23 30 g.2
  ch : Chg [] w0 w

theorem Sift_spec (v : Value) (l : List Nat) (pn pi : Int) (w : World) (hv : NF w v l) : Ret Tryz.prog 111 [v, .agg [.int .i64 pn, .int .i64 pi].toArray] w fun u w' => (siftE l pn pi ≠ 0 ∧ u = .tuple [.slice none 0 0, .agg SP.zero.cells.toArray, .int .i64 (siftE l pn pi)].toArray ∧ Chg [] w w') ∨ (siftE l pn pi = 0 ∧ ∃ v2, NF w' v2 (filP l) ∧ u = .tuple [v2, .agg (cntP l).cells.toArray, .int .i64 0].toArray ∧ Chg [] w w') := by
 obtain ⟨⟨al, cl, rfl, hcapl, hrl⟩, hWl, hll⟩ := hv;have hch : Chg [] w w := Chg.refl _ _;refine zE2 Tryz.func111 rfl ?_;refine Sr fun _ kh1 => ?_;refine zBh rfl rfl rfl hch fun b3 wm3 hb3 hcm3 hge3 hgehch3 hch => ?_;refine za rfl ?_;refine WL.allocB (l := [.int .i64 0, .int .i64 0, .int .i64 0, .int .i64 0, .int .i64 0, .int .i64 0]) rfl rfl fun b5 wm5 hb5 hcm5 hge5 => ?_;have hgehch5 := Nat.le_trans hch.size hge5;have hch := hch.ta hcm5;have hneb35 := zdd hb3.lt hge5;have hb3 := hb3.k0 hcm5;refine za rfl (zz (kh1 (Sr fun _ kh3 => ?_)));refine WL.allocB (l := [.int .i64 0, .int .i64 0, .int .i64 0, .int .i64 0, .int .i64 0, .int .i64 0]) rfl rfl fun b7 wm7 hb7 hcm7 hge7 => ?_;have hgehch7 := Nat.le_trans hch.size hge7;have hch := hch.ta hcm7;have hneb37 := zdd hb3.lt hge7;have hb3 := hb3.k0 hcm7;have hneb57 := zdd hb5.lt hge7;have hb5 := hb5.k0 hcm7;refine zz (kh3 (zc fun _ kh5 => ?_));refine CW.block ?_;refine Sr fun _ kh6 => zg hb3 rfl ?_;refine WL.call hasF105 rfl rfl (May_spec pn pi _) fun v w1 h' => ?_;obtain ⟨rfl, hC13⟩ := h';have hch := hch.ta hC13;have hb3 := hb3.k0 hC13;have hb5 := hb5.k0 hC13;have hb7 := hb7.k0 hC13;refine WL.ev (Ev.not rfl) rfl ?_;refine za rfl (zz (kh6 ?_));refine zy rfl ?_ ?_<;>intro hc1<;>try simp only [qs] at hc1
 ·have hM : ¬ mayQ pn pi := hc1
  refine zc fun _ kh8 => ?_;refine CW.regionKC 2 4 rfl hmix fun kR9 kr9 hS hdr => ?_;have hch := hch.ta hdr;have hb5 := hb5.k0 hdr;have hb7 := hb7.k0 hdr;have hb7_r := hb7;refine wk 0 rfl hS (fun _ hw' => Ev.loadA rfl rfl (hb7_r.keep0 hw') rfl) (wk 1 rfl hS (fun _ _ => Ev.assign rfl) ?_);refine WK.storeB 2 rfl (by kernel_rfl) (by kernel_rfl) rfl rfl rfl ao hb5 (by simp) rfl fun ws16 hb5_ hcs16 => ?_;(try simp only [Sx.splice, qt] at hb5_);have hch := hch.s1 hcs16;have hb5 := hb5_;refine WK.after 3 rfl (by kernel_rfl) (by kernel_rfl) (Ev.assign rfl) rfl ?_;refine WK.done (by kernel_rfl) (kr9 _ _ _ ?_);refine kh8 ?_;refine zr (bodyA.retR3 rfl (RVal.tmp rfl) (RVal.cell rfl (hb5.varA rfl rfl)) (RVal.tmp rfl) ?_);exact .inl ⟨by unfold siftE; rw [if_pos hM]; decide, by unfold siftE; rw [if_pos hM]; rfl, hch⟩
 ·have hM : ¬ ¬ mayQ pn pi := fun q => q hc1
  refine Sr fun _ kh10 => zm rfl (zn rfl ?_);refine WL.ev (Ev.gtr rfl rfl) rfl ?_;refine za rfl (zz (kh10 ?_));refine zy rfl ?_ ?_<;>intro hc2<;>try simp only [qs] at hc2
  ·have hL : 65536 < l.length := by omega
   refine zc fun _ kh12 => ?_;refine CW.regionKC 2 4 rfl hmix fun kR13 kr13 hS hdr => ?_;have hch := hch.ta hdr;have hb5 := hb5.k0 hdr;have hb7 := hb7.k0 hdr;have hb7_r := hb7;refine wk 0 rfl hS (fun _ hw' => Ev.loadA rfl rfl (hb7_r.keep0 hw') rfl) (wk 1 rfl hS (fun _ _ => Ev.assign rfl) ?_);refine WK.storeB 2 rfl (by kernel_rfl) (by kernel_rfl) rfl rfl rfl ao hb5 (by simp) rfl fun ws17 hb5_ hcs17 => ?_;(try simp only [Sx.splice, qt] at hb5_);have hch := hch.s1 hcs17;have hb5 := hb5_;refine WK.after 3 rfl (by kernel_rfl) (by kernel_rfl) (Ev.assign rfl) rfl ?_;refine WK.done (by kernel_rfl) (kr13 _ _ _ ?_);refine kh12 ?_;refine zr (bodyA.retR3 rfl (RVal.tmp rfl) (RVal.cell rfl (hb5.varA rfl rfl)) (RVal.tmp rfl) ?_);exact .inl ⟨by unfold siftE; rw [if_neg hM, if_pos hL]; decide, by unfold siftE; rw [if_neg hM, if_pos hL]; rfl, hch⟩
  ·have hL : ¬ 65536 < l.length := by omega
   refine zkk ?_;refine kh5 (Sr fun _ kh14 => zm rfl (zn rfl ?_));refine WL.makeF (0) ((l).length) rfl rfl (by omega) (by omega) (by omega) (by omega) (by omega) rfl fun b23 wm23 hb23 hcm23 hge23 => ?_;have hgehch23 := Nat.le_trans hch.size hge23;have hch := hch.ta hcm23;have hneb323 := zdd hb3.lt hge23;have hb3 := hb3.k0 hcm23;have hneb523 := zdd hb5.lt hge23;have hb5 := hb5.k0 hcm23;have hneb723 := zdd hb7.lt hge23;have hb7 := hb7.k0 hcm23;refine za rfl (zz (kh14 (zc fun _ kh16 => Sr fun _ kh17 => zm rfl (zn rfl (zm rfl (zz (kh17 ?_)))))));refine CW.block ?_;refine CW.loop (S := fun g : Nat × List Nat => [(0, .slice al l.length cl), (3, .pointer (some ⟨b3, 0, none⟩)), (4, .slice none 0 0), (5, .pointer (some ⟨b5, 0, none⟩)), (6, .int .i64 0), (7, .pointer (some ⟨b7, 0, none⟩)), (8, .slice (some ⟨b23, 0, none⟩) (filP (l.take g.1)).length l.length), (25, .int .i64 (l.length : Int)), (26, .int .i64 (g.1 : Int))]) (Inv := KSift l pn pi w b3 b5 b7 b23) (mu := fun g => l.length - g.1) ((0, List.replicate l.length 0)) ?_ ?_ ?_
   ·exact ⟨Nat.zero_le _, by simp, by simp [filP], hb3, hb5, hb7, hb23, hch⟩
   ·exact SLp
   ·rintro ⟨i, L⟩ wr ⟨hi1, hLl, htk, hb3, hb5, hb7, hb23, hch⟩;dsimp only at hi1 hLl htk hb3 hb5 hb7 hb23 hch;dsimp only;have hfl := filP_len l i;have hx64 := D_getD hWl i;have hcle := (cnt_le (l.take i)).mono (m := 65536) (by rw [List.length_take]; omega);refine Sr fun _ kh19 => ?_;refine WL.ev (Ev.lss rfl rfl) rfl ?_;refine zz (kh19 (zc fun _ kh21 => ?_));refine zy rfl ?_ ?_<;>intro hc3<;>try simp only [qs] at hc3
    ·refine zkk ?_
     refine kh21 (zc fun _ kh22 => ?_);refine CW.block ?_;refine Sr fun _ kh23 => zm rfl (za rfl (zz (kh23 (Sr fun _ kh25 => zm rfl (zm rfl ?_)))));refine WL.ev (Ev.ixR (i) rfl rfl (hrl.keep0 hch) (by omega) (by omega) (by simp; omega)) rfl ?_;refine WL.ev (Ev.load rfl rfl ((hrl.keep0 hch).f64 (by first | omega | (simp; omega)))) rfl ?_;refine WL.call hasF194 rfl rfl (kind_spec (l.getD i 0) _ hx64) fun v w2 h' => ?_;obtain ⟨rfl, hC33⟩ := h';have hch := hch.ta hC33;have hb3 := hb3.k0 hC33;have hb5 := hb5.k0 hC33;have hb7 := hb7.k0 hC33;have hb23 := hb23.k0 hC33;refine za rfl (zz (kh25 (Sr fun _ kh27 => zm rfl ?_)));refine WL.call hasF195 rfl rfl (count_spec b7 (kindP (l.getD i 0)) (cntP (l.take i)) _ hb7 (hcle.mono (by decide))) fun v w3 h' => ?_;obtain ⟨hb7_, hC35⟩ := h';have hch := hch.step hC35 (fun y hy => by simp only [List.mem_singleton] at hy; subst hy; exact .inr (by omega));have hb3 := hb3.keep hC35 (by simp; try omega);have hb5 := hb5.keep hC35 (by simp; try omega);have hb23 := hb23.keep hC35 (by simp; try omega);have hb7 := hb7_;rw [← cntP_step (by omega)] at hb7;refine zz (kh27 (Sr fun _ kh29 => zm rfl ?_));refine WL.ev (Ev.leq rfl rfl) rfl ?_;refine zz (kh29 ?_);refine zy rfl ?_ ?_<;>intro hc4<;>try simp only [qs] at hc4
     ·have hk2 : kindP (l.getD i 0) ≤ 2 := by omega
      refine zR fun _ kr31 => ?_;refine zm rfl (zm rfl (zm rfl ?_));refine WL.ev (Ev.ixR (i) rfl rfl (hrl.keep0 hch) (by omega) (by omega) (by simp; omega)) rfl ?_;refine WL.ev (Ev.load rfl rfl ((hrl.keep0 hch).f64 (by first | omega | (simp; omega)))) rfl ?_;refine WL.buildSlice (m := 1) (cs := [f64v (l.getD i 0)]) (by decide) (by decide) rfl (by kernel_rfl) rfl fun b43 w43 hn43 => ?_;have hcm43 := hn43.chg;have hb43 : BK w43 b43 30 [f64v (l.getD i 0)] := hn43.at_;have hch := hch.ta hcm43;have hb3 := hb3.keep hcm43 (by simp; try omega);have hb5 := hb5.keep hcm43 (by simp; try omega);have hb7 := hb7.keep hcm43 (by simp; try omega);have hb23 := hb23.keep hcm43 (by simp; try omega);refine WL.appendF (v := l.getD i 0) rfl rfl hb23 (hb43.at_ rfl) (by omega) (by omega) rfl fun w44 hb23_ hcs44 => ?_;have hch := hch.step hcs44 (fun y hy => by simp only [List.mem_singleton] at hy; subst hy; exact .inr (by omega));have hb3 := hb3.keep hcs44 (by simp; try omega);have hb5 := hb5.keep hcs44 (by simp; try omega);have hb7 := hb7.keep hcs44 (by simp; try omega);have hb23 := hb23_;rw [show (filP (l.take i)).length + 1 = (filP (l.take (i + 1))).length by rw [filP_step (by omega), if_pos hk2]; simp];refine za rfl ?_;refine WL.nil (kr31 _ _ _ (kh22 ?_));refine zR fun _ kr32 => ?_;(first | refine zi rfl rfl ?_ | refine zo rfl rfl ?_);refine zm rfl ?_;refine WL.nil (kr32 _ _ _ ?_);refine ⟨rfl, (i + 1, L.set (filP (l.take i)).length (l.getD i 0)), ?_, ?_, ?_⟩
      ·exact SLp
      ·exact ⟨by dsimp only; omega, by simpa using hLl, by dsimp only; rw [filP_step (by omega), if_pos hk2, List.length_append]; show List.take _ _ = _; rw [show [l.getD i 0].length = 1 from rfl, set_take (by omega), htk], hb3, hb5, hb7, hb23, hch⟩
      ·show l.length - (i + 1) < l.length - i; omega
     ·have hk2 : ¬ kindP (l.getD i 0) ≤ 2 := by omega
      have hfs : filP (l.take (i + 1)) = filP (l.take i) := by rw [filP_step (by omega), if_neg hk2]
      refine zkk ?_;refine kh22 ?_;refine zR fun _ kr33 => ?_;(first | refine zi rfl rfl ?_ | refine zo rfl rfl ?_);refine zm rfl ?_;refine WL.nil (kr33 _ _ _ ?_);refine ⟨rfl, (i + 1, L), ?_, ?_, ?_⟩
      ·rw [← hfs]; repeat (first | exact Subs.nil | refine Subs.cons rfl ?_ | refine Subs.consI rfl (by omega) ?_)
      ·exact ⟨by dsimp only; omega, hLl, by dsimp only; rw [hfs]; exact htk, hb3, hb5, hb7, hb23, hch⟩
      ·show l.length - (i + 1) < l.length - i; omega
    ·have hiX : i = l.length := by omega
     subst hiX;rw [List.take_length] at hb7 hcle htk hfl;rw [List.take_length];unfold SP.cells at hb7;obtain ⟨hcl1, hcl2, hcl3, hcl4, hcl5, hcl6⟩ := hcle;refine CW.exit ?_;refine kh16 (zc fun _ kh34 => ?_);refine CW.block ?_;refine CW.seqM 46 (decide (0 < (cntP l).na ∧ pn = 2)) ?_ ?_
     ·refine zR fun _ kr35 => ?_;refine zf rfl (zl hb7 rfl rfl ?_);refine WL.ev (Ev.gtr rfl rfl) rfl ?_;refine zm rfl ?_;refine zb ?_ ?_<;>intro hg5<;>try simp only [qs] at hg5
      ·refine zw rfl (zf rfl (zw rfl (zl hb3 rfl rfl (zw rfl (zq rfl rfl (zt rfl rfl (za rfl ?_)))))));refine WL.nil (kr35 _ _ _ ?_);refine ⟨rfl, rfl, Subs.consB rfl ?_ ?_⟩
       ·first | (simp; omega) | (refine decide_eq_decide.2 ?_; omega)
       ·exact SMg
      ·refine zv rfl (zv rfl (zv rfl (ze rfl rfl (za rfl ?_))));refine WL.nil (kr35 _ _ _ ?_);refine ⟨rfl, rfl, Subs.consB rfl ?_ ?_⟩
       ·first | (simp; omega) | (refine decide_eq_decide.2 ?_; omega)
       ·exact SMg
     ·refine zy rfl ?_ ?_<;>intro hc6<;>try simp only [qs] at hc6
      ·have hA : 0 < (cntP l).na ∧ pn = 2 := hc6
       refine Sr fun _ kh36 => ?_;refine WL.ev (Ev.build (vs := _) (cs := [_, _, _, _, _, _]) rfl rfl) rfl ?_;refine za rfl ?_;refine zss rfl rfl ao hb5 rfl fun ws18 hb5_ hcs18 => ?_;(try simp only [Sx.splice, qt] at hb5_);have hch := hch.s1 hcs18;have hb5 := hb5_;refine za rfl (zz (kh36 ?_));refine zr (bodyA.retR3 rfl (RVal.tmp rfl) (RVal.cell rfl (hb5.varA rfl rfl)) (RVal.tmp rfl) ?_);exact .inl ⟨by unfold siftE; rw [if_neg hM, if_neg hL, if_pos hA]; decide, by unfold siftE; rw [if_neg hM, if_neg hL, if_pos hA]; rfl, hch⟩
      ·have hA : ¬ (0 < (cntP l).na ∧ pn = 2) := hc6
       refine CW.seqM 56 (decide (0 < (cntP l).up + (cntP l).dn ∧ pi = 2)) ?_ ?_
       ·refine zR fun _ kr38 => ?_;refine zf rfl (zl hb7 rfl rfl (zf rfl (zl hb7 rfl rfl ?_)));(first | refine zi rfl rfl ?_ | refine zo rfl rfl ?_);refine WL.ev (Ev.gtr rfl rfl) rfl ?_;refine zm rfl ?_;refine zb ?_ ?_<;>intro hg7<;>try simp only [qs] at hg7
        ·refine zw rfl (zf rfl (zw rfl (zl hb3 rfl rfl (zw rfl (zq rfl rfl (zt rfl rfl (za rfl ?_)))))));refine WL.nil (kr38 _ _ _ ?_);refine ⟨rfl, rfl, Subs.consB rfl ?_ ?_⟩
         ·first | (simp; omega) | (refine decide_eq_decide.2 ?_; omega)
         ·exact SMg
        ·refine zv rfl (zv rfl (zv rfl (ze rfl rfl (za rfl ?_))));refine WL.nil (kr38 _ _ _ ?_);refine ⟨rfl, rfl, Subs.consB rfl ?_ ?_⟩
         ·first | (simp; omega) | (refine decide_eq_decide.2 ?_; omega)
         ·exact SMg
       ·refine zy rfl ?_ ?_<;>intro hc8<;>try simp only [qs] at hc8
        ·have hB : 0 < (cntP l).up + (cntP l).dn ∧ pi = 2 := hc8
         refine Sr fun _ kh39 => ?_;refine WL.ev (Ev.build (vs := _) (cs := [_, _, _, _, _, _]) rfl rfl) rfl ?_;refine za rfl ?_;refine zss rfl rfl ao hb5 rfl fun ws19 hb5_ hcs19 => ?_;(try simp only [Sx.splice, qt] at hb5_);have hch := hch.s1 hcs19;have hb5 := hb5_;refine za rfl (zz (kh39 ?_));refine zr (bodyA.retR3 rfl (RVal.tmp rfl) (RVal.cell rfl (hb5.varA rfl rfl)) (RVal.tmp rfl) ?_);exact .inl ⟨by unfold siftE; rw [if_neg hM, if_neg hL, if_neg hA, if_pos hB]; decide, by unfold siftE; rw [if_neg hM, if_neg hL, if_neg hA, if_pos hB]; rfl, hch⟩
        ·have hB : ¬ (0 < (cntP l).up + (cntP l).dn ∧ pi = 2) := hc8
         refine zkk ?_;refine kh34 (zc fun _ kh41 => ?_);refine CW.regionKC 3 5 rfl hmix fun kR42 kr42 hS hdr => ?_;have hch := hch.ta hdr;have hb5 := hb5.k0 hdr;have hb7 := hb7.k0 hdr;have hb23 := hb23.k0 hdr;have hb7_r := hb7;refine wk 0 rfl hS (fun _ _ => Ev.move rfl) (wk 1 rfl hS (fun _ hw' => Ev.loadA rfl rfl (hb7_r.keep0 hw') rfl) (wk 2 rfl hS (fun _ _ => Ev.assign rfl) ?_));refine WK.storeB 3 rfl (by kernel_rfl) (by kernel_rfl) rfl rfl rfl ao hb5 (by simp) rfl fun ws20 hb5_ hcs20 => ?_;(try simp only [Sx.splice, qt] at hb5_);have hch := hch.s1 hcs20;have hb23 := hb23.kq hcs20;have hb5 := hb5_;refine WK.after 4 rfl (by kernel_rfl) (by kernel_rfl) (Ev.assign rfl) rfl ?_;refine WK.done (by kernel_rfl) (kr42 _ _ _ ?_);refine kh41 ?_;refine zr (bodyA.retR3 rfl (RVal.tmp rfl) (RVal.cell rfl (hb5.varA rfl rfl)) (RVal.tmp rfl) ?_);refine .inr ⟨by unfold siftE; rw [if_neg hM, if_neg hL, if_neg hA, if_neg hB], _, ?_, rfl, hch⟩;have := NF.part hb23.row (by rw [htk]; exact fun x hx => hWl x (List.mem_filter.1 hx).1) (by omega) (k := (filP l).length) (by omega) (c := l.length) (by omega);rw [htk] at this;exact this

end

/- Whole numbers in words of 64 bits: two's complement. No condition. -/
section
open Wd
set_option exponentiation.threshold 5000

/-- The value of words of 64 bits, the lowest first. -/
def tv : List Nat → Nat
  | [] => 0
  | a :: l => a + 18446744073709551616 * tv l
/-- All words are words. -/
def W64 (l : List Nat) : Prop := ∀ x ∈ l, x < 18446744073709551616
theorem W64.getD {l : List Nat} (h : W64 l) (i : Nat) : l.getD i 0 < 18446744073709551616 := by
  rw [List.getD_eq_getElem?_getD]
  cases q : l[i]? with
  | none => simp
  | some x => exact h x (List.mem_of_getElem? q)
theorem W64.set {l : List Nat} (h : W64 l) {i v : Nat} (hv : v < 18446744073709551616) : W64 (l.set i v) := fun x hx => by
  rcases List.mem_or_eq_of_mem_set hx with q | q
  · exact h x q
  · exact q ▸ hv
theorem tv_set : ∀ {l : List Nat} {i v : Nat}, i < l.length → tv (l.set i v) + l.getD i 0 * 18446744073709551616 ^ i = tv l + v * 18446744073709551616 ^ i
  | a :: l, 0, v, h => by simp [tv]; omega
  | a :: l, i + 1, v, h => by
    have := tv_set (l := l) (i := i) (v := v) (by simpa using h)
    simp only [List.set_cons_succ, tv, List.getD_cons_succ, Nat.pow_succ]
    generalize 18446744073709551616 ^ i = B at this ⊢
    rw [show l.getD i 0 * (B * 18446744073709551616) = 18446744073709551616 * (l.getD i 0 * B) by ac_rfl, show v * (B * 18446744073709551616) = 18446744073709551616 * (v * B) by ac_rfl]
    omega
theorem tv_lt : ∀ {l : List Nat}, W64 l → tv l < 18446744073709551616 ^ l.length
  | [], h => by simp [tv]
  | a :: l, h => by
    have h1 := tv_lt (l := l) (fun x hx => h x (List.mem_cons_of_mem _ hx))
    have h2 := h a (List.mem_cons_self ..)
    simp only [tv, List.length_cons, Nat.pow_succ]
    generalize 18446744073709551616 ^ l.length = B at h1 ⊢
    omega
theorem tv_append (a b : List Nat) : tv (a ++ b) = tv a + 18446744073709551616 ^ a.length * tv b := by
  induction a with
  | nil => simp [tv]
  | cons x a ih =>
    simp only [List.cons_append, tv, ih, List.length_cons, Nat.pow_succ]
    rw [Nat.mul_add, Nat.add_assoc]
    congr 2
    ac_rfl
theorem tv_take {l : List Nat} {i : Nat} (h : i < l.length) : tv (l.take (i + 1)) = tv (l.take i) + l.getD i 0 * 18446744073709551616 ^ i := by
  have : l.take (i + 1) = l.take i ++ [l.getD i 0] := by
    rw [List.take_add_one, List.getD_eq_getElem?_getD, List.getElem?_eq_getElem h]; rfl
  rw [this, tv_append, List.length_take, Nat.min_eq_left (by omega)]
  simp [tv, Nat.mul_comm]
theorem tv_zero (n : Nat) : tv (List.replicate n 0) = 0 := by
  induction n with
  | zero => rfl
  | succ n ih => simp [List.replicate_succ, tv, ih]

/-! ### Adding and taking a term -/
/-- The first k of a term's words, where they lie. -/
def trm (W : List Nat) (at_ : Nat) : Nat → Nat
  | 0 => 0
  | k + 1 => trm W at_ k + W.getD k 0 * 18446744073709551616 ^ (at_ + k)
theorem trm3 {W : List Nat} {at_ : Nat} (h : W.length = 3) : ∀ k, trm W at_ (3 + k) = tv W * 18446744073709551616 ^ at_
  | 0 => by
    match W, h with
    | [a, b, c], _ =>
      simp only [trm, tv, List.getD_cons_zero, List.getD_cons_succ, Nat.pow_add]
      generalize 18446744073709551616 ^ at_ = B
      simp only [Nat.pow_zero, Nat.pow_one, Nat.add_zero, Nat.mul_zero, Nat.mul_one, Nat.zero_add]
      rw [Nat.add_mul, Nat.mul_add, Nat.add_mul]
      have e1 : b * (B * 18446744073709551616) = 18446744073709551616 * b * B := by ac_rfl
      have e2 : c * (B * 18446744073709551616 ^ 2) = 18446744073709551616 * (18446744073709551616 * c) * B := by
        rw [show (18446744073709551616 : Nat) ^ 2 = 18446744073709551616 * 18446744073709551616 from rfl]; ac_rfl
      rw [e1, e2]; omega
  | k + 1 => by
    rw [show 3 + (k + 1) = (3 + k) + 1 by omega, trm, trm3 h k]
    have : W.getD (3 + k) 0 = 0 := by rw [List.getD_eq_getElem?_getD, List.getElem?_eq_none (by omega)]; rfl
    rw [this]; omega
/-- The state of adding: words C, carry c, i words done. -/
structure MvA (L W : List Nat) (at_ : Nat) (C : List Nat) (c i : Nat) : Prop where
  len : C.length = L.length
  w : W64 C
  lo : at_ ≤ i
  hi : i ≤ L.length
  c1 : c ≤ 1
  eq : tv C + c * 18446744073709551616 ^ i = tv L + trm W at_ (i - at_)
theorem MvA.zero {L W : List Nat} {at_ : Nat} (h : W64 L) (ha : at_ ≤ L.length) : MvA L W at_ L 0 at_ := ⟨rfl, h, Nat.le_refl _, ha, by omega, by rw [Nat.sub_self]; simp [trm]⟩
theorem MvA.step {L W C : List Nat} {at_ c i : Nat} (h : MvA L W at_ C c i) (hi : i < L.length) (hw : W.getD (i - at_) 0 < 18446744073709551616) :
    MvA L W at_ (C.set i ((C.getD i 0 + W.getD (i - at_) 0 + c) % 18446744073709551616)) ((C.getD i 0 + W.getD (i - at_) 0 + c) / 18446744073709551616) (i + 1) := by
  obtain ⟨h1, h2, h3, h4, h5, h6⟩ := h
  have hc := h2.getD i
  refine ⟨by simpa using h1, h2.set (Nat.mod_lt _ (by decide)), by omega, by omega, by omega, ?_⟩
  have hs := tv_set (l := C) (i := i) (v := (C.getD i 0 + W.getD (i - at_) 0 + c) % 18446744073709551616) (by omega)
  rw [show i + 1 - at_ = (i - at_) + 1 by omega, trm, show at_ + (i - at_) = i by omega, Nat.pow_succ]
  generalize C.getD i 0 = x at hs hc ⊢
  generalize W.getD (i - at_) 0 = y at hw hs ⊢
  have e : (x + y + c) / 18446744073709551616 * 18446744073709551616 + (x + y + c) % 18446744073709551616 = x + y + c := Nat.div_add_mod' _ _
  generalize (x + y + c) / 18446744073709551616 = q at e ⊢
  generalize (x + y + c) % 18446744073709551616 = r at e hs ⊢
  generalize trm W at_ (i - at_) = z at h6 ⊢
  generalize 18446744073709551616 ^ i = B at h6 hs ⊢
  have e2 : q * (B * 18446744073709551616) = q * 18446744073709551616 * B := by ac_rfl
  have e3 : (q * 18446744073709551616 + r) * B = (x + y + c) * B := by rw [e]
  rw [Nat.add_mul] at e3
  rw [Nat.add_mul, Nat.add_mul] at e3
  omega
/-- The state of taking. -/
structure MvS (L W : List Nat) (at_ : Nat) (C : List Nat) (c i : Nat) : Prop where
  len : C.length = L.length
  w : W64 C
  lo : at_ ≤ i
  hi : i ≤ L.length
  c1 : c ≤ 1
  eq : tv C + trm W at_ (i - at_) = tv L + c * 18446744073709551616 ^ i
theorem MvS.zero {L W : List Nat} {at_ : Nat} (h : W64 L) (ha : at_ ≤ L.length) : MvS L W at_ L 0 at_ := ⟨rfl, h, Nat.le_refl _, ha, by omega, by rw [Nat.sub_self]; simp [trm]⟩
theorem MvS.step {L W C : List Nat} {at_ c i : Nat} (h : MvS L W at_ C c i) (hi : i < L.length) (hw : W.getD (i - at_) 0 < 18446744073709551616) {d b : Nat} (hd : d < 18446744073709551616) (hb : b ≤ 1)
    (e : C.getD i 0 + b * 18446744073709551616 = d + W.getD (i - at_) 0 + c) : MvS L W at_ (C.set i d) b (i + 1) := by
  obtain ⟨h1, h2, h3, h4, h5, h6⟩ := h
  have hc := h2.getD i
  refine ⟨by simpa using h1, h2.set hd, by omega, by omega, hb, ?_⟩
  have hs := tv_set (l := C) (i := i) (v := d) (by omega)
  rw [show i + 1 - at_ = (i - at_) + 1 by omega, trm, show at_ + (i - at_) = i by omega, Nat.pow_succ]
  generalize C.getD i 0 = x at hs hc e ⊢
  generalize W.getD (i - at_) 0 = y at hw e ⊢
  generalize trm W at_ (i - at_) = z at h6 ⊢
  generalize 18446744073709551616 ^ i = B at h6 hs ⊢
  have e2 : b * (B * 18446744073709551616) = b * 18446744073709551616 * B := by ac_rfl
  have e3 : (x + b * 18446744073709551616) * B = (d + y + c) * B := by rw [e]
  rw [Nat.add_mul, Nat.add_mul, Nat.add_mul] at e3
  omega

/-- A value of 128 bits, shifted within three words. -/
def laidW (hi lo by_ : Nat) : List Nat := [lo * 2 ^ by_ % 18446744073709551616, (hi * 2 ^ by_ % 18446744073709551616) ||| (lo / 2 ^ (64 - by_)), hi / 2 ^ (64 - by_)]
theorem laid_or {hi lo k : Nat} (h : lo < 18446744073709551616) (hk : k < 64) : (hi * 2 ^ k % 18446744073709551616) ||| (lo / 2 ^ (64 - k)) = hi * 2 ^ k % 18446744073709551616 + lo / 2 ^ (64 - k) := by
  have e : (18446744073709551616 : Nat) = 2 ^ (64 - k) * 2 ^ k := by rw [← Nat.pow_add, show 64 - k + k = 64 by omega]
  have hp := Nat.two_pow_pos k
  have hq := Nat.two_pow_pos (64 - k)
  have h1 : hi * 2 ^ k % 18446744073709551616 = hi % 2 ^ (64 - k) * 2 ^ k := by rw [e, Nat.mul_mod_mul_right]
  have h2 : lo / 2 ^ (64 - k) < 2 ^ k := by
    rw [Nat.div_lt_iff_lt_mul hq, Nat.mul_comm, ← e]; exact h
  rw [h1, Nat.or_comm, or_of_mul h2, Nat.add_comm]
theorem laidW_val {hi lo k : Nat} (h : lo < 18446744073709551616) (hk : k < 64) : tv (laidW hi lo k) = (hi * 18446744073709551616 + lo) * 2 ^ k := by
  have e : (18446744073709551616 : Nat) = 2 ^ (64 - k) * 2 ^ k := by rw [← Nat.pow_add, show 64 - k + k = 64 by omega]
  simp only [laidW, tv, laid_or h hk]
  have h1 : hi * 2 ^ k % 18446744073709551616 + 18446744073709551616 * (hi / 2 ^ (64 - k)) = hi * 2 ^ k := by
    have h1 : hi * 2 ^ k % 18446744073709551616 = hi % 2 ^ (64 - k) * 2 ^ k := by rw [e, Nat.mul_mod_mul_right]
    have := Nat.mod_add_div hi (2 ^ (64 - k))
    rw [h1]
    calc _ = (hi % 2 ^ (64 - k) + 2 ^ (64 - k) * (hi / 2 ^ (64 - k))) * 2 ^ k := by rw [Nat.add_mul]; congr 1; rw [e]; ac_rfl
      _ = _ := by rw [this]
  have h2 : lo * 2 ^ k % 18446744073709551616 + 18446744073709551616 * (lo / 2 ^ (64 - k)) = lo * 2 ^ k := by
    have h1 : lo * 2 ^ k % 18446744073709551616 = lo % 2 ^ (64 - k) * 2 ^ k := by rw [e, Nat.mul_mod_mul_right]
    have := Nat.mod_add_div lo (2 ^ (64 - k))
    rw [h1]
    calc _ = (lo % 2 ^ (64 - k) + 2 ^ (64 - k) * (lo / 2 ^ (64 - k))) * 2 ^ k := by rw [Nat.add_mul]; congr 1; rw [e]; ac_rfl
      _ = _ := by rw [this]
  rw [Nat.add_mul]
  generalize hi / 2 ^ (64 - k) = p at h1 ⊢
  generalize lo / 2 ^ (64 - k) = q at h2 ⊢
  generalize lo * 2 ^ k % 18446744073709551616 = r at h2 ⊢
  generalize hi * 2 ^ k % 18446744073709551616 = t at h1 ⊢
  rw [show hi * 18446744073709551616 * 2 ^ k = 18446744073709551616 * (hi * 2 ^ k) by ac_rfl]
  generalize hi * 2 ^ k = a at h1 ⊢
  generalize lo * 2 ^ k = b at h2 ⊢
  omega
theorem laidW_w {hi lo k : Nat} (h : lo < 18446744073709551616) (h2 : hi < 18446744073709551616) (hk : k < 64) : W64 (laidW hi lo k) := by
  intro x hx
  simp only [laidW, List.mem_cons, List.not_mem_nil, or_false] at hx
  rcases hx with q | q | q
  · rw [q]; exact Nat.mod_lt _ (by decide)
  · rw [q]
    exact Nat.or_lt_two_pow (n := 64) (Nat.mod_lt _ (by decide)) (Nat.lt_of_le_of_lt (Nat.div_le_self _ _) h)
  · rw [q]; exact Nat.lt_of_le_of_lt (Nat.div_le_self _ _) h2

/-! ### Turning the sign -/
structure MinI (L C : List Nat) (c i : Nat) : Prop where
  len : C.length = L.length
  w : W64 C
  hi : i ≤ L.length
  c1 : c ≤ 1
  same : ∀ j, i ≤ j → C.getD j 0 = L.getD j 0
  eq : tv C + c * 18446744073709551616 ^ i + 2 * tv (L.take i) = tv L + 18446744073709551616 ^ i
theorem MinI.zero {L : List Nat} (h : W64 L) : MinI L L 1 0 := ⟨rfl, h, Nat.zero_le _, by omega, fun _ _ => rfl, by simp [tv]⟩
theorem min_lin {a r x y c : Nat} (e : a + r = y + 0 + c) (hy : y + x = 18446744073709551615) : a + r + x + 1 = 18446744073709551616 + c := by
  rw [e]
  omega
theorem MinI.step {L C : List Nat} {c i y : Nat} (h : MinI L C c i) (hi : i < L.length) (hy : y + C.getD i 0 = 18446744073709551615) :
    MinI L (C.set i ((y + 0 + c) % 18446744073709551616)) ((y + 0 + c) / 18446744073709551616) (i + 1) := by
  obtain ⟨h1, h2, h3, h4, h5, h6⟩ := h
  have hc := h2.getD i
  refine ⟨by simpa using h1, h2.set (Nat.mod_lt _ (by decide)), by omega, by omega, fun j hj => ?_, ?_⟩
  · rw [← h5 j (by omega)]; simp only [List.getD_eq_getElem?_getD, List.getElem?_set_ne (show i ≠ j by omega)]
  have hs := tv_set (l := C) (i := i) (v := (y + 0 + c) % 18446744073709551616) (by omega)
  rw [tv_take hi, ← h5 i (Nat.le_refl _), Nat.pow_succ]
  generalize C.getD i 0 = x at hs hc hy ⊢
  have e : (y + 0 + c) / 18446744073709551616 * 18446744073709551616 + (y + 0 + c) % 18446744073709551616 = y + 0 + c := Nat.div_add_mod' _ _
  generalize (y + 0 + c) / 18446744073709551616 = q at e ⊢
  generalize (y + 0 + c) % 18446744073709551616 = r at e hs ⊢
  generalize tv (L.take i) = z at h6 ⊢
  generalize 18446744073709551616 ^ i = B at h6 hs ⊢
  have e2 : q * (B * 18446744073709551616) = q * 18446744073709551616 * B := by ac_rfl
  have e4 : q * 18446744073709551616 + r + x + 1 = 18446744073709551616 + c := min_lin e hy
  have e3 : (q * 18446744073709551616 + r + x + 1) * B = (18446744073709551616 + c) * B := congrArg (fun t => t * B) e4
  have e5 : (q * 18446744073709551616 + r + x + 1) * B = q * 18446744073709551616 * B + r * B + x * B + B := by simp only [Nat.add_mul, Nat.one_mul]
  have e6 : (18446744073709551616 + c) * B = 18446744073709551616 * B + c * B := Nat.add_mul _ _ _
  omega
theorem MinI.done {L C : List Nat} {c : Nat} (h : MinI L C c L.length) (hL : W64 L) : tv C = (18446744073709551616 ^ L.length - tv L) % 18446744073709551616 ^ L.length := by
  obtain ⟨h1, h2, h3, h4, h5, h6⟩ := h
  rw [List.take_length] at h6
  have hl := tv_lt hL
  have hc := tv_lt h2
  rw [h1] at hc
  generalize 18446744073709551616 ^ L.length = B at h6 hl hc ⊢
  rcases (show c = 0 ∨ c = 1 by omega) with q | q
  · subst q
    rw [Nat.mod_eq_of_lt (by omega)]; omega
  · subst q
    have : tv L = 0 := by omega
    rw [this, Nat.sub_zero, Nat.mod_self]; omega
end

/- Package super: New, laid, one. No condition. -/
section
open Go Sx Wd
set_option exponentiation.threshold 5000

theorem splitP_fin {x : Nat} (h : (splitP x).cls = 1 ∨ (splitP x).cls = 2) : -1074 ≤ (splitP x).exp ∧ (splitP x).exp ≤ 971 ∧ 0 < (splitP x).frac ∧ (splitP x).frac < 9007199254740992 := by
  revert h
  unfold splitP
  split
  · intro h; simp at h
  split
  · intro h; simp at h
  split
  · intro h; dsimp only; omega
  split
  · intro h; dsimp only; omega
  · intro h; simp at h
theorem splitP_cls (x : Nat) : (splitP x).cls ≤ 4 := by
  unfold splitP
  split
  · simp
  split
  · simp
  split
  · simp
  split <;> simp
/-- A term's cells: whether it is below nought, its place, its words. -/
def termV (neg : Bool) (at_ : Nat) (W : List Nat) : List Value := .bool neg :: .int .i64 (at_ : Int) :: W.map u64v
/-- What is added or taken. -/
structure TH where
  cls : Nat
  neg : Bool
  tn : Bool
  at_ : Nat
  W : List Nat
def thingV (t : TH) : List Value := .int .i64 (t.cls : Int) :: .bool t.neg :: termV t.tn t.at_ t.W
def oneP (x : Nat) : TH :=
  if (splitP x).cls = 1 ∨ (splitP x).cls = 2 then ⟨(splitP x).cls, (splitP x).neg, (splitP x).neg, ((splitP x).exp + 2148).toNat / 64, laidW 0 (splitP x).frac (((splitP x).exp + 2148).toNat % 64)⟩
  else ⟨(splitP x).cls, (splitP x).neg, false, 0, [0, 0, 0]⟩

theorem laid_spec (neg : Bool) (hi lo e : Nat) (exp : Int) (w : World) (he : exp = (e : Int) - 2148) (he2 : e < 9000) (hhi : hi < 18446744073709551616) (hlo : lo < 18446744073709551616) : Ret Tryz.prog 273 [.bool neg, .int .u64 (hi : Int), .int .u64 (lo : Int), .int .i64 exp] w fun u w' => u = .agg (termV neg (e / 64) (laidW hi lo (e % 64))).toArray ∧ Chg [] w w' := by
 have hA : hi * 2 ^ (e % 64) % 18446744073709551616 < 2 ^ IntKind.u64.bits := Nat.mod_lt _ (by decide);have hB : lo / 2 ^ (64 - e % 64) < 2 ^ IntKind.u64.bits := Nat.lt_of_le_of_lt (Nat.div_le_self _ _) hlo;have hch : Chg [] w w := Chg.refl _ _;refine zE4 Tryz.func273 rfl ?_;refine Sr fun _ kh1 => ?_;refine WL.allocB (l := [.bool false, .int .i64 0, .int .u64 0, .int .u64 0, .int .u64 0]) rfl rfl fun b8 wm8 hb8 hcm8 hge8 => ?_;have hgehch8 := Nat.le_trans hch.size hge8;have hch := hch.ta hcm8;refine zz (kh1 (Sr fun _ kh3 => zm rfl ?_));refine WL.ev (Ev.subIn rfl rfl (by omega)) rfl ?_;rw [show exp - -2148 = (e : Int) by omega];refine WL.ev (Ev.convIn rfl rfl (in_u64 (by omega))) rfl ?_;refine WL.ev (Ev.remU (b := 64) rfl rfl (by omega)) rfl ?_;refine za rfl (zz (kh3 (Sr fun _ kh5 => zm rfl (zm rfl ?_))));refine WL.ev (Ev.subIn rfl rfl (by omega)) rfl ?_;rw [show exp - -2148 = (e : Int) by omega]
 first | refine WL.ev (Ev.quoIn rfl rfl (by omega) (by simp only [IntKind.max, IntKind.signed, IntKind.bits]; omega) (by omega)) rfl ?_ | refine WL.ev (Ev.quo rfl rfl (by omega)) rfl ?_
 refine zm rfl (zm rfl ?_);refine WL.ev (Ev.shlU64 rfl rfl) rfl ?_;refine zm rfl (zm rfl ?_);refine WL.ev (Ev.shlU64 rfl rfl) rfl ?_;refine zm rfl (zm rfl ?_)
 first | refine WL.ev (Ev.sub64In (a := 64) rfl rfl (by omega) (by omega)) rfl ?_ | refine WL.ev (Ev.sub64 (a := 64) rfl rfl (by omega)) rfl ?_
 refine WL.ev (Ev.shrU rfl rfl (by simp only [IntKind.bits]; omega)) rfl ?_;refine WL.ev (Ev.orU rfl rfl rfl hA hB) rfl ?_;refine zm rfl (zm rfl ?_)
 first | refine WL.ev (Ev.sub64In (a := 64) rfl rfl (by omega) (by omega)) rfl ?_ | refine WL.ev (Ev.sub64 (a := 64) rfl rfl (by omega)) rfl ?_
 refine WL.ev (Ev.shrU rfl rfl (by simp only [IntKind.bits]; omega)) rfl ?_;refine WL.ev (Ev.buildA (vs := _) (cs := [_, _, _]) rfl rfl) rfl ?_;refine WL.ev (Ev.build (vs := _) (cs := [_, _, _, _, _]) rfl rfl) rfl ?_;refine zss rfl rfl ao hb8 rfl fun ws1 hb8_ hcs1 => ?_;(try simp only [Sx.splice, qt] at hb8_);have hch := hch.s1 hcs1;have hb8 := hb8_;refine zz (kh5 ?_);refine zr (bodyA.retR1 rfl (RVal.cell rfl (hb8.varA rfl rfl)) ?_);exact ⟨rfl, hch⟩

theorem New_spec (w : World) : Ret Tryz.prog 106 [] w fun u w' => ∃ b, u = .pointer (some ⟨b, 0, none⟩) ∧ BK w' b 230 ((List.replicate 67 0).map u64v ++ SP.zero.cells) ∧ w.heap.size ≤ b ∧ Chg [] w w' := by
 have hch : Chg [] w w := Chg.refl _ _;refine zE0 Tryz.func106 rfl ?_;refine Sr fun _ kh1 => za rfl (zz (kh1 (Sr fun _ kh3 => ?_)));refine WL.ev (Ev.build (vs := _) (cs := [_, _, _, _, _, _, _, _, _, _, _, _, _, _, _, _, _, _, _, _, _, _, _, _, _, _, _, _, _, _, _, _, _, _, _, _, _, _, _, _, _, _, _, _, _, _, _, _, _, _, _, _, _, _, _, _, _, _, _, _, _, _, _, _, _, _, _, _, _, _, _, _, _]) rfl rfl) rfl ?_;refine zBh rfl rfl rfl hch fun b2 wm2 hb2 hcm2 hge2 hgehch2 hch => ?_;refine za rfl (zz (kh3 ?_));refine zr (zr1 rfl rfl ?_);exact ⟨_, rfl, hb2, hge2, hch⟩

theorem one_spec (x : Nat) (w : World) (hx : x < 18446744073709551616) : Ret Tryz.prog 192 [.float .f64 x] w fun u w' => u = .agg (thingV (oneP x)).toArray ∧ Chg [] w w' := by
 have hch : Chg [] w w := Chg.refl _ _;have hsf := @splitP_fin x;refine zE1 Tryz.func192 rfl ?_;refine Sr fun _ kh1 => ?_;refine WL.allocB (l := [.int .i64 0, .bool false, .bool false, .int .i64 0, .int .u64 0, .int .u64 0, .int .u64 0]) rfl rfl fun b2 wm2 hb2 hcm2 hge2 => ?_;have hgehch2 := Nat.le_trans hch.size hge2;have hch := hch.ta hcm2;refine zz (kh1 (Sr fun _ kh3 => zm rfl ?_));refine WL.call hasF143 rfl rfl (Split_spec x _ hx) fun v w1 h' => ?_;obtain ⟨rfl, hC6⟩ := h';have hch := hch.ta hC6;have hb2 := hb2.k0 hC6;refine WL.allocB (l := [.bool false, .int .i64 0, .int .i64 0, .int .u64 0]) rfl rfl fun b3 wm3 hb3 hcm3 hge3 => ?_;have hgehch3 := Nat.le_trans hch.size hge3;have hch := hch.ta hcm3;have hneb23 := zdd hb2.lt hge3;have hb2 := hb2.k0 hcm3;refine zss rfl rfl ao hb3 rfl fun ws2 hb3_ hcs2 => ?_;(try simp only [Sx.splice, qt] at hb3_);have hch := hch.s1 hcs2;have hb2 := hb2.kq hcs2;have hb3 := hb3_;refine zz (kh3 (Sr fun _ kh5 => zf rfl (zl hb3 rfl rfl (zf rfl (zl hb3 rfl rfl ?_)))));refine WL.ev (Ev.build (vs := _) (cs := [_, _, _, _, _, _, _]) rfl rfl) rfl ?_;refine WL.allocB (l := [.int .i64 0, .bool false, .bool false, .int .i64 0, .int .u64 0, .int .u64 0, .int .u64 0]) rfl rfl fun b4 wm4 hb4 hcm4 hge4 => ?_;have hgehch4 := Nat.le_trans hch.size hge4;have hch := hch.ta hcm4;have hneb24 := zdd hb2.lt hge4;have hb2 := hb2.k0 hcm4;have hneb34 := zdd hb3.lt hge4;have hb3 := hb3.k0 hcm4;refine zss rfl rfl ao hb4 rfl fun ws3 hb4_ hcs3 => ?_;(try simp only [Sx.splice, qt] at hb4_);have hch := hch.s1 hcs3;have hb2 := hb2.kq hcs3;have hb3 := hb3.kq hcs3;have hb4 := hb4_;refine zz (kh5 (zc fun _ kh7 => ?_));refine CW.seqM 19 (decide ((splitP x).cls = 1 ∨ (splitP x).cls = 2)) ?_ ?_
 ·refine zR fun _ kr8 => ?_;refine zf rfl (zl hb3 rfl rfl (zq rfl rfl (zm rfl ?_)));refine zb ?_ ?_<;>intro hg1<;>try simp only [qs] at hg1
  ·refine zv rfl (zv rfl (zv rfl (zt rfl rfl ?_)));refine WL.nil (kr8 _ _ _ ?_);refine ⟨rfl, rfl, Subs.consB rfl ?_ ?_⟩
   ·first | (simp; omega) | (refine decide_eq_decide.2 ?_; omega)
   ·exact SMg
  ·refine zw rfl (zf rfl (zw rfl (zl hb3 rfl rfl (zw rfl (zq rfl rfl (ze rfl rfl ?_))))));refine WL.nil (kr8 _ _ _ ?_);refine ⟨rfl, rfl, Subs.consB rfl ?_ ?_⟩
   ·first | (simp; omega) | (refine decide_eq_decide.2 ?_; omega)
   ·exact SMg
 ·refine zy rfl ?_ ?_<;>intro hc2<;>try simp only [qs] at hc2
  ·have hcl : (splitP x).cls = 1 ∨ (splitP x).cls = 2 := hc2
   have hsf2 := hsf hcl;refine zR fun _ kr9 => ?_;refine zf rfl (zl hb3 rfl rfl (zf rfl (zl hb3 rfl rfl (zf rfl (zl hb3 rfl rfl ?_)))));refine WL.call hasF273 rfl rfl (laid_spec (splitP x).neg 0 (splitP x).frac ((splitP x).exp + 2148).toNat (splitP x).exp _ (by omega) (by omega) (by decide) (by omega)) fun v w2 h' => ?_;obtain ⟨rfl, hC26⟩ := h'
   show WL _ _ _ _ _ _ ((26, Value.agg [_, _, _, _, _].toArray) :: _) _
   have hch := hch.ta hC26;have hb2 := hb2.k0 hC26;have hb4 := hb4.k0 hC26;refine zf rfl ?_;refine zss rfl rfl ao hb4 rfl fun ws4 hb4_ hcs4 => ?_;(try simp only [Sx.splice, qt] at hb4_);have hch := hch.s1 hcs4;have hb2 := hb2.kq hcs4;have hb4 := hb4_;refine WL.nil (kr9 _ _ _ (kh7 ?_));refine Sr fun _ kh10 => zg hb4 rfl ?_;refine zss rfl rfl ao hb2 rfl fun ws5 hb2_ hcs5 => ?_;(try simp only [Sx.splice, qt] at hb2_);have hch := hch.s1 hcs5;have hb2 := hb2_;refine zz (kh10 ?_);refine zr (bodyA.retR1 rfl (RVal.cell rfl (hb2.varA rfl rfl)) ?_);refine ⟨?_, hch⟩;unfold oneP; rw [if_pos hcl]; rfl
  ·have hcl : ¬ ((splitP x).cls = 1 ∨ (splitP x).cls = 2) := fun q => by have q2 := hc2; omega
   refine zkk ?_;refine kh7 (Sr fun _ kh12 => zg hb4 rfl ?_);refine zss rfl rfl ao hb2 rfl fun ws6 hb2_ hcs6 => ?_;(try simp only [Sx.splice, qt] at hb2_);have hch := hch.s1 hcs6;have hb2 := hb2_;refine zz (kh12 ?_);refine zr (bodyA.retR1 rfl (RVal.cell rfl (hb2.varA rfl rfl)) ?_);refine ⟨?_, hch⟩;unfold oneP; rw [if_neg hcl]; rfl

end

/- Package super: neg, minus, move. No condition. -/
section
open Go Sx Wd
set_option exponentiation.threshold 5000

theorem neg_spec {T : TypeId} {R : List Value} (b : Nat) (L : List Nat) (w : World) (hB : TB w b T L R) (hL : L.length = 67) (hW : W64 L) : Ret Tryz.prog 197 [.pointer (some ⟨b, 0, none⟩)] w fun u w' => u = .bool (decide (9223372036854775808 ≤ L.getD 66 0)) ∧ w = w' := by
 have h66 := hW.getD 66;refine zE1 Tryz.func197 rfl ?_;refine Sr fun _ kh1 => za rfl (zz (kh1 (Sr fun _ kh3 => zm rfl ?_)));refine WL.ev (Ev.nilPtr rfl) rfl ?_;refine WL.ev (Ev.ixT (66) rfl rfl (by omega) (by omega)) rfl ?_;refine WL.ev (Ev.load rfl rfl (hB.t64 (by first | omega | (simp; omega)))) rfl ?_;refine WL.ev (Ev.shrU (b := 63) rfl rfl (by simp only [IntKind.bits]; omega)) rfl ?_;rw [show L.getD 66 0 / 2 ^ 63 = L.getD 66 0 / 9223372036854775808 by omega];refine zq rfl rfl (za rfl (zz (kh3 ?_)));refine zr (zr1 rfl rfl ?_);refine ⟨congrArg Value.bool (decide_eq_decide.2 (by omega)), rfl⟩

structure KMin (L : List Nat) (R : List Value) (T : TypeId) (b : Nat) (w0 : World) (g : Nat × Nat × List Nat) (w : World) : Prop where
  m : MinI L g.2.2 g.2.1 g.1
  hB : TB w b T g.2.2 R
  ch : Chg [b] w0 w

theorem minus_spec {T : TypeId} {R : List Value} (b : Nat) (L : List Nat) (w : World) (hB : TB w b T L R) (hL : L.length = 67) (hW : W64 L) : Ret Tryz.prog 274 [.pointer (some ⟨b, 0, none⟩)] w fun u w' => ∃ C, TB w' b T C R ∧ C.length = 67 ∧ W64 C ∧ tv C = (18446744073709551616 ^ 67 - tv L) % 18446744073709551616 ^ 67 ∧ Chg [b] w w' := by
 have hch : Chg [b] w w := Chg.refl _ _;refine zE1 Tryz.func274 rfl ?_;refine Sr fun _ kh1 => za rfl (zz (kh1 (Sr fun _ kh3 => zm rfl (zz (kh3 ?_)))));refine CW.block ?_;refine CW.loop (S := fun g : Nat × Nat × List Nat => [(0, .pointer (some ⟨b, 0, none⟩)), (2, .int .u64 (g.2.1 : Int)), (4, .int .i64 (g.1 : Int))]) (Inv := KMin L R T b w) (mu := fun g => 67 - g.1) ((0, 1, L)) ?_ ?_ ?_
 ·exact ⟨MinI.zero hW, hB, hch⟩
 ·exact SLp
 ·rintro ⟨i, c, C⟩ wr ⟨hM, hB, hch⟩;dsimp only at hM hB hch;dsimp only;have hi67 := hM.hi;have hCl := hM.len;have hcc := hM.c1;have hCi := hM.w.getD i;refine Sr fun _ kh5 => ?_;refine WL.ev (Ev.lss rfl rfl) rfl ?_;refine zz (kh5 (zc fun _ kh7 => ?_));refine zy rfl ?_ ?_<;>intro hc1<;>try simp only [qs] at hc1
  ·refine zkk ?_
   refine kh7 (zc fun _ kh8 => ?_);refine CW.block ?_;refine Sr fun _ kh9 => zm rfl (za rfl (zz (kh9 ?_)));refine CW.regionKC 15 17 rfl hmix fun kR11 kr11 hS hdr => ?_;have hch := hch.ta hdr;have hB := hB.keep0 hdr;have hB_r := hB;refine wk 0 rfl hS (fun _ _ => Ev.move rfl) (wk 1 rfl hS (fun _ _ => Ev.move rfl) (wk 2 rfl hS (fun _ _ => Ev.move rfl) (wk 3 rfl hS (fun _ _ => Ev.move rfl) (wk 4 rfl hS (fun _ _ => Ev.nilPtr rfl) (wk 5 rfl hS (fun _ _ => Ev.ixT (i) rfl rfl (by omega) (by omega)) (wk 6 rfl hS (fun _ hw' => Ev.load rfl rfl ((hB_r.keep0 hw').t64 (by first | omega | (simp; omega)))) (wk 7 rfl hS (fun _ _ => Ev.complU rfl rfl (by simp only [IntKind.bits]; omega)) (wk 8 rfl hS (fun _ _ => Ev.move rfl) (wk 9 rfl hS (fun _ _ => Ev.ext rfl (ext319 (18446744073709551615 - C.getD i 0) 0 c hcc _)) (wk 10 rfl hS (fun _ _ => Ev.move rfl) (wk 11 rfl hS (fun _ _ => Ev.extract rfl rfl) ?_)))))))))));refine WK.takeT 12 rfl (by kernel_rfl) (by kernel_rfl) (by kernel_rfl) (by kernel_rfl) (fun _ => hS) (fun w' => Ev.extract rfl rfl) rfl ?_;refine WK.takeT 13 rfl (by kernel_rfl) (by kernel_rfl) (by kernel_rfl) (by kernel_rfl) (fun _ => hS) (fun w' => Ev.nilPtr rfl) rfl ?_;refine wk 14 rfl hS (fun _ _ => Ev.ixT (i) rfl rfl (by omega) (by omega)) ?_;refine WK.storeT 15 rfl (by kernel_rfl) (by kernel_rfl) rfl rfl hB (by first | omega | (simp; omega)) fun ws7 hB_ hcs7 => ?_;have hch := hch.s1 hcs7;have hB := hB_;refine WK.after 16 rfl (by kernel_rfl) (by kernel_rfl) (Ev.assign rfl) rfl ?_;refine WK.done (by kernel_rfl) (kr11 _ _ _ ?_);refine kh8 ?_;refine zR fun _ kr12 => ?_;(first | refine zi rfl rfl ?_ | refine zo rfl rfl ?_);refine zm rfl ?_;refine WL.nil (kr12 _ _ _ ?_);refine ⟨rfl, (i + 1, ((18446744073709551615 - C.getD i 0) + 0 + c) / 18446744073709551616, C.set i (((18446744073709551615 - C.getD i 0) + 0 + c) % 18446744073709551616)), ?_, ?_, ?_⟩
   ·exact SLp
   ·exact ⟨hM.step (by omega) (by omega), hB, hch⟩
   ·show 67 - (i + 1) < 67 - i; omega
  ·have hiX : i = L.length := by omega
   subst hiX;have hfin := hM.done hW;rw [hL] at hfin;refine CW.exit ?_;refine bodyA.norm0 rfl ?_;exact ⟨C, hB, by omega, hM.w, hfin, hch⟩

end

/- Package super: move. No condition. -/
section
open Go Sx Wd
set_option exponentiation.threshold 5000

theorem term_at {n : Bool} {a_ w0 w1 w2 : Nat} : ∀ {j : Nat}, j < 3 → (termV n a_ [w0, w1, w2])[2 + j]? = some (.int .u64 (([w0, w1, w2].getD j 0 : Nat) : Int))
  | 0, _ => rfl
  | 1, _ => rfl
  | 2, _ => rfl
/-- What adding (sub false) or taking a term has come to. -/
def MvR (sub : Bool) (L W : List Nat) (a_ : Nat) (C : List Nat) : Prop :=
  (sub = false → ∃ c, c ≤ 1 ∧ tv C + c * 18446744073709551616 ^ 67 = tv L + tv W * 18446744073709551616 ^ a_) ∧ (sub = true → ∃ c, c ≤ 1 ∧ tv C + tv W * 18446744073709551616 ^ a_ = tv L + c * 18446744073709551616 ^ 67)
structure MvI (sub : Bool) (L W : List Nat) (a_ : Nat) (C : List Nat) (c i : Nat) : Prop where
  a : sub = false → MvA L W a_ C c i
  s : sub = true → MvS L W a_ C c i
theorem MvI.all {sub : Bool} {L W C : List Nat} {a_ c i : Nat} (h : MvI sub L W a_ C c i) : C.length = L.length ∧ W64 C ∧ a_ ≤ i ∧ i ≤ L.length ∧ c ≤ 1 := by
  cases sub
  · have := h.a rfl; exact ⟨this.len, this.w, this.lo, this.hi, this.c1⟩
  · have := h.s rfl; exact ⟨this.len, this.w, this.lo, this.hi, this.c1⟩
theorem MvI.done {sub : Bool} {L W C : List Nat} {a_ c i : Nat} (h : MvI sub L W a_ C c i) (hW : W.length = 3) (hL : L.length = 67) (ha : a_ ≤ 64) (hx : ¬ (i < 67 ∧ (i < a_ + 3 ∨ 0 < c))) : MvR sub L W a_ C := by
  obtain ⟨h1, h2, h3, h4, h5⟩ := h.all
  have e1 : i - a_ = 3 + (i - a_ - 3) := by omega
  have e2 : c * 18446744073709551616 ^ i = c * 18446744073709551616 ^ 67 := by
    by_cases q : i = 67
    · rw [q]
    · have : c = 0 := by omega
      rw [this, Nat.zero_mul, Nat.zero_mul]
  refine ⟨fun q => ⟨c, h5, ?_⟩, fun q => ⟨c, h5, ?_⟩⟩
  · have := (h.a q).eq
    rw [e1, trm3 hW, e2] at this; exact this
  · have := (h.s q).eq
    rw [e1, trm3 hW, e2] at this; exact this
theorem sub_step {x y c : Nat} (hx : x < 18446744073709551616) (hy : y < 18446744073709551616) (hc : c ≤ 1) : x + (if x < y + c then 1 else 0) * 18446744073709551616 = (x + 18446744073709551616 - y - c) % 18446744073709551616 + y + c := by
  split <;> omega
structure KMv (sub : Bool) (L W : List Nat) (a_ : Nat) (tn : Bool) (R : List Value) (T : TypeId) (b b4 : Nat) (w0 : World) (g : Nat × Nat × List Nat) (w : World) : Prop where
  m : MvI sub L W a_ g.2.2 g.2.1 g.1
  hB : TB w b T g.2.2 R
  h4 : BK w b4 234 (termV tn a_ W)
  ch : Chg [b] w0 w

theorem move_spec {T : TypeId} {R : List Value} (b : Nat) (L W : List Nat) (a_ : Nat) (tn less : Bool) (w : World) (hB : TB w b T L R) (hL : L.length = 67) (hW : W64 L) (hW3 : W.length = 3) (hWW : W64 W) (ha : a_ ≤ 64) : Ret Tryz.prog 317 [.pointer (some ⟨b, 0, none⟩), .agg (termV tn a_ W).toArray, .bool less] w fun u w' => ∃ C, TB w' b T C R ∧ C.length = 67 ∧ W64 C ∧ MvR (tn != less) L W a_ C ∧ Chg [b] w w' := by
 obtain ⟨w0, w1, w2, rfl⟩ : ∃ w0 w1 w2, W = [w0, w1, w2] := by match W, hW3 with | [x, y, z], _ => exact ⟨_, _, _, rfl⟩
 have hch : Chg [b] w w := Chg.refl _ _;refine zE3 Tryz.func317 rfl ?_;refine Sr fun _ kh1 => ?_;refine zBh rfl rfl rfl hch fun b4 wm4 hb4 hcm4 hge4 hgehch4 hch => ?_;have hneb4 : b ≠ b4 := by have := hB.lt; omega
 have hB := hB.keep0 hcm4;refine zz (kh1 (Sr fun _ kh3 => za rfl (zz (kh3 (Sr fun _ kh5 => zf rfl (zl hb4 rfl rfl (za rfl (zz (kh5 ?_)))))))));refine CW.block ?_;refine CW.loop (S := fun g : Nat × Nat × List Nat => [(0, .pointer (some ⟨b, 0, none⟩)), (2, .bool less), (4, .pointer (some ⟨b4, 0, none⟩)), (6, .int .u64 (g.2.1 : Int)), (7, .int .i64 (g.1 : Int))]) (Inv := KMv (tn != less) L [w0, w1, w2] a_ tn R T b b4 w) (mu := fun g => 67 - g.1) ((a_, 0, L)) ?_ ?_ ?_
 ·exact ⟨⟨fun _ => MvA.zero hW (by omega), fun _ => MvS.zero hW (by omega)⟩, hB, hb4, hch⟩
 ·exact SLp
 ·rintro ⟨i, c, C⟩ wr ⟨hM, hB, hb4, hch⟩;dsimp only at hM hB hb4 hch;dsimp only;obtain ⟨hCl, hCw, hia, hi67, hcc⟩ := hM.all;have hCi := hCw.getD i;have hwv := hWW.getD (i - a_);unfold termV at hb4;refine zc fun _ kh7 => ?_;refine CW.seqM 23 (decide (i < 67 ∧ (i < a_ + 3 ∨ 0 < c))) ?_ ?_
  ·refine zR fun _ kr8 => ?_;refine zm rfl ?_;refine WL.ev (Ev.lss rfl rfl) rfl ?_;refine zm rfl ?_;refine zb ?_ ?_<;>intro hg1<;>try simp only [qs] at hg1
   ·refine zw rfl (zm rfl (zw rfl (zf rfl (zw rfl (zl hb4 rfl rfl (zw rfl ?_))))));(first | refine zi rfl rfl ?_ | refine zo rfl rfl ?_);refine zw rfl ?_
    refine WL.ev (Ev.lss rfl rfl) rfl ?_;refine zw rfl (zm rfl ?_);refine zb ?_ ?_<;>intro hg2<;>try simp only [qs] at hg2
    ·refine zv rfl (zv rfl (zw rfl (zt rfl rfl (zt rfl rfl ?_))));refine WL.nil (kr8 _ _ _ ?_);refine ⟨rfl, rfl, Subs.consB rfl ?_ ?_⟩
     ·first | (simp; omega) | (refine decide_eq_decide.2 ?_; omega)
     ·exact SMg
    ·refine zw rfl (zm rfl (zw rfl ?_));refine WL.ev (Ev.gtr rfl rfl) rfl ?_
     refine zw rfl (ze rfl rfl (zt rfl rfl ?_));refine WL.nil (kr8 _ _ _ ?_);refine ⟨rfl, rfl, Subs.consB rfl ?_ ?_⟩
     ·first | (simp; omega) | (refine decide_eq_decide.2 ?_; omega)
     ·exact SMg
   ·refine zv rfl (zv rfl (zv rfl (zv rfl (zv rfl (zv rfl (zu rfl (zu rfl (zv rfl (ze rfl rfl ?_)))))))));refine WL.nil (kr8 _ _ _ ?_);refine ⟨rfl, rfl, Subs.consB rfl ?_ ?_⟩
    ·first | (simp; omega) | (refine decide_eq_decide.2 ?_; omega)
    ·exact SMg
  ·refine zy rfl ?_ ?_<;>intro hc3<;>try simp only [qs] at hc3
   ·have hgo := hc3
    refine zkk ?_;refine kh7 (zc fun _ kh9 => ?_);refine CW.block ?_;refine Sr fun _ kh10 => za rfl (zz (kh10 (zc fun _ kh12 => Sr fun _ kh13 => zm rfl (zf rfl (zl hb4 rfl rfl ?_)))));(first | refine zi rfl rfl ?_ | refine zo rfl rfl ?_);refine WL.ev (Ev.lss rfl rfl) rfl ?_;refine zz (kh13 ?_);refine zy rfl ?_ ?_<;>intro hc4<;>try simp only [qs] at hc4
    ·refine zR fun _ kr15 => ?_
     refine zm rfl (zf rfl (zl hb4 rfl rfl ?_))
     first | refine WL.ev (Ev.subIn rfl rfl (by omega)) rfl ?_ | refine WL.ev (Ev.sub rfl rfl) rfl ?_
     refine zf rfl ?_;refine WL.ev (Ev.indexAddrArr rfl rfl (by omega) (by omega)) rfl ?_;rw [show 2 + ((i : Int) - (a_ : Int)).toNat * 1 = 2 + (i - a_) by omega];refine WL.ev (Ev.load rfl rfl (hb4.at_ (term_at (n := tn) (by omega)))) rfl ?_;refine za rfl ?_;refine WL.nil (kr15 _ _ _ (kh12 ?_));refine Sr fun _ kh16 => zf rfl (zl hb4 rfl rfl (zm rfl ?_));refine WL.ev (Ev.neq_bool rfl rfl) rfl ?_;refine zz (kh16 ?_);refine zy rfl ?_ ?_<;>intro hc5<;>try simp only [qs] at hc5
     ·have hneq := hc5
      refine CW.regionKC 15 17 rfl hmix fun kR18 kr18 hS hdr => ?_;have hch := hch.ta hdr;have hB := hB.keep0 hdr;have hb4 := hb4.k0 hdr;have hB_r := hB;refine wk 0 rfl hS (fun _ _ => Ev.move rfl) (wk 1 rfl hS (fun _ _ => Ev.move rfl) (wk 2 rfl hS (fun _ _ => Ev.move rfl) (wk 3 rfl hS (fun _ _ => Ev.move rfl) (wk 4 rfl hS (fun _ _ => Ev.nilPtr rfl) (wk 5 rfl hS (fun _ _ => Ev.ixT (i) rfl rfl (by omega) (by omega)) (wk 6 rfl hS (fun _ hw' => Ev.load rfl rfl ((hB_r.keep0 hw').t64 (by first | omega | (simp; omega)))) (wk 7 rfl hS (fun _ _ => Ev.move rfl) (wk 8 rfl hS (fun _ _ => Ev.move rfl) (wk 9 rfl hS (fun _ _ => Ev.ext rfl (ext337 (C.getD i 0) ([w0, w1, w2].getD (i - a_) 0) c hcc _)) (wk 10 rfl hS (fun _ _ => Ev.move rfl) (wk 11 rfl hS (fun _ _ => Ev.extract rfl rfl) ?_)))))))))));refine WK.takeT 12 rfl (by kernel_rfl) (by kernel_rfl) (by kernel_rfl) (by kernel_rfl) (fun _ => hS) (fun w' => Ev.extract rfl rfl) rfl ?_;refine WK.takeT 13 rfl (by kernel_rfl) (by kernel_rfl) (by kernel_rfl) (by kernel_rfl) (fun _ => hS) (fun w' => Ev.nilPtr rfl) rfl ?_;refine wk 14 rfl hS (fun _ _ => Ev.ixT (i) rfl rfl (by omega) (by omega)) ?_;refine WK.storeT 15 rfl (by kernel_rfl) (by kernel_rfl) rfl rfl hB (by first | omega | (simp; omega)) fun ws8 hB_ hcs8 => ?_;have hch := hch.s1 hcs8;have hb4 := hb4.kq hcs8;have hB := hB_;refine WK.after 16 rfl (by kernel_rfl) (by kernel_rfl) (Ev.assign rfl) rfl ?_;refine WK.done (by kernel_rfl) (kr18 _ _ _ ?_);refine kh9 ?_;refine zR fun _ kr19 => ?_;refine zm rfl ?_;(first | refine zi rfl rfl ?_ | refine zo rfl rfl ?_);refine za rfl ?_;refine WL.nil (kr19 _ _ _ ?_);refine ⟨rfl, (i + 1, (if C.getD i 0 < ([w0, w1, w2].getD (i - a_) 0) + c then 1 else 0), C.set i ((C.getD i 0 + 18446744073709551616 - ([w0, w1, w2].getD (i - a_) 0) - c) % 18446744073709551616)), ?_, ?_, ?_⟩
      ·exact SLp
      ·have hsub : (tn != less) = true := by simpa using hneq
       refine ⟨⟨fun q => (by rw [hsub] at q; cases q), fun q => ?_⟩, hB, hb4, hch⟩;exact (hM.s q).step (by omega) hwv (Nat.mod_lt _ (by decide)) (by show (if C.getD i 0 < ([w0, w1, w2].getD (i - a_) 0) + c then 1 else 0) ≤ 1; split <;> omega) (by rw [show [w0, w1, w2].getD (i - a_) 0 = ([w0, w1, w2].getD (i - a_) 0) from rfl]; exact sub_step hCi hwv hcc)
      ·show 67 - (i + 1) < 67 - i; omega
     ·have hneq := hc5
      refine CW.regionKC 15 17 rfl hmix fun kR20 kr20 hS hdr => ?_;have hch := hch.ta hdr;have hB := hB.keep0 hdr;have hb4 := hb4.k0 hdr;have hB_r := hB;refine wk 0 rfl hS (fun _ _ => Ev.move rfl) (wk 1 rfl hS (fun _ _ => Ev.move rfl) (wk 2 rfl hS (fun _ _ => Ev.move rfl) (wk 3 rfl hS (fun _ _ => Ev.move rfl) (wk 4 rfl hS (fun _ _ => Ev.nilPtr rfl) (wk 5 rfl hS (fun _ _ => Ev.ixT (i) rfl rfl (by omega) (by omega)) (wk 6 rfl hS (fun _ hw' => Ev.load rfl rfl ((hB_r.keep0 hw').t64 (by first | omega | (simp; omega)))) (wk 7 rfl hS (fun _ _ => Ev.move rfl) (wk 8 rfl hS (fun _ _ => Ev.move rfl) (wk 9 rfl hS (fun _ _ => Ev.ext rfl (ext319 (C.getD i 0) ([w0, w1, w2].getD (i - a_) 0) c hcc _)) (wk 10 rfl hS (fun _ _ => Ev.move rfl) (wk 11 rfl hS (fun _ _ => Ev.extract rfl rfl) ?_)))))))))));refine WK.takeT 12 rfl (by kernel_rfl) (by kernel_rfl) (by kernel_rfl) (by kernel_rfl) (fun _ => hS) (fun w' => Ev.extract rfl rfl) rfl ?_;refine WK.takeT 13 rfl (by kernel_rfl) (by kernel_rfl) (by kernel_rfl) (by kernel_rfl) (fun _ => hS) (fun w' => Ev.nilPtr rfl) rfl ?_;refine wk 14 rfl hS (fun _ _ => Ev.ixT (i) rfl rfl (by omega) (by omega)) ?_;refine WK.storeT 15 rfl (by kernel_rfl) (by kernel_rfl) rfl rfl hB (by first | omega | (simp; omega)) fun ws9 hB_ hcs9 => ?_;have hch := hch.s1 hcs9;have hb4 := hb4.kq hcs9;have hB := hB_;refine WK.after 16 rfl (by kernel_rfl) (by kernel_rfl) (Ev.assign rfl) rfl ?_;refine WK.done (by kernel_rfl) (kr20 _ _ _ ?_);refine kh9 ?_;refine zR fun _ kr21 => ?_;refine zm rfl ?_;(first | refine zi rfl rfl ?_ | refine zo rfl rfl ?_);refine za rfl ?_;refine WL.nil (kr21 _ _ _ ?_);refine ⟨rfl, (i + 1, ((C.getD i 0 + ([w0, w1, w2].getD (i - a_) 0) + c) / 18446744073709551616), C.set i ((C.getD i 0 + ([w0, w1, w2].getD (i - a_) 0) + c) % 18446744073709551616)), ?_, ?_, ?_⟩
      ·exact SLp
      ·have hsub : (tn != less) = false := by simpa using hneq
       refine ⟨⟨fun q => ?_, fun q => (by rw [hsub] at q; cases q)⟩, hB, hb4, hch⟩;have hst := (hM.a q).step (by omega) hwv;exact hst
      ·show 67 - (i + 1) < 67 - i; omega
    ·have hz : [w0, w1, w2].getD (i - a_) 0 = 0 := by rw [List.getD_eq_getElem?_getD, List.getElem?_eq_none (by simp; omega)]; rfl
     refine zkk ?_;refine kh12 (Sr fun _ kh22 => zf rfl (zl hb4 rfl rfl (zm rfl ?_)));refine WL.ev (Ev.neq_bool rfl rfl) rfl ?_;refine zz (kh22 ?_);refine zy rfl ?_ ?_<;>intro hc6<;>try simp only [qs] at hc6
     ·have hneq := hc6
      refine CW.regionKC 15 17 rfl hmix fun kR24 kr24 hS hdr => ?_;have hch := hch.ta hdr;have hB := hB.keep0 hdr;have hb4 := hb4.k0 hdr;have hB_r := hB;refine wk 0 rfl hS (fun _ _ => Ev.move rfl) (wk 1 rfl hS (fun _ _ => Ev.move rfl) (wk 2 rfl hS (fun _ _ => Ev.move rfl) (wk 3 rfl hS (fun _ _ => Ev.move rfl) (wk 4 rfl hS (fun _ _ => Ev.nilPtr rfl) (wk 5 rfl hS (fun _ _ => Ev.ixT (i) rfl rfl (by omega) (by omega)) (wk 6 rfl hS (fun _ hw' => Ev.load rfl rfl ((hB_r.keep0 hw').t64 (by first | omega | (simp; omega)))) (wk 7 rfl hS (fun _ _ => Ev.move rfl) (wk 8 rfl hS (fun _ _ => Ev.move rfl) (wk 9 rfl hS (fun _ _ => Ev.ext rfl (ext337 (C.getD i 0) 0 c hcc _)) (wk 10 rfl hS (fun _ _ => Ev.move rfl) (wk 11 rfl hS (fun _ _ => Ev.extract rfl rfl) ?_)))))))))));refine WK.takeT 12 rfl (by kernel_rfl) (by kernel_rfl) (by kernel_rfl) (by kernel_rfl) (fun _ => hS) (fun w' => Ev.extract rfl rfl) rfl ?_;refine WK.takeT 13 rfl (by kernel_rfl) (by kernel_rfl) (by kernel_rfl) (by kernel_rfl) (fun _ => hS) (fun w' => Ev.nilPtr rfl) rfl ?_;refine wk 14 rfl hS (fun _ _ => Ev.ixT (i) rfl rfl (by omega) (by omega)) ?_;refine WK.storeT 15 rfl (by kernel_rfl) (by kernel_rfl) rfl rfl hB (by first | omega | (simp; omega)) fun ws10 hB_ hcs10 => ?_;have hch := hch.s1 hcs10;have hb4 := hb4.kq hcs10;have hB := hB_;refine WK.after 16 rfl (by kernel_rfl) (by kernel_rfl) (Ev.assign rfl) rfl ?_;refine WK.done (by kernel_rfl) (kr24 _ _ _ ?_);refine kh9 ?_;refine zR fun _ kr25 => ?_;refine zm rfl ?_;(first | refine zi rfl rfl ?_ | refine zo rfl rfl ?_);refine za rfl ?_;refine WL.nil (kr25 _ _ _ ?_);refine ⟨rfl, (i + 1, (if C.getD i 0 < 0 + c then 1 else 0), C.set i ((C.getD i 0 + 18446744073709551616 - 0 - c) % 18446744073709551616)), ?_, ?_, ?_⟩
      ·exact SLp
      ·have hsub : (tn != less) = true := by simpa using hneq
       refine ⟨⟨fun q => (by rw [hsub] at q; cases q), fun q => ?_⟩, hB, hb4, hch⟩;exact (hM.s q).step (by omega) hwv (Nat.mod_lt _ (by decide)) (by show (if C.getD i 0 < 0 + c then 1 else 0) ≤ 1; split <;> omega) (by rw [show [w0, w1, w2].getD (i - a_) 0 = 0 from hz]; exact sub_step hCi (by decide) hcc)
      ·show 67 - (i + 1) < 67 - i; omega
     ·have hneq := hc6
      refine CW.regionKC 15 17 rfl hmix fun kR26 kr26 hS hdr => ?_;have hch := hch.ta hdr;have hB := hB.keep0 hdr;have hb4 := hb4.k0 hdr;have hB_r := hB;refine wk 0 rfl hS (fun _ _ => Ev.move rfl) (wk 1 rfl hS (fun _ _ => Ev.move rfl) (wk 2 rfl hS (fun _ _ => Ev.move rfl) (wk 3 rfl hS (fun _ _ => Ev.move rfl) (wk 4 rfl hS (fun _ _ => Ev.nilPtr rfl) (wk 5 rfl hS (fun _ _ => Ev.ixT (i) rfl rfl (by omega) (by omega)) (wk 6 rfl hS (fun _ hw' => Ev.load rfl rfl ((hB_r.keep0 hw').t64 (by first | omega | (simp; omega)))) (wk 7 rfl hS (fun _ _ => Ev.move rfl) (wk 8 rfl hS (fun _ _ => Ev.move rfl) (wk 9 rfl hS (fun _ _ => Ev.ext rfl (ext319 (C.getD i 0) 0 c hcc _)) (wk 10 rfl hS (fun _ _ => Ev.move rfl) (wk 11 rfl hS (fun _ _ => Ev.extract rfl rfl) ?_)))))))))));refine WK.takeT 12 rfl (by kernel_rfl) (by kernel_rfl) (by kernel_rfl) (by kernel_rfl) (fun _ => hS) (fun w' => Ev.extract rfl rfl) rfl ?_;refine WK.takeT 13 rfl (by kernel_rfl) (by kernel_rfl) (by kernel_rfl) (by kernel_rfl) (fun _ => hS) (fun w' => Ev.nilPtr rfl) rfl ?_;refine wk 14 rfl hS (fun _ _ => Ev.ixT (i) rfl rfl (by omega) (by omega)) ?_;refine WK.storeT 15 rfl (by kernel_rfl) (by kernel_rfl) rfl rfl hB (by first | omega | (simp; omega)) fun ws11 hB_ hcs11 => ?_;have hch := hch.s1 hcs11;have hb4 := hb4.kq hcs11;have hB := hB_;refine WK.after 16 rfl (by kernel_rfl) (by kernel_rfl) (Ev.assign rfl) rfl ?_;refine WK.done (by kernel_rfl) (kr26 _ _ _ ?_);refine kh9 ?_;refine zR fun _ kr27 => ?_;refine zm rfl ?_;(first | refine zi rfl rfl ?_ | refine zo rfl rfl ?_);refine za rfl ?_;refine WL.nil (kr27 _ _ _ ?_);refine ⟨rfl, (i + 1, ((C.getD i 0 + 0 + c) / 18446744073709551616), C.set i ((C.getD i 0 + 0 + c) % 18446744073709551616)), ?_, ?_, ?_⟩
      ·exact SLp
      ·have hsub : (tn != less) = false := by simpa using hneq
       refine ⟨⟨fun q => ?_, fun q => (by rw [hsub] at q; cases q)⟩, hB, hb4, hch⟩;have hst := (hM.a q).step (by omega) hwv;rw [hz] at hst;exact hst
      ·show 67 - (i + 1) < 67 - i; omega
   ·have hstop := hc3
    refine CW.exit ?_;refine bodyA.norm0 rfl ?_;exact ⟨C, hB, by omega, hCw, hM.done rfl hL ha hstop, hch⟩

end

/- Two's complement: what a whole sum is. No condition. -/
section
open Go Sx Wd
set_option exponentiation.threshold 5000

def BB : Nat := 18446744073709551616 ^ 66
def MM : Nat := 18446744073709551616 ^ 67
theorem MM_eq : MM = BB * 18446744073709551616 := Nat.pow_succ ..
/-- Words that stand for S. -/
structure Rep (L : List Nat) (S : Int) : Prop where
  len : L.length = 67
  w : W64 L
  eq : (tv L : Int) = S % (MM : Int)
theorem Rep.zero : Rep (List.replicate 67 0) 0 := ⟨by simp, fun x hx => by rw [List.mem_replicate] at hx; rw [hx.2]; decide, by rw [tv_zero]; simp⟩
theorem emod_of {a S M c : Int} (h0 : 0 ≤ a) (h1 : a < M) (h : a = S + c * M) : a = S % M := by
  have := Int.emod_eq_of_lt h0 h1
  rw [← this, h]
  exact Int.add_mul_emod_self_right ..
theorem MvR.rep {sub : Bool} {L W C : List Nat} {a_ : Nat} {S : Int} (h : MvR sub L W a_ C) (hr : Rep L S) (hC : C.length = 67) (hw : W64 C) :
    Rep C (if sub = true then S - ((tv W * 18446744073709551616 ^ a_ : Nat) : Int) else S + ((tv W * 18446744073709551616 ^ a_ : Nat) : Int)) := by
  have h1 : tv C < MM := by have := tv_lt hw; rw [hC] at this; exact this
  obtain ⟨_, _, he⟩ := hr
  have hd := Int.emod_add_mul_ediv S (MM : Int)
  refine ⟨hC, hw, ?_⟩
  generalize hX : tv W * 18446744073709551616 ^ a_ = X at h ⊢
  cases sub
  · obtain ⟨c, hc, e⟩ := h.1 rfl
    rw [hX, show (18446744073709551616 : Nat) ^ 67 = MM from rfl] at e
    rw [if_neg (by simp)]
    refine emod_of (c := -(S / (MM : Int)) - (c : Int)) (by omega) (by omega) ?_
    have e' : (tv C : Int) + (c : Int) * (MM : Int) = (tv L : Int) + (X : Int) := by exact_mod_cast e
    rw [Int.sub_mul, Int.neg_mul, Int.mul_comm (S / (MM : Int))]
    omega
  · obtain ⟨c, hc, e⟩ := h.2 rfl
    rw [hX, show (18446744073709551616 : Nat) ^ 67 = MM from rfl] at e
    rw [if_pos rfl]
    refine emod_of (c := -(S / (MM : Int)) + (c : Int)) (by omega) (by omega) ?_
    have e' : (tv C : Int) + (X : Int) = (tv L : Int) + (c : Int) * (MM : Int) := by exact_mod_cast e
    rw [Int.add_mul, Int.neg_mul, Int.mul_comm (S / (MM : Int))]
    omega
theorem Rep.split {L : List Nat} {S : Int} (hr : Rep L S) : tv L = tv (L.take 66) + L.getD 66 0 * BB ∧ tv (L.take 66) < BB := by
  have h1 := tv_take (l := L) (i := 66) (by rw [hr.len]; decide)
  rw [show L.take (66 + 1) = L from List.take_of_length_le (by rw [hr.len]; decide)] at h1
  refine ⟨h1, ?_⟩
  have := tv_lt (l := L.take 66) (fun x hx => hr.w x (List.mem_of_mem_take hx))
  rwa [List.length_take, hr.len] at this
/-- A sum within its bounds: the highest word, and what is below. -/
theorem Rep.pos {L : List Nat} {S : Int} (hr : Rep L S) (h0 : 0 ≤ S) (h1 : S < (16384 * BB : Nat)) : L.getD 66 0 < 16384 ∧ (tv L : Int) = S := by
  obtain ⟨h2, h3⟩ := hr.split
  have hM := MM_eq
  have he := hr.eq
  rw [Int.emod_eq_of_lt h0 (by omega)] at he
  refine ⟨?_, he⟩
  generalize L.getD 66 0 = x at h2 ⊢
  have h4 : x * BB < 16384 * BB := by omega
  exact Nat.lt_of_mul_lt_mul_right h4
theorem Rep.neg {L : List Nat} {S : Int} (hr : Rep L S) (h0 : S < 0) (h1 : -((16384 * BB : Nat) : Int) < S) : 18446744073709535232 ≤ L.getD 66 0 ∧ (L.getD 66 0 = 18446744073709535232 → 0 < tv (L.take 66)) ∧ (tv L : Int) = S + (MM : Int) := by
  obtain ⟨h2, h3⟩ := hr.split
  have hM := MM_eq
  have he := hr.eq
  have e : S % (MM : Int) = S + (MM : Int) := (emod_of (c := 1) (by omega) (by omega) (by omega)).symm
  rw [e] at he
  refine ⟨?_, fun q => ?_, he⟩
  · generalize L.getD 66 0 = x at h2 ⊢
    have h4 : 18446744073709551616 * BB < (x + 16385) * BB := by rw [Nat.add_mul]; omega
    have := Nat.lt_of_mul_lt_mul_right h4
    omega
  · rw [q] at h2; omega
theorem i64shr14 {x : Nat} (hx : x < 18446744073709551616) : (IntKind.i64.wrap (x : Int)).fdiv (2 ^ (min (14 : Int).toNat IntKind.i64.bits)) = if x < 9223372036854775808 then ((x / 16384 : Nat) : Int) else ((x : Int) - 18446744073709551616) / 16384 := by
  show (IntKind.i64.wrap (x : Int)).fdiv 16384 = _
  rw [Int.fdiv_eq_ediv_of_nonneg _ (by omega), IntKind.wrap_i64]
  split <;> omega
end

/- Package super: great. No condition. -/
section
open Go Sx Wd
set_option exponentiation.threshold 5000

theorem tv_take0 {L : List Nat} : ∀ {i : Nat}, i ≤ L.length → (∀ j, j < i → L.getD j 0 = 0) → tv (L.take i) = 0
  | 0, _, _ => by simp [tv]
  | i + 1, h, hz => by rw [tv_take (by omega), tv_take0 (by omega) (fun j hj => hz j (by omega)), hz i (by omega)]; simp
section
variable {P : Program} {s : Sl} {w : World} {ty : TypeId} {x q : Operand}
/-- a[:j] of an array by its address. -/
theorem Sx.Ev.sliceAH (j : Nat) {t b m e : Nat} {es be : Nat} {k' : IntKind} {hi : Int} {de : TypeDesc} {ze : Value} {sz by_ : Nat} {z : Value} [hT : HasT P t (.array m e) sz by_ z] [hE : HasT P e de es be ze]
    (hx : opnd s x = some (.pointer (some ⟨b, 0, none⟩))) (hq : opnd s q = some (.int k' hi)) (hj : hi = (j : Int)) (h2 : j ≤ m) : Ev P s (.slice t x none (some q) none) ty w (.slice (some ⟨b, 0, none⟩) j m) w := fun ρ d' pos af g hρ => by
  have e1 := hρ x _ hx
  have e3 := hρ q _ hq
  subst hj
  have h1 : (0 : Int) ≤ (j : Int) := by omega
  have h3 : (j : Int) ≤ (m : Int) := by omega
  simp [execOp, e1, e3, Instr.sliceAt, Instr.slice, hT.underlying, Instr.sliceBounds, Instr.sliceBound, asIntOf, Instr.sureAddr, h1, h2, h3, hE.sizeOf]
  try (intro _; simp [Addr.add])
end
structure KGr (L : List Nat) (R : List Value) (T : TypeId) (b : Nat) (w0 : World) (i : Nat) (w : World) : Prop where
  le : i ≤ 66
  z : ∀ j, j < i → L.getD j 0 = 0
  hB : TB w b T L R
  ch : Chg [] w0 w

theorem great_spec {T : TypeId} {R : List Value} (b : Nat) (L : List Nat) (S : Int) (w : World) (hB : TB w b T L R) (hr : Rep L S) (h1 : -((16384 * BB : Nat) : Int) < S) (h2 : S < (16384 * BB : Nat)) : Ret Tryz.prog 318 [.pointer (some ⟨b, 0, none⟩)] w fun u w' => u = .bool false ∧ Chg [] w w' := by
 have hL := hr.len;have h66 := hr.w.getD 66;have hch : Chg [] w w := Chg.refl _ _;refine zE1 Tryz.func318 rfl ?_;refine Sr fun _ kh1 => za rfl (zz (kh1 (Sr fun _ kh3 => za rfl (zz (kh3 (Sr fun _ kh5 => zm rfl (zm rfl ?_)))))));refine WL.ev (Ev.quoIn rfl rfl (by decide) (by decide) (by decide)) rfl ?_;rw [show (4238 : Int) / 64 = ((66 : Nat) : Int) by decide];refine WL.ev (Ev.nilPtr rfl) rfl ?_;refine WL.ev (Ev.ixT (66) rfl rfl (by omega) (by omega)) rfl ?_;refine WL.ev (Ev.load rfl rfl (hB.t64 (by first | omega | (simp; omega)))) rfl ?_;refine WL.ev (Ev.conv rfl rfl) rfl ?_;refine zm rfl ?_;refine WL.ev (Ev.remIn rfl rfl (by decide) (by decide)) rfl ?_;rw [show (4238 : Int) % 64 = 14 by decide];refine WL.ev (Ev.shr rfl rfl (by decide)) rfl ?_;rw [i64shr14 h66];rcases Int.lt_or_le S 0 with hS | hS
 ·have hn := hr.neg hS h1;rw [if_neg (by omega), show ((L.getD 66 0 : Nat) : Int) - 18446744073709551616 = -16384 + (((L.getD 66 0 : Nat) : Int) - 18446744073709535232) by omega, show (-16384 + (((L.getD 66 0 : Nat) : Int) - 18446744073709535232)) / 16384 = -1 by omega];refine za rfl (zz (kh5 (zc fun _ kh7 => Sr fun _ kh8 => zm rfl ?_)));refine WL.ev (Ev.neq rfl rfl) rfl ?_;refine zz (kh8 ?_);refine zy rfl ?_ ?_<;>intro hc1<;>try simp only [qs] at hc1
  ·simp at hc1
  ·refine zkk ?_
   refine kh7 (zc fun _ kh10 => Sr fun _ kh11 => zm rfl (zm rfl ?_));refine WL.ev (Ev.quoIn rfl rfl (by decide) (by decide) (by decide)) rfl ?_;rw [show (4238 : Int) / 64 = ((66 : Nat) : Int) by decide];refine WL.ev (Ev.nilPtr rfl) rfl ?_;refine WL.ev (Ev.ixT (66) rfl rfl (by omega) (by omega)) rfl ?_;refine WL.ev (Ev.load rfl rfl (hB.t64 (by first | omega | (simp; omega)))) rfl ?_;refine zm rfl ?_;refine WL.ev (Ev.remIn rfl rfl (by decide) (by decide)) rfl ?_;rw [show (4238 : Int) % 64 = 14 by decide];refine WL.ev (Ev.subIn rfl rfl (by decide)) rfl ?_;rw [show (64 : Int) - 14 = ((50 : Nat) : Int) by decide];refine WL.ev (Ev.shlU64 rfl rfl) rfl ?_;refine WL.ev (Ev.neq rfl rfl) rfl ?_;refine zz (kh11 ?_);refine zy rfl ?_ ?_<;>intro hc2<;>try simp only [qs] at hc2
   ·refine Sr fun _ kh13 => za rfl (zz (kh13 ?_));refine zr (zr1 rfl rfl ?_);exact ⟨rfl, hch⟩
   ·have hx50 := hc2
    refine zkk ?_;refine kh10 (zc fun _ kh15 => Sr fun _ kh16 => zm rfl ?_);refine WL.ev (Ev.nilPtr rfl) rfl ?_;refine zm rfl ?_;refine WL.ev (Ev.quoIn rfl rfl (by decide) (by decide) (by decide)) rfl ?_;rw [show (4238 : Int) / 64 = ((66 : Nat) : Int) by decide];refine WL.ev (Ev.sliceAH 66 rfl rfl rfl (by decide)) rfl ?_;refine zn rfl (zm rfl (zz (kh16 ?_)));refine CW.block ?_;refine CW.loop (S := fun i : Nat => [(36, .slice (some ⟨b, 0, none⟩) 66 67), (37, .int .i64 66), (38, .int .i64 (i : Int))]) (Inv := KGr L R T b w) (mu := fun i => 66 - i) (0) ?_ ?_ ?_
    ·exact ⟨by omega, fun j hj => by omega, hB, hch⟩
    ·exact SLp
    ·rintro i wr ⟨hi66, hz, hB, hch⟩;have hCi := hr.w.getD i;refine Sr fun _ kh18 => ?_;refine WL.ev (Ev.lss rfl rfl) rfl ?_;refine zz (kh18 (zc fun _ kh20 => ?_));refine zy rfl ?_ ?_<;>intro hc3<;>try simp only [qs] at hc3
     ·refine zkk ?_
      refine kh20 (zc fun _ kh21 => ?_);refine CW.block ?_;refine Sr fun _ kh22 => ?_;refine WL.ev (Ev.ixB (i) rfl rfl (by omega) (by omega)) rfl ?_;refine WL.ev (Ev.load rfl rfl (hB.t64 (by first | omega | (simp; omega)))) rfl ?_;refine za rfl (zz (kh22 (Sr fun _ kh24 => zm rfl ?_)));refine WL.ev (Ev.neq rfl rfl) rfl ?_;refine zz (kh24 ?_);refine zy rfl ?_ ?_<;>intro hc4<;>try simp only [qs] at hc4
      ·refine Sr fun _ kh26 => za rfl (zz (kh26 ?_));refine zr (zr1 rfl rfl ?_);exact ⟨rfl, hch⟩
      ·refine zkk ?_
       refine kh21 ?_;refine zR fun _ kr28 => ?_;(first | refine zi rfl rfl ?_ | refine zo rfl rfl ?_);refine zm rfl ?_;refine WL.nil (kr28 _ _ _ ?_);refine ⟨rfl, i + 1, ?_, ?_, ?_⟩
       ·exact SLp
       ·exact ⟨by omega, fun j hj => by rcases Nat.lt_or_ge j i with q | q; exact hz j q; rw [show j = i by omega]; omega, hB, hch⟩
       ·omega
     ·exfalso
      have h0 := tv_take0 (L := L) (i := 66) (by omega) (fun j hj => hz j (by omega));have := hn.2.1 (by omega);omega
 ·have hp := hr.pos hS h2;rw [if_pos (by omega), show L.getD 66 0 / 16384 = 0 by omega];refine za rfl (zz (kh5 (zc fun _ kh29 => Sr fun _ kh30 => zm rfl ?_)));refine WL.ev (Ev.neq rfl rfl) rfl ?_;refine zz (kh30 ?_);refine zy rfl ?_ ?_<;>intro hc5<;>try simp only [qs] at hc5
  ·refine Sr fun _ kh32 => zm rfl ?_
   refine WL.ev (Ev.neq rfl rfl) rfl ?_;refine za rfl (zz (kh32 ?_));refine zr (zr1 rfl rfl ?_);exact ⟨rfl, hch⟩
  ·simp at hc5

end

/- Package super: size. No condition. -/
section
open Go Sx Wd
set_option exponentiation.threshold 5000

theorem splice_all : ∀ (vs pre l : List Value), l.length = vs.length → Sx.splice (pre ++ l) pre.length vs = pre ++ vs
  | [], pre, l, h => by
    have : l = [] := List.length_eq_zero_iff.1 (by simpa using h)
    subst this; simp [Sx.splice]
  | v :: vs, pre, [], h => by simp at h
  | v :: vs, pre, x :: l, h => by
    have := splice_all vs (pre ++ [v]) l (by simpa using h)
    simp only [Sx.splice]
    rw [show (pre ++ x :: l).set pre.length v = pre ++ [v] ++ l by simp]
    simpa using this
theorem TB.nil {w : World} {b : Nat} {T : TypeId} {L : List Nat} (h : TB w b T L []) : BK w b T (L.map u64v) := by
  unfold TB at h; rwa [List.append_nil] at h
theorem TB.of {w : World} {b : Nat} {T : TypeId} {L : List Nat} (h : BK w b T (L.map u64v)) : TB w b T L [] := by
  unfold TB; rwa [List.append_nil]

theorem size_spec (L : List Nat) (w : World) (hL : L.length = 67) (hW : W64 L) : Ret Tryz.prog 196 [.agg (L.map u64v).toArray] w fun u w' => ∃ C, u = .agg (C.map u64v).toArray ∧ C.length = 67 ∧ W64 C ∧ tv C = (if 9223372036854775808 ≤ L.getD 66 0 then (MM - tv L) % MM else tv L) ∧ Chg [] w w' := by
 have hch : Chg [] w w := Chg.refl _ _;refine zE1 Tryz.func196 rfl ?_;refine Sr fun _ kh1 => ?_;refine WL.boxB (l := L.map u64v) rfl rfl rfl fun b1 wm1 hb1 hcm1 hge1 => ?_;have hB1 : TB wm1 b1 228 L [] := TB.of hb1;have hch := hch.trans hcm1;refine WL.allocB (l := (List.replicate 67 0).map u64v) rfl rfl fun b2 wm2 hb2 hcm2 hge2 => ?_;have hne := zdd hB1.lt hge2;have hB1 := hB1.keep0 hcm2;have hch := hch.trans hcm2;have hw2 := hcm1.size;have hw3 := hcm2.size;refine zz (kh1 (zc fun _ kh3 => Sr fun _ kh4 => ?_));refine WL.call hasF197 rfl rfl (neg_spec b1 L _ hB1 hL hW) fun v w1 h' => ?_;obtain ⟨rfl, rfl⟩ := h';refine zz (kh4 ?_);refine zy rfl ?_ ?_<;>intro hc1<;>try simp only [qs] at hc1
 ·have hc63 : 9223372036854775808 ≤ L.getD 66 0 := by simpa using hc1
  refine zR fun _ kr6 => ?_;refine WL.call hasF274 rfl rfl (minus_spec b1 L _ hB1 hL hW) fun v w2 h' => ?_;obtain ⟨C, hB1, hC67, hCW, hCt, hC4⟩ := h';have hb2 := hb2.kq hC4;have hch := hch.step hC4 (fun y hy => by simp only [List.mem_singleton] at hy; subst hy; exact .inr (by omega));refine WL.nil (kr6 _ _ _ (kh3 ?_));refine Sr fun _ kh7 => ?_;refine WL.ev (Ev.loadA rfl rfl (TB.nil hB1) (by simp [hC67])) rfl ?_;refine WL.storeB (l' := C.map u64v) rfl rfl (by simp [hC67]) (by intro v hv; obtain ⟨x, _, rfl⟩ := List.mem_map.1 hv; rfl) hb2 (by simp [hC67]) (splice_all (C.map u64v) [] ((List.replicate 67 0).map u64v) (by simp [hC67])) fun ws hb2_ hcs => ?_;have hch := hch.step hcs (fun y hy => by simp only [List.mem_singleton] at hy; subst hy; exact .inr (by omega));refine zz (kh7 ?_);refine zr (bodyA.retR1 rfl (RVal.cell rfl (BK.varA hb2_ rfl (by simp [hC67]))) ?_);exact ⟨C, rfl, hC67, hCW, by rw [if_pos hc63]; exact hCt, hch⟩
 ·have hc63 : ¬ 9223372036854775808 ≤ L.getD 66 0 := by simpa using hc1
  refine zkk ?_;refine kh3 (Sr fun _ kh9 => ?_);refine WL.ev (Ev.loadA rfl rfl (TB.nil hB1) (by simp [hL])) rfl ?_;refine WL.storeB (l' := L.map u64v) rfl rfl (by simp [hL]) (by intro v hv; obtain ⟨x, _, rfl⟩ := List.mem_map.1 hv; rfl) hb2 (by simp [hL]) (splice_all (L.map u64v) [] ((List.replicate 67 0).map u64v) (by simp [hL])) fun ws hb2_ hcs => ?_;have hch := hch.step hcs (fun y hy => by simp only [List.mem_singleton] at hy; subst hy; exact .inr (by omega));refine zz (kh9 ?_);refine zr (bodyA.retR1 rfl (RVal.cell rfl (BK.varA hb2_ rfl (by simp [hL]))) ?_);exact ⟨L, rfl, hL, hW, by rw [if_neg hc63], hch⟩

end

/- Package super: count, put. No condition. -/
section
open Go Sx Wd
set_option exponentiation.threshold 5000

/-- Where things of a sort are counted. -/
def countA (cls : Nat) (neg : Bool) (b : Nat) : Option Addr :=
  if cls = 4 then some ⟨b, 67, none⟩ else if cls = 3 ∧ neg = true then some ⟨b, 69, none⟩ else if cls = 3 then some ⟨b, 68, none⟩
  else if cls = 0 ∧ neg = true then some ⟨b, 70, none⟩ else if cls = 0 then some ⟨b, 71, none⟩ else none

theorem acount_spec (b : Nat) (t : TH) (w : World) (hW3 : t.W.length = 3) : Ret Tryz.prog 271 [.pointer (some ⟨b, 0, none⟩), .agg (thingV t).toArray] w fun u w' => u = .pointer (countA t.cls t.neg b) ∧ Chg [] w w' := by
 obtain ⟨cls, neg, tn, a_, W⟩ := t;dsimp only at hW3;obtain ⟨w0, w1, w2, rfl⟩ : ∃ w0 w1 w2, W = [w0, w1, w2] := by match W, hW3 with | [x, y, z], _ => exact ⟨_, _, _, rfl⟩
 dsimp only;have hch : Chg [] w w := Chg.refl _ _;refine zE2 Tryz.func271 rfl ?_;refine Sr fun _ kh1 => ?_;refine zBh rfl rfl rfl hch fun b3 wm3 hb3 hcm3 hge3 hgehch3 hch => ?_;refine za rfl (zz (kh1 (zc fun _ kh3 => ?_)));refine CW.block ?_;refine Sr fun _ kh4 => zf rfl (zl hb3 rfl rfl (zq rfl rfl (za rfl (zz (kh4 ?_)))));refine zy rfl ?_ ?_<;>intro hc1<;>try simp only [qs] at hc1
 ·refine Sr fun _ kh6 => zm rfl ?_
  refine WL.ev (Ev.nilPtr rfl) rfl ?_;refine zf rfl (zf rfl (za rfl (zz (kh6 ?_))));refine zr (zr1 rfl rfl ?_);refine ⟨?_, hch⟩;unfold countA;rw [if_pos (by omega)]
 ·refine CW.seqM 13 (decide (cls = 3 ∧ neg = true)) ?_ ?_
  ·refine zR fun _ kr8 => ?_;refine zf rfl (zl hb3 rfl rfl (zq rfl rfl (zm rfl ?_)));refine zb ?_ ?_<;>intro hg2<;>try simp only [qs] at hg2
   ·refine zw rfl (zf rfl (zw rfl (zl hb3 rfl rfl (zt rfl rfl (za rfl ?_)))));refine WL.nil (kr8 _ _ _ ?_);refine ⟨rfl, rfl, Subs.consB rfl ?_ ?_⟩
    ·first | (simp_all; done) | (simp; omega) | (cases neg <;> simp_all <;> omega)
    ·exact SMg
   ·refine zv rfl (zv rfl (ze rfl rfl (za rfl ?_)));refine WL.nil (kr8 _ _ _ ?_);refine ⟨rfl, rfl, Subs.consB rfl ?_ ?_⟩
    ·first | (simp_all; done) | (simp; omega) | (cases neg <;> simp_all <;> omega)
    ·exact SMg
  ·refine zy rfl ?_ ?_<;>intro hc3<;>try simp only [qs] at hc3
   ·have hk3n := hc3
    refine Sr fun _ kh9 => zm rfl ?_;refine WL.ev (Ev.nilPtr rfl) rfl ?_;refine zf rfl (zf rfl (za rfl (zz (kh9 ?_))));refine zr (zr1 rfl rfl ?_);refine ⟨?_, hch⟩;unfold countA;rw [if_neg (by omega), if_pos hk3n]
   ·have hk3n := hc3
    refine Sr fun _ kh11 => zf rfl (zl hb3 rfl rfl (zq rfl rfl (za rfl (zz (kh11 ?_)))));refine zy rfl ?_ ?_<;>intro hc4<;>try simp only [qs] at hc4
    ·refine Sr fun _ kh13 => zm rfl ?_
     refine WL.ev (Ev.nilPtr rfl) rfl ?_;refine zf rfl (zf rfl (za rfl (zz (kh13 ?_))));refine zr (zr1 rfl rfl ?_);refine ⟨?_, hch⟩;unfold countA;rw [if_neg (by omega), if_neg hk3n, if_pos (by omega)]
    ·refine CW.seqM 33 (decide (cls = 0 ∧ neg = true)) ?_ ?_
     ·refine zR fun _ kr15 => ?_;refine zf rfl (zl hb3 rfl rfl (zq rfl rfl (zm rfl ?_)));refine zb ?_ ?_<;>intro hg5<;>try simp only [qs] at hg5
      ·refine zw rfl (zf rfl (zw rfl (zl hb3 rfl rfl (zt rfl rfl (za rfl ?_)))));refine WL.nil (kr15 _ _ _ ?_);refine ⟨rfl, rfl, Subs.consB rfl ?_ ?_⟩
       ·first | (simp_all; done) | (simp; omega) | (cases neg <;> simp_all <;> omega)
       ·exact SMg
      ·refine zv rfl (zv rfl (ze rfl rfl (za rfl ?_)));refine WL.nil (kr15 _ _ _ ?_);refine ⟨rfl, rfl, Subs.consB rfl ?_ ?_⟩
       ·first | (simp_all; done) | (simp; omega) | (cases neg <;> simp_all <;> omega)
       ·exact SMg
     ·refine zy rfl ?_ ?_<;>intro hc6<;>try simp only [qs] at hc6
      ·have hk0n := hc6
       refine Sr fun _ kh16 => zm rfl ?_;refine WL.ev (Ev.nilPtr rfl) rfl ?_;refine zf rfl (zf rfl (za rfl (zz (kh16 ?_))));refine zr (zr1 rfl rfl ?_);refine ⟨?_, hch⟩;unfold countA;rw [if_neg (by omega), if_neg hk3n, if_neg (by omega), if_pos hk0n]
      ·have hk0n := hc6
       refine Sr fun _ kh18 => zf rfl (zl hb3 rfl rfl (zq rfl rfl (za rfl (zz (kh18 ?_)))));refine zy rfl ?_ ?_<;>intro hc7<;>try simp only [qs] at hc7
       ·refine Sr fun _ kh20 => zm rfl ?_
        refine WL.ev (Ev.nilPtr rfl) rfl ?_;refine zf rfl (zf rfl (za rfl (zz (kh20 ?_))));refine zr (zr1 rfl rfl ?_);refine ⟨?_, hch⟩;unfold countA;rw [if_neg (by omega), if_neg hk3n, if_neg (by omega), if_neg hk0n, if_pos (by omega)]
       ·refine zkk ?_
        refine kh3 (Sr fun _ kh22 => za rfl (zz (kh22 ?_)));refine zr (zr1 rfl rfl ?_);refine ⟨?_, hch⟩;unfold countA;rw [if_neg (by omega), if_neg hk3n, if_neg (by omega), if_neg hk0n, if_neg (by omega)]

theorem aput_spec {R : List Value} (b : Nat) (L W : List Nat) (a_ : Nat) (tn less : Bool) (S : Int) (w : World) (hB : TB w b 230 L R) (hr : Rep L S) (hW3 : W.length = 3) (hWW : W64 W) (ha : a_ ≤ 64) (S2 : Int) (hS2 : S2 = if (tn != less) = true then S - ((tv W * 18446744073709551616 ^ a_ : Nat) : Int) else S + ((tv W * 18446744073709551616 ^ a_ : Nat) : Int)) (h1 : -((16384 * BB : Nat) : Int) < S2) (h2 : S2 < (16384 * BB : Nat)) : Ret Tryz.prog 272 [.pointer (some ⟨b, 0, none⟩), .agg (termV tn a_ W).toArray, .bool less] w fun u w' => u = .bool true ∧ ∃ C, TB w' b 230 C R ∧ Rep C S2 ∧ Chg [b] w w' := by
 obtain ⟨x0, x1, x2, rfl⟩ : ∃ x0 x1 x2, W = [x0, x1, x2] := by match W, hW3 with | [x, y, z], _ => exact ⟨_, _, _, rfl⟩
 have hch : Chg [b] w w := Chg.refl _ _;refine zE3 Tryz.func272 rfl ?_;refine Sr fun _ kh1 => ?_;refine zBh rfl rfl rfl hch fun b4 wm4 hb4 hcm4 hge4 hgehch4 hch => ?_;have hneb4 : b ≠ b4 := by have := hB.lt; omega
 have hB := hB.keep0 hcm4;refine za rfl (zz (kh1 (zc fun _ kh3 => ?_)));refine CW.regionTC 5 hmix (by kernel_rfl) fun kR4 kr4 hdr => ?_;have hch := hch.ta hdr;have hB := hB.keep0 hdr;have hb4 := hb4.k0 hdr;refine ym rfl ?_;refine WS.ev (Ev.nilPtr rfl) rfl ?_;refine WS.ev (Ev.fieldAddr rfl) rfl ?_;refine WS.ev (Ev.loadA rfl rfl hb4 rfl) rfl ?_;refine ym rfl ?_;refine WS.nil ?_;refine WL.call hasF317 rfl rfl (move_spec b L [x0, x1, x2] a_ tn less _ hB hr.len hr.w rfl hWW ha) fun v w1 h' => ?_;obtain ⟨C, hB, hCl, hCw, hMv, hC12⟩ := h';have hRC := hMv.rep hr hCl hCw;rw [← hS2] at hRC;have hch := hch.step hC12 (fun y hy => by simp only [List.mem_singleton] at hy; subst hy; exact .inl (by simp));refine WL.nil (kr4 _ _ _ (kh3 ?_));refine zc fun _ kh5 => Sr fun _ kh6 => zm rfl ?_;refine WL.ev (Ev.nilPtr rfl) rfl ?_;refine zf rfl ?_;refine WL.call hasF318 rfl rfl (great_spec b C S2 _ hB hRC h1 h2) fun v w2 h' => ?_;obtain ⟨rfl, hC16⟩ := h';have hch := hch.ta hC16;have hB := hB.keep0 hC16;refine zz (kh6 ?_);refine CW.condF rfl ?_;refine zkk ?_;refine kh5 (Sr fun _ kh8 => za rfl (zz (kh8 ?_)));refine zr (zr1 rfl rfl ?_);exact ⟨rfl, C, hB, hRC, hch⟩

end

/- Package super: more, Add. No condition. -/
section
open Go Sx Wd
set_option exponentiation.threshold 5000

/-- The counts when one more is put. -/
def cnt1 (s : SP) (cls : Nat) (neg : Bool) : SP :=
  if cls = 4 then ⟨s.na + 1, s.up, s.dn, s.mi, s.pl, s.al + 1⟩ else if cls = 3 ∧ neg = true then ⟨s.na, s.up, s.dn + 1, s.mi, s.pl, s.al + 1⟩ else if cls = 3 then ⟨s.na, s.up + 1, s.dn, s.mi, s.pl, s.al + 1⟩
  else if cls = 0 ∧ neg = true then ⟨s.na, s.up, s.dn, s.mi + 1, s.pl, s.al + 1⟩ else if cls = 0 then ⟨s.na, s.up, s.dn, s.mi, s.pl + 1, s.al + 1⟩ else ⟨s.na, s.up, s.dn, s.mi, s.pl, s.al + 1⟩
/-- What a thing adds, in units of the lowest bit. -/
def thv (t : TH) : Int := if t.cls = 1 ∨ t.cls = 2 then (if t.tn = true then -((tv t.W * 18446744073709551616 ^ t.at_ : Nat) : Int) else ((tv t.W * 18446744073709551616 ^ t.at_ : Nat) : Int)) else 0
theorem TB.tl {w : World} {b : Nat} {T : TypeId} {L : List Nat} {R : List Value} {j : Nat} {v : Value} (h : TB w b T L R) (hL : L.length = 67) (hv : R[j]? = some v) : w.cell? ⟨b, 67 + j, none⟩ = some v := by rw [← hL]; exact h.tail_ hv
theorem TB.setr {L : List Nat} {R R' : List Value} {i j : Nat} {v : Value} (hL : L.length = 67) (hi : i = 67 + j) (hR : R.set j v = R') : (L.map u64v ++ R).set i v = L.map u64v ++ R' := by
  subst hi
  rw [List.set_append_right _ _ (by simp; omega), List.length_map, hL, Nat.add_sub_cancel_left, hR]

theorem countA_cases (s : SP) (cls : Nat) (neg : Bool) (b N : Nat) (hs : s.le N) (hc : cls ≤ 4) :
    (∃ k v : Nat, countA cls neg b = some ⟨b, 67 + k, none⟩ ∧ k < 5 ∧ s.cells[k]? = some (.int .i64 (v : Int)) ∧ v ≤ N ∧ (s.cells.set k (.int .i64 ((v : Int) + 1))).set 5 (.int .i64 ((s.al : Int) + 1)) = (cnt1 s cls neg).cells ∧ (s.cells.set k (.int .i64 ((v : Int) + 1)))[5]? = some (.int .i64 (s.al : Int)) ∧ ¬ (cls = 1 ∨ cls = 2))
    ∨ (countA cls neg b = none ∧ s.cells.set 5 (.int .i64 ((s.al : Int) + 1)) = (cnt1 s cls neg).cells ∧ (cls = 1 ∨ cls = 2)) := by
  obtain ⟨a1, a2, a3, a4, a5, a6⟩ := hs
  unfold countA cnt1
  by_cases q1 : cls = 4
  · rw [if_pos q1, if_pos q1]; exact .inl ⟨0, s.na, rfl, by decide, rfl, a1, by simp [SP.cells], rfl, by omega⟩
  rw [if_neg q1, if_neg q1]
  by_cases q2 : cls = 3 ∧ neg = true
  · rw [if_pos q2, if_pos q2]; exact .inl ⟨2, s.dn, rfl, by decide, rfl, a3, by simp [SP.cells], rfl, by omega⟩
  rw [if_neg q2, if_neg q2]
  by_cases q3 : cls = 3
  · rw [if_pos q3, if_pos q3]; exact .inl ⟨1, s.up, rfl, by decide, rfl, a2, by simp [SP.cells], rfl, by omega⟩
  rw [if_neg q3, if_neg q3]
  by_cases q4 : cls = 0 ∧ neg = true
  · rw [if_pos q4, if_pos q4]; exact .inl ⟨3, s.mi, rfl, by decide, rfl, a4, by simp [SP.cells], rfl, by omega⟩
  rw [if_neg q4, if_neg q4]
  by_cases q5 : cls = 0
  · rw [if_pos q5, if_pos q5]; exact .inl ⟨4, s.pl, rfl, by decide, rfl, a5, by simp [SP.cells], rfl, by omega⟩
  rw [if_neg q5, if_neg q5]
  exact .inr ⟨rfl, by simp [SP.cells], by omega⟩

theorem more_spec (b : Nat) (L : List Nat) (t : TH) (s : SP) (S : Int) (w : World) (hB : TB w b 230 L s.cells) (hr : Rep L S) (hW3 : t.W.length = 3) (hWW : W64 t.W) (ha : t.at_ ≤ 64) (hcl : t.cls ≤ 4) (hs : s.le 1099511627775) (h1 : -((16384 * BB : Nat) : Int) < S + thv t) (h2 : S + thv t < (16384 * BB : Nat)) : Ret Tryz.prog 191 [.pointer (some ⟨b, 0, none⟩), .agg (thingV t).toArray] w fun u w' => u = .int .i64 0 ∧ ∃ C, TB w' b 230 C (cnt1 s t.cls t.neg).cells ∧ Rep C (S + thv t) ∧ Chg [b] w w' := by
 obtain ⟨cls, neg, tn, a_, W⟩ := t;dsimp only at hW3 hWW ha hcl;obtain ⟨x0, x1, x2, rfl⟩ : ∃ x0 x1 x2, W = [x0, x1, x2] := by match W, hW3 with | [x, y, z], _ => exact ⟨_, _, _, rfl⟩
 dsimp only;have hs6 := hs.2.2.2.2.2;have hL := hr.len;have hch : Chg [b] w w := Chg.refl _ _;refine zE2 Tryz.func191 rfl ?_;refine Sr fun _ kh1 => ?_;refine zBh rfl rfl rfl hch fun b3 wm3 hb3 hcm3 hge3 hgehch3 hch => ?_;have hneb3 : b ≠ b3 := by have := hB.lt; omega
 have hB := hB.keep0 hcm3;refine za rfl (zz (kh1 (zc fun _ kh3 => Sr fun _ kh4 => zm rfl ?_)));refine WL.ev (Ev.nilPtr rfl) rfl ?_;refine zf rfl (zf rfl ?_);refine WL.ev (Ev.load rfl rfl (TB.tl (j := 5) hB hL rfl)) rfl ?_;refine zq rfl rfl (zz (kh4 ?_));refine zy rfl ?_ ?_<;>intro hc1<;>try simp only [qs] at hc1
 ·exfalso; omega
 ·refine zkk ?_
  refine kh3 (zc fun _ kh6 => Sr fun _ kh7 => zm rfl (zg hb3 rfl ?_));refine WL.call hasF271 rfl rfl (acount_spec b ⟨cls, neg, tn, a_, [x0, x1, x2]⟩ _ rfl) fun v w1 h' => ?_;obtain ⟨rfl, hC14⟩ := h';have hch := hch.ta hC14;have hB := hB.keep0 hC14;have hb3 := hb3.k0 hC14;dsimp only; rcases countA_cases s cls neg b _ hs hcl with ⟨k, v, hk1, hk2, hk3, hk4, hk5, hk6, hk7⟩ | ⟨hk1, hk5, hk7⟩
  ·rw [hk1];refine za rfl (zz (kh7 (Sr fun _ kh9 => zm rfl ?_)));refine WL.ev (Ev.neqPtrNil rfl rfl) rfl ?_;refine zz (kh9 ?_);refine CW.condT rfl ?_;refine zR fun _ kr11 => ?_;refine zm rfl ?_;refine WL.ev (Ev.nilPtr rfl) rfl ?_;refine WL.ev (Ev.load rfl rfl (TB.tl (j := k) hB hL hk3)) rfl ?_;(first | refine zi rfl rfl ?_ | refine zo rfl rfl ?_);refine WL.ev (Ev.nilPtr rfl) rfl ?_;refine WL.storeC (l' := L.map u64v ++ s.cells.set k (.int .i64 ((v : Int) + 1))) rfl rfl rfl hB (by simp [SP.cells, hL]; omega) (TB.setr (j := k) hL rfl rfl) fun ws5 hB_ hcs5 => ?_;have hch := hch.step hcs5 (fun y hy => by simp only [List.mem_singleton] at hy; subst hy; exact .inl (by simp));have hB := hB_;refine WL.nil (kr11 _ _ _ (kh6 ?_));refine Sr fun _ kh12 => zm rfl ?_;refine WL.ev (Ev.nilPtr rfl) rfl ?_;refine zf rfl (zf rfl ?_);refine WL.ev (Ev.load rfl rfl (TB.tl (j := 5) hB hL hk6)) rfl ?_;(first | refine zi rfl rfl ?_ | refine zo rfl rfl ?_);refine WL.ev (Ev.nilPtr rfl) rfl ?_;refine zf rfl (zf rfl ?_);refine WL.storeC (l' := L.map u64v ++ (cnt1 s cls neg).cells) rfl rfl rfl hB (by simp [SP.cells, hL]) (TB.setr (j := 5) hL rfl hk5) fun ws8 hB_ hcs8 => ?_;have hch := hch.step hcs8 (fun y hy => by simp only [List.mem_singleton] at hy; subst hy; exact .inl (by simp));have hB := hB_;refine zz (kh12 (Sr fun _ kh14 => za rfl (zz (kh14 ?_))));refine zr (zr1 rfl rfl ?_);have e0 : thv ⟨cls, neg, tn, a_, [x0, x1, x2]⟩ = 0 := if_neg hk7;rw [e0, Int.add_zero];exact ⟨rfl, L, hB, hr, hch⟩
  ·rw [hk1];have hb3 : BK _ b3 _ [.int .i64 (cls : Int), .bool neg, .bool tn, .int .i64 (a_ : Int), u64v x0, u64v x1, u64v x2] := hb3;refine za rfl (zz (kh7 (Sr fun _ kh16 => zm rfl ?_)));refine WL.ev (Ev.neqPtrNil rfl rfl) rfl ?_;refine zz (kh16 ?_);refine CW.condF rfl ?_;refine Sr fun _ kh18 => zm rfl (zf rfl ?_);refine WL.ev (Ev.loadB rfl rfl hb3 rfl rfl) rfl ?_;simp only [List.drop_succ_cons, List.drop_zero, List.take_succ_cons, List.take_zero];refine WL.call hasF272 rfl rfl (aput_spec b L [x0, x1, x2] a_ tn false S _ hB hr rfl hWW ha (S + thv ⟨cls, neg, tn, a_, [x0, x1, x2]⟩) (by show S + (if cls = 1 ∨ cls = 2 then _ else _) = _; rw [if_pos hk7]; cases tn <;> simp [Int.sub_eq_add_neg]) h1 h2) fun v w2 h' => ?_;obtain ⟨rfl, C, hB_, hRC, hC25⟩ := h';have hch := hch.step hC25 (fun y hy => by simp only [List.mem_singleton] at hy; subst hy; exact .inl (by simp));have hB := hB_;refine WL.ev (Ev.not rfl) rfl ?_;refine zz (kh18 ?_);refine CW.condF rfl ?_;refine zkk ?_;refine kh6 (Sr fun _ kh20 => zm rfl ?_);refine WL.ev (Ev.nilPtr rfl) rfl ?_;refine zf rfl (zf rfl ?_);refine WL.ev (Ev.load rfl rfl (TB.tl (j := 5) hB hRC.len rfl)) rfl ?_;(first | refine zi rfl rfl ?_ | refine zo rfl rfl ?_);refine WL.ev (Ev.nilPtr rfl) rfl ?_;refine zf rfl (zf rfl ?_);refine WL.storeC (l' := C.map u64v ++ (cnt1 s cls neg).cells) rfl rfl rfl hB (by simp [SP.cells, hRC.len]) (TB.setr (j := 5) hRC.len rfl hk5) fun ws8 hB_ hcs8 => ?_;have hch := hch.step hcs8 (fun y hy => by simp only [List.mem_singleton] at hy; subst hy; exact .inl (by simp));have hB := hB_;refine zz (kh20 (Sr fun _ kh22 => za rfl (zz (kh22 ?_))));refine zr (zr1 rfl rfl ?_);exact ⟨rfl, C, hB, hRC, hch⟩

end

/- Package super: Add. No condition. -/
section
open Go Sx Wd
set_option exponentiation.threshold 5000

theorem oneP_ok {x : Nat} : (oneP x).W.length = 3 ∧ W64 (oneP x).W ∧ (oneP x).at_ ≤ 64 ∧ (oneP x).cls ≤ 4 ∧ (oneP x).cls = (splitP x).cls ∧ (oneP x).neg = (splitP x).neg := by
  have hc := splitP_cls x
  unfold oneP
  split
  · rename_i h
    have hf := splitP_fin h
    exact ⟨rfl, laidW_w (by omega) (by decide) (by omega), by dsimp only; omega, hc, rfl, rfl⟩
  · exact ⟨rfl, fun y hy => by simp at hy; omega, by dsimp only; omega, hc, rfl, rfl⟩

theorem acAdd_spec (b : Nat) (L : List Nat) (x : Nat) (s : SP) (S : Int) (w : World) (hB : TB w b 230 L s.cells) (hr : Rep L S) (hx : x < 18446744073709551616) (hs : s.le 1099511627775) (h1 : -((16384 * BB : Nat) : Int) < S + thv (oneP x)) (h2 : S + thv (oneP x) < (16384 * BB : Nat)) : Ret Tryz.prog 107 [.pointer (some ⟨b, 0, none⟩), .float .f64 x] w fun u w' => u = .int .i64 0 ∧ ∃ C, TB w' b 230 C (cnt1 s (splitP x).cls (splitP x).neg).cells ∧ Rep C (S + thv (oneP x)) ∧ Chg [b] w w' := by
 have hch : Chg [b] w w := Chg.refl _ _;obtain ⟨ho1, ho2, ho3, ho4, ho5, ho6⟩ := @oneP_ok x;refine zE2 Tryz.func107 rfl ?_;refine Sr fun _ kh1 => za rfl (zz (kh1 (Sr fun _ kh3 => zm rfl (zm rfl ?_))));refine WL.call hasF192 rfl rfl (one_spec x _ hx) fun v w1 h' => ?_;obtain ⟨rfl, hC7⟩ := h';have hch := hch.ta hC7;have hB := hB.keep0 hC7;refine WL.call hasF191 rfl rfl (more_spec b L (oneP x) s S _ hB hr ho1 ho2 ho3 ho4 hs h1 h2) fun v w2 h' => ?_;obtain ⟨rfl, C, hB, hRC, hC8⟩ := h';rw [ho5, ho6] at hB;have hch := hch.step hC8 (fun y hy => by simp only [List.mem_singleton] at hy; subst hy; exact .inl (by simp));refine za rfl (zz (kh3 ?_));refine zr (zr1 rfl rfl ?_);exact ⟨rfl, C, hB, hRC, hch⟩

end

/- math/bits: Mul64. No condition. -/
section
open Go Sx Wd
set_option exponentiation.threshold 5000

end

/- Package super: product. No condition. -/
section
open Go Sx Wd
set_option exponentiation.threshold 5000

end

/- Package super: AddProduct. No condition. -/
section
open Go Sx Wd
set_option exponentiation.threshold 5000

end

end Go.Proofs.YtknahdghcfdmgaaGreatDoor