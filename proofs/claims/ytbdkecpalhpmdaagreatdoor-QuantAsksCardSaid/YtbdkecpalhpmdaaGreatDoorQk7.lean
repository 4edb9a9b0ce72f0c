/- Part 7 of what the proof rests on. No condition. -/
import Derived.Test.YtbdkecpalhpmdaaGreatDoorQk6
import Derived.WalkKit
import Derived.ProofKit
import Derived.OpenShut
import Derived.ChangeOld
import Derived.Below
import Derived.Deep.Slices
import Derived.Laws.Cover2
import Derived.LaidMore
import Derived.SizedLaws
import Derived.SevenTiedAt
import Derived.Stop.Joined
import Derived.Test.YtbdkecpalhpmdaaGreatDoorRows
set_option linter.unusedVariables false
set_option linter.unusedSimpArgs false
set_option maxRecDepth 100000
set_option maxHeartbeats 4000000
namespace Go.Proofs.YtbdkecpalhpmdaaGreatDoor
/- Reference of layer 16: line. No condition. -/
section
open Go Sx Wd Fl
set_option exponentiation.threshold 9000

theorem line_sum (x y : Nat) {num den : Nat} (h : num ≤ den) : fvI x * (den : Int) + (fvI y + -fvI x) * (num : Int) = lineV x y num den := by
  unfold lineV
  rw [show ((den - num : Nat) : Int) = (den : Int) - (num : Int) by omega, Int.add_mul, Int.mul_sub, Int.neg_mul]
  omega
theorem diff_le (x y : Nat) : (fvI y + -fvI x).natAbs ≤ 2 * 2 ^ 3172 := by
  have := fv_le x
  have := fv_le y
  omega
theorem diff_mul (x y : Nat) {n : Nat} : ((fvI y + -fvI x) * (n : Int)).natAbs ≤ (2 * n) * 2 ^ 3172 := by
  rw [Int.natAbs_mul, Int.natAbs_natCast, show 2 * n * 2 ^ 3172 = 2 * 2 ^ 3172 * n by rw [Nat.mul_assoc, Nat.mul_comm n, Nat.mul_assoc]]
  exact Nat.mul_le_mul_right _ (diff_le x y)

theorem r16line_spec (x y num den : Nat) (mode : Int) (w : World) (hx : x < 18446744073709551616) (hy : y < 18446744073709551616) (hfx : (splitP x).cls ≤ 2) (hfy : (splitP y).cls ≤ 2) (hn : 1 ≤ num) (hnd : num < den) (hd : den ≤ 2147483648) : Ret Tryz.prog 57 [.float .f64 x, .float .f64 y, .int .i64 (num : Int), .int .i64 (den : Int), .int .i64 mode] w fun u w' => (∃ bits e, u = .tuple [.float .f64 bits, .int .i64 e].toArray ∧ lineR x y num den mode bits e) ∧ Chg [] w w' := by
 have hch : Chg [] w w := Chg.refl _ _;have hX := fvI_in x;have hY := fvI_in y;have hF := in_of_le (n := 2) (diff_le x y) (by omega);have hFM := in_of_le (diff_mul x y (n := num)) (by omega);have hXD := fv_small x (n := den) (by omega);have hsum := line_sum x y (Nat.le_of_lt hnd);have hV := lineV_in (x := x) (y := y) (num := num) (den := den) (by omega) hd;have oknum := intD_ok (n := (num : Int)) (by omega);have okden := intD_ok (n := (den : Int)) (by omega);have oen := oknum.e;have oln := oknum.len;have oed := okden.e;have old := okden.len;have okX := rsumD_ok (S := (fvI x)) hX;have oeX := okX.e;have olX := okX.len;have okY := rsumD_ok (S := (fvI y)) hY;have oeY := okY.e;have olY := okY.len;have okF := rsumD_ok (S := (fvI y + -fvI x)) hF;have oeF := okF.e;have olF := okF.len;have okU := rsumD_ok (S := ((fvI y + -fvI x) * (num : Int))) hFM;have oeU := okU.e;have olU := okU.len;have okT := rsumD_ok (S := (fvI x * (den : Int))) hXD;have oeT := okT.e;have olT := okT.len;have okV := rsumD_ok (S := (lineV x y num den)) hV;have oeV := okV.e;have olV := okV.len;refine Ret.enter Tryz.func57 rfl rfl ?_;simp only [args0, Nat.zero_add, Nat.reduceAdd];refine Sr fun _ kh1 => za rfl (za rfl (zz (kh1 (Sr fun _ kh3 => zm rfl ?_))));refine WL.call hasF94 rfl rfl (r3Of_spec (x) _ hx) fun v w1 h' => ?_;obtain ⟨hDx, hC⟩ := h';rw [floatD_sum hx hfx] at hDx;obtain ⟨rx, dx, hdx, rfl, hNx⟩ := hDx.resolve_right (fun q => by cases q.1);cases hdx;have hch := hch.ta hC;refine zm rfl (zx rfl rfl (zx rfl rfl ?_));refine WL.allocB (l := [.bool false, .slice none 0 0, .int .i64 0]) rfl rfl fun b12 wm12 hb12 hcm12 hge12 => ?_;have hgehch12 := Nat.le_trans hch.size hge12;have hch := hch.ta hcm12;have hNx := hNx.keep0 hcm12;refine zss rfl rfl ao hb12 rfl fun ws18 hb12_ hcs18 => ?_;(try simp only [Sx.splice, qt] at hb12_);have hch := hch.s1 hcs18;have hNx := hNx.keepBK hb12 hcs18 an;have hb12 := hb12_;refine za rfl (zz (kh3 (Sr fun _ kh5 => zm rfl ?_)));refine WL.call hasF94 rfl rfl (r3Of_spec (y) _ hy) fun v w2 h' => ?_;obtain ⟨hDy, hC⟩ := h';rw [floatD_sum hy hfy] at hDy;obtain ⟨ry, dy, hdy, rfl, hNy⟩ := hDy.resolve_right (fun q => by cases q.1);cases hdy;have hch := hch.ta hC;have hb12 := hb12.k0 hC;have hNx := hNx.keep0 hC;refine zm rfl (zx rfl rfl (zx rfl rfl ?_));refine WL.allocB (l := [.bool false, .slice none 0 0, .int .i64 0]) rfl rfl fun b14 wm14 hb14 hcm14 hge14 => ?_;have hgehch14 := Nat.le_trans hch.size hge14;have hch := hch.ta hcm14;have hNx := hNx.keep0 hcm14;have hNy := hNy.keep0 hcm14;have hneb1214 := zdd hb12.lt hge14;have hb12 := hb12.k0 hcm14;refine zss rfl rfl ao hb14 rfl fun ws19 hb14_ hcs19 => ?_;(try simp only [Sx.splice, qt] at hb14_);have hch := hch.s1 hcs19;have hb12 := hb12.kq hcs19;have hNx := hNx.keepBK hb14 hcs19 an;have hNy := hNy.keepBK hb14 hcs19 an;have hb14 := hb14_;refine za rfl (zz (kh5 (Sr fun _ kh7 => zg hb14 rfl (zg hb12 rfl ?_))));refine WL.call hasF95 rfl rfl (r3Sub_spec _ _ _ _ _ _ _ _ _ hNy hNx (by omega) (by omega) (by omega) (by omega)) fun v w3 h' => ?_
 obtain ⟨hDf, hC⟩ := h';rw [val_wd, val_wd, formD_sumD hY, negF_sum hX, show both2 addD (some (sumD (fvI y))) (some (sumD (-fvI x))) = addD (sumD (fvI y)) (sumD (-fvI x)) from rfl, addD_sum hY hX.neg hF] at hDf;obtain ⟨rf, df, hdf, rfl, hNf⟩ := hDf.resolve_right (fun q => by cases q.1);cases hdf;have hch := hch.ta hC;have hb12 := hb12.k0 hC;have hb14 := hb14.k0 hC;have hNx := hNx.keep0 hC;have hNy := hNy.keep0 hC;refine zm rfl (zx rfl rfl (zx rfl rfl ?_));refine WL.allocB (l := [.bool false, .slice none 0 0, .int .i64 0]) rfl rfl fun b16 wm16 hb16 hcm16 hge16 => ?_;have hgehch16 := Nat.le_trans hch.size hge16;have hch := hch.ta hcm16;have hNx := hNx.keep0 hcm16;have hNy := hNy.keep0 hcm16;have hNf := hNf.keep0 hcm16;have hneb1216 := zdd hb12.lt hge16;have hb12 := hb12.k0 hcm16;have hneb1416 := zdd hb14.lt hge16;have hb14 := hb14.k0 hcm16;refine zss rfl rfl ao hb16 rfl fun ws20 hb16_ hcs20 => ?_;(try simp only [Sx.splice, qt] at hb16_);have hch := hch.s1 hcs20;have hb12 := hb12.kq hcs20;have hb14 := hb14.kq hcs20;have hNx := hNx.keepBK hb16 hcs20 an;have hNy := hNy.keepBK hb16 hcs20 an;have hNf := hNf.keepBK hb16 hcs20 an;have hb16 := hb16_;refine za rfl (zz (kh7 (zc fun _ kh9 => ?_)));refine CW.regionHC 10 rfl hmix fun kR10 kr10 hS hdr => ?_;have hch := hch.ta hdr;have hb12 := hb12.k0 hdr;have hb14 := hb14.k0 hdr;have hb16 := hb16.k0 hdr;have hNx := hNx.keep0 hdr;have hNy := hNy.keep0 hdr;have hNf := hNf.keep0 hdr;have hch_r := hch;have hb12_r := hb12;have hb14_r := hb14;have hb16_r := hb16;refine wh 0 rfl hS (fun _ hw' => Ev.loadA rfl rfl (hb16_r.keep0 hw') rfl) (wh 1 rfl hS (fun _ _ => Ev.move rfl) ?_);refine WH.all2 2 7 (by kernel_rfl) ?_ ?_
 ·
  refine WHat.call 2 rfl hasF97 rfl rfl (r3Int_spec ((num : Nat) : Int) _ (by omega)) fun v w4 h' => ?_;obtain ⟨⟨rim, rfl, hNim⟩, hC⟩ := h';have hch := hch.ta hC;have hb12 := hb12.k0 hC;have hb14 := hb14.k0 hC;have hb16 := hb16.k0 hC;have hNx := hNx.keep0 hC;have hNy := hNy.keep0 hC;have hNf := hNf.keep0 hC;have hS := hS.trans hC;refine ⟨hS, ?_⟩;refine WH.all2 3 7 (by kernel_rfl) ?_ ?_
  ·
   refine WHat.call 3 rfl hasF96 rfl rfl (r3Mul_spec _ _ _ _ _ _ _ _ _ hNf hNim (by omega) (by omega) (by omega) (by omega)) fun v w5 h' => ?_;obtain ⟨hDu, hC⟩ := h';rw [val_wd, val_wd, formD_sumD hF, formD_self oknum, show both2 mulD (some (sumD (fvI y + -fvI x))) (some (intD (num : Int))) = mulD (sumD (fvI y + -fvI x)) (intD (num : Int)) from rfl, mulD_int hF (by omega) (by omega) hFM] at hDu;obtain ⟨ru, du, hdu, rfl, hNu⟩ := hDu.resolve_right (fun q => by cases q.1);cases hdu;have hch := hch.ta hC;have hb12 := hb12.k0 hC;have hb14 := hb14.k0 hC;have hb16 := hb16.k0 hC;have hNx := hNx.keep0 hC;have hNy := hNy.keep0 hC;have hNf := hNf.keep0 hC;have hNim := hNim.keep0 hC;have hS := hS.trans hC;refine ⟨hS, ?_⟩;refine wh 4 rfl hS (fun _ _ => Ev.move rfl) (wh 5 rfl hS (fun _ _ => Ev.extract rfl rfl) (wh 6 rfl hS (fun _ _ => Ev.extract rfl rfl) ?_));refine WH.allocC (l := [.bool false, .slice none 0 0, .int .i64 0]) 7 rfl (by kernel_rfl) hS rfl rfl fun b18 wm18 hb18 hcm18 hge18 hS1 => ?_;have hgeS18 := Nat.le_trans hS.size hge18;have hS := hS1;have hgehch18 := Nat.le_trans hch.size hge18;have hch := hch.ta hcm18;have hNx := hNx.keep0 hcm18;have hNy := hNy.keep0 hcm18;have hNf := hNf.keep0 hcm18;have hNim := hNim.keep0 hcm18;have hNu := hNu.keep0 hcm18;have hneb1218 := zdd hb12.lt hge18;have hb12 := hb12.k0 hcm18;have hneb1418 := zdd hb14.lt hge18;have hb14 := hb14.k0 hcm18;have hneb1618 := zdd hb16.lt hge18;have hb16 := hb16.k0 hcm18;refine WH.storeBN 8 rfl (by kernel_rfl) hS hgeS18 rfl rfl rfl ao hb18 (by simp) rfl fun ws21 hb18_ hcs21 hS => ?_;(try simp only [Sx.splice, qt] at hb18_);have hch := hch.s1 hcs21;have hb12 := hb12.kq hcs21;have hb14 := hb14.kq hcs21;have hb16 := hb16.kq hcs21;have hNx := hNx.keepBK hb18 hcs21 an;have hNy := hNy.keepBK hb18 hcs21 an;have hNf := hNf.keepBK hb18 hcs21 an;have hNim := hNim.keepBK hb18 hcs21 an;have hNu := hNu.keepBK hb18 hcs21 an;have hb18 := hb18_;refine wh 9 rfl hS (fun _ _ => Ev.assign rfl) ?_;refine WH.done (by kernel_rfl) (kr10 _ _ _ ?_);refine kh9 (zc fun _ kh11 => ?_);refine CW.regionHC 10 rfl hmix fun kR12 kr12 hS hdr => ?_;have hch := hch.ta hdr;have hb12 := hb12.k0 hdr;have hb14 := hb14.k0 hdr;have hb16 := hb16.k0 hdr;have hb18 := hb18.k0 hdr;have hNx := hNx.keep0 hdr;have hNy := hNy.keep0 hdr;have hNf := hNf.keep0 hdr;have hNim := hNim.keep0 hdr;have hNu := hNu.keep0 hdr;have hch_r := hch;have hb12_r := hb12;have hb14_r := hb14;have hb16_r := hb16;have hb18_r := hb18;refine wh 0 rfl hS (fun _ hw' => Ev.loadA rfl rfl (hb12_r.keep0 hw') rfl) (wh 1 rfl hS (fun _ _ => Ev.move rfl) ?_);refine WH.all2 2 7 (by kernel_rfl) ?_ ?_
   ·
    refine WHat.call 2 rfl hasF97 rfl rfl (r3Int_spec ((den : Nat) : Int) _ (by omega)) fun v w6 h' => ?_;obtain ⟨⟨rid, rfl, hNid⟩, hC⟩ := h';have hch := hch.ta hC;have hb12 := hb12.k0 hC;have hb14 := hb14.k0 hC;have hb16 := hb16.k0 hC;have hb18 := hb18.k0 hC;have hNx := hNx.keep0 hC;have hNy := hNy.keep0 hC;have hNf := hNf.keep0 hC;have hNim := hNim.keep0 hC;have hNu := hNu.keep0 hC;have hS := hS.trans hC;refine ⟨hS, ?_⟩;refine WH.all2 3 7 (by kernel_rfl) ?_ ?_
    ·
     refine WHat.call 3 rfl hasF96 rfl rfl (r3Mul_spec _ _ _ _ _ _ _ _ _ hNx hNid (by omega) (by omega) (by omega) (by omega)) fun v w7 h' => ?_;obtain ⟨hDt, hC⟩ := h';rw [val_wd, val_wd, formD_sumD hX, formD_self okden, show both2 mulD (some (sumD (fvI x))) (some (intD (den : Int))) = mulD (sumD (fvI x)) (intD (den : Int)) from rfl, mulD_int hX (by omega) (by omega) hXD] at hDt;obtain ⟨rt, dt, hdt, rfl, hNt⟩ := hDt.resolve_right (fun q => by cases q.1);cases hdt;have hch := hch.ta hC;have hb12 := hb12.k0 hC;have hb14 := hb14.k0 hC;have hb16 := hb16.k0 hC;have hb18 := hb18.k0 hC;have hNx := hNx.keep0 hC;have hNy := hNy.keep0 hC;have hNf := hNf.keep0 hC;have hNim := hNim.keep0 hC;have hNu := hNu.keep0 hC;have hNid := hNid.keep0 hC;have hS := hS.trans hC;refine ⟨hS, ?_⟩;refine wh 4 rfl hS (fun _ _ => Ev.move rfl) (wh 5 rfl hS (fun _ _ => Ev.extract rfl rfl) (wh 6 rfl hS (fun _ _ => Ev.extract rfl rfl) ?_));refine WH.allocC (l := [.bool false, .slice none 0 0, .int .i64 0]) 7 rfl (by kernel_rfl) hS rfl rfl fun b20 wm20 hb20 hcm20 hge20 hS1 => ?_;have hgeS20 := Nat.le_trans hS.size hge20;have hS := hS1;have hgehch20 := Nat.le_trans hch.size hge20;have hch := hch.ta hcm20;have hNx := hNx.keep0 hcm20;have hNy := hNy.keep0 hcm20;have hNf := hNf.keep0 hcm20;have hNim := hNim.keep0 hcm20;have hNu := hNu.keep0 hcm20;have hNid := hNid.keep0 hcm20;have hNt := hNt.keep0 hcm20;have hneb1220 := zdd hb12.lt hge20;have hb12 := hb12.k0 hcm20;have hneb1420 := zdd hb14.lt hge20;have hb14 := hb14.k0 hcm20;have hneb1620 := zdd hb16.lt hge20;have hb16 := hb16.k0 hcm20;have hneb1820 := zdd hb18.lt hge20;have hb18 := hb18.k0 hcm20;refine WH.storeBN 8 rfl (by kernel_rfl) hS hgeS20 rfl rfl rfl ao hb20 (by simp) rfl fun ws22 hb20_ hcs22 hS => ?_;(try simp only [Sx.splice, qt] at hb20_);have hch := hch.s1 hcs22;have hb12 := hb12.kq hcs22;have hb14 := hb14.kq hcs22;have hb16 := hb16.kq hcs22;have hb18 := hb18.kq hcs22;have hNx := hNx.keepBK hb20 hcs22 an;have hNy := hNy.keepBK hb20 hcs22 an;have hNf := hNf.keepBK hb20 hcs22 an;have hNim := hNim.keepBK hb20 hcs22 an;have hNu := hNu.keepBK hb20 hcs22 an;have hNid := hNid.keepBK hb20 hcs22 an;have hNt := hNt.keepBK hb20 hcs22 an;have hb20 := hb20_;refine wh 9 rfl hS (fun _ _ => Ev.assign rfl) ?_;refine WH.done (by kernel_rfl) (kr12 _ _ _ ?_);refine kh11 (Sr fun _ kh13 => zg hb20 rfl (zg hb18 rfl ?_));refine WL.call hasF98 rfl rfl (r3Add_spec _ _ _ _ _ _ _ _ _ hNt hNu (by omega) (by omega) (by omega) (by omega)) fun v w8 h' => ?_;obtain ⟨hDv, hC⟩ := h';rw [val_wd, val_wd, formD_sumD hXD, formD_sumD hFM, show both2 addD (some (sumD (fvI x * (den : Int)))) (some (sumD ((fvI y + -fvI x) * (num : Int)))) = addD (sumD (fvI x * (den : Int))) (sumD ((fvI y + -fvI x) * (num : Int))) from rfl, addD_sum hXD hFM (by rw [hsum]; exact hV), hsum] at hDv;obtain ⟨rv, dv, hdv, rfl, hNv⟩ := hDv.resolve_right (fun q => by cases q.1);cases hdv;obtain ⟨⟨av, cv, rfl, hcapv, hrv⟩, hWv, hlv⟩ := id hNv
     have hch := hch.ta hC;have hb12 := hb12.k0 hC;have hb14 := hb14.k0 hC;have hb16 := hb16.k0 hC;have hb18 := hb18.k0 hC;have hb20 := hb20.k0 hC;have hNx := hNx.keep0 hC;have hNy := hNy.keep0 hC;have hNf := hNf.keep0 hC;have hNim := hNim.keep0 hC;have hNu := hNu.keep0 hC;have hNid := hNid.keep0 hC;have hNt := hNt.keep0 hC;refine zm rfl (zx rfl rfl (zx rfl rfl ?_));refine WL.allocB (l := [.bool false, .slice none 0 0, .int .i64 0]) rfl rfl fun b22 wm22 hb22 hcm22 hge22 => ?_;have hgehch22 := Nat.le_trans hch.size hge22;have hch := hch.ta hcm22;have hNx := hNx.keep0 hcm22;have hNy := hNy.keep0 hcm22;have hNf := hNf.keep0 hcm22;have hNim := hNim.keep0 hcm22;have hNu := hNu.keep0 hcm22;have hNid := hNid.keep0 hcm22;have hNt := hNt.keep0 hcm22;have hNv := hNv.keep0 hcm22;have hneb1222 := zdd hb12.lt hge22;have hb12 := hb12.k0 hcm22;have hneb1422 := zdd hb14.lt hge22;have hb14 := hb14.k0 hcm22;have hneb1622 := zdd hb16.lt hge22;have hb16 := hb16.k0 hcm22;have hneb1822 := zdd hb18.lt hge22;have hb18 := hb18.k0 hcm22;have hneb2022 := zdd hb20.lt hge22;have hb20 := hb20.k0 hcm22;refine zss rfl rfl ao hb22 rfl fun ws23 hb22_ hcs23 => ?_;(try simp only [Sx.splice, qt] at hb22_);have hch := hch.s1 hcs23;have hb12 := hb12.kq hcs23;have hb14 := hb14.kq hcs23;have hb16 := hb16.kq hcs23;have hb18 := hb18.kq hcs23;have hb20 := hb20.kq hcs23;have hNx := hNx.keepBK hb22 hcs23 an;have hNy := hNy.keepBK hb22 hcs23 an;have hNf := hNf.keepBK hb22 hcs23 an;have hNim := hNim.keepBK hb22 hcs23 an;have hNu := hNu.keepBK hb22 hcs23 an;have hNid := hNid.keepBK hb22 hcs23 an;have hNt := hNt.keepBK hb22 hcs23 an;have hNv := hNv.keepBK hb22 hcs23 an;have hb22 := hb22_;refine za rfl (zz (kh13 (zc fun _ kh15 => Sr fun _ kh16 => zf rfl (zl hb22 rfl rfl (zn rfl (zq rfl rfl (zz (kh16 ?_))))))));refine zy rfl (fun hc1 => ?_) fun hc1 => ?_
     ·
      (try simp only [qs] at hc1);have h0 : (sumD (lineV x y num den)).m = 0 := wd_eq_nil.1 (List.length_eq_zero_iff.1 (by omega));refine Sr fun _ kh18 => zm rfl (zm rfl ?_);refine WL.buildSlice (m := 2) (cs := [f64v (x), f64v (y)]) (by decide) (by decide) rfl (by kernel_rfl) rfl fun b66 w66 hn66 => ?_
      have hcm66 := hn66.chg;have hge66 := hn66.ge;have hb66 : FB w66 b66 _ [x, y] := hn66.at_;have hgehch66 := Nat.le_trans hch.size hge66;have hch := hch.ta hcm66;have hNx := hNx.keep0 hcm66;have hNy := hNy.keep0 hcm66;have hNf := hNf.keep0 hcm66;have hNim := hNim.keep0 hcm66;have hNu := hNu.keep0 hcm66;have hNid := hNid.keep0 hcm66;have hNt := hNt.keep0 hcm66;have hNv := hNv.keep0 hcm66;have hneb1266 := zdd hb12.lt hge66;have hb12 := hb12.k0 hcm66;have hneb1466 := zdd hb14.lt hge66;have hb14 := hb14.k0 hcm66;have hneb1666 := zdd hb16.lt hge66;have hb16 := hb16.k0 hcm66;have hneb1866 := zdd hb18.lt hge66;have hb18 := hb18.k0 hcm66;have hneb2066 := zdd hb20.lt hge66;have hb20 := hb20.k0 hcm66;have hneb2266 : b22 ≠ b66 := by have := hb22.lt; omega
      have hb22 := hb22.k0 hcm66;refine WL.call hasF100 rfl rfl (r6Of_spec _ [x, y] _ ((NF.of_row hb66.row (by intro z hz; simp only [List.mem_cons, List.not_mem_nil, or_false] at hz; rcases hz with rfl | rfl <;> assumption) (by simp) rfl (by simp))) (by simp)) fun v w9 h' => ?_;obtain ⟨rfl, hC⟩ := h';unfold SP.cells;have hch := hch.ta hC;have hb12 := hb12.k0 hC;have hb14 := hb14.k0 hC;have hb16 := hb16.k0 hC;have hb18 := hb18.k0 hC;have hb20 := hb20.k0 hC;have hb22 := hb22.k0 hC;have hb66 := hb66.k0 hC;have hNx := hNx.keep0 hC;have hNy := hNy.keep0 hC;have hNf := hNf.keep0 hC;have hNim := hNim.keep0 hC;have hNu := hNu.keep0 hC;have hNid := hNid.keep0 hC;have hNt := hNt.keep0 hC;have hNv := hNv.keep0 hC;refine zm rfl ?_;refine WL.call hasF99 rfl rfl (r6Nought_spec (cntP [x, y]) mode _ ((cnt_le [x, y]).mono (by simp))) fun v w10 h' => ?_;obtain ⟨rfl, hC⟩ := h';have hch := hch.ta hC;have hb12 := hb12.k0 hC;have hb14 := hb14.k0 hC;have hb16 := hb16.k0 hC;have hb18 := hb18.k0 hC;have hb20 := hb20.k0 hC;have hb22 := hb22.k0 hC;have hb66 := hb66.k0 hC;have hNx := hNx.keep0 hC;have hNy := hNy.keep0 hC;have hNf := hNf.keep0 hC;have hNim := hNim.keep0 hC;have hNu := hNu.keep0 hC;have hNid := hNid.keep0 hC;have hNt := hNt.keep0 hC;have hNv := hNv.keep0 hC;refine za rfl (za rfl (zz (kh18 ?_)));refine zr ?_;refine zr2 rfl rfl rfl ?_;exact ⟨⟨_, _, rfl, .inl ⟨h0, rfl, rfl⟩⟩, hch⟩
     ·
      (try simp only [qs] at hc1);have h0 : (sumD (lineV x y num den)).m ≠ 0 := fun q => by rw [q, wd_zero] at hc1; exact hc1 rfl
      refine zkk ?_;refine kh15 (zc fun _ kh20 => ?_);refine CW.regionHC 10 rfl hmix fun kR21 kr21 hS hdr => ?_;have hch := hch.ta hdr;have hb12 := hb12.k0 hdr;have hb14 := hb14.k0 hdr;have hb16 := hb16.k0 hdr;have hb18 := hb18.k0 hdr;have hb20 := hb20.k0 hdr;have hb22 := hb22.k0 hdr;have hNx := hNx.keep0 hdr;have hNy := hNy.keep0 hdr;have hNf := hNf.keep0 hdr;have hNim := hNim.keep0 hdr;have hNu := hNu.keep0 hdr;have hNid := hNid.keep0 hdr;have hNt := hNt.keep0 hdr;have hNv := hNv.keep0 hdr;have hch_r := hch;have hb12_r := hb12;have hb14_r := hb14;have hb16_r := hb16;have hb18_r := hb18;have hb20_r := hb20;have hb22_r := hb22;refine wh 0 rfl hS (fun _ hw' => Ev.loadA rfl rfl (hb22_r.keep0 hw') rfl) (wh 1 rfl hS (fun _ _ => Ev.move rfl) (wh 4 rfl hS (fun _ _ => Ev.move rfl) ?_));refine WH.oneCall 2 rfl (by kernel_rfl) hasF97 rfl rfl (r3Int_spec ((den : Nat) : Int) _ (by omega)) fun v w11 h' => ?_;obtain ⟨⟨rie, rfl, hNie⟩, hC⟩ := h';have hch := hch.ta hC;have hb12 := hb12.k0 hC;have hb14 := hb14.k0 hC;have hb16 := hb16.k0 hC;have hb18 := hb18.k0 hC;have hb20 := hb20.k0 hC;have hb22 := hb22.k0 hC;have hNx := hNx.keep0 hC;have hNy := hNy.keep0 hC;have hNf := hNf.keep0 hC;have hNim := hNim.keep0 hC;have hNu := hNu.keep0 hC;have hNid := hNid.keep0 hC;have hNt := hNt.keep0 hC;have hNv := hNv.keep0 hC;have hS := hS.trans hC;refine ⟨hS, ?_⟩;refine wh 3 rfl hS (fun _ _ => Ev.build (vs := _) (cs := [_, _, _, _, _, _]) rfl rfl) ?_;refine WH.oneCall 5 rfl (by kernel_rfl) hasF101 rfl rfl (r11Quot_spec _ _ _ _ _ _ _ _ mode _ hNv hNie (by omega) (by omega) (by omega) (by omega)) fun v w12 h' => ?_;obtain ⟨⟨bits, e, rfl, hQ⟩, hC⟩ := h';rw [val_wd, val_wd] at hQ;have hch := hch.ta hC;have hb12 := hb12.k0 hC;have hb14 := hb14.k0 hC;have hb16 := hb16.k0 hC;have hb18 := hb18.k0 hC;have hb20 := hb20.k0 hC;have hb22 := hb22.k0 hC;have hNx := hNx.keep0 hC;have hNy := hNy.keep0 hC;have hNf := hNf.keep0 hC;have hNim := hNim.keep0 hC;have hNu := hNu.keep0 hC;have hNid := hNid.keep0 hC;have hNt := hNt.keep0 hC;have hNv := hNv.keep0 hC;have hNie := hNie.keep0 hC;have hS := hS.trans hC;refine ⟨hS, ?_⟩;refine wh 6 rfl hS (fun _ _ => Ev.extract rfl rfl) (wh 7 rfl hS (fun _ _ => Ev.extract rfl rfl) (wh 8 rfl hS (fun _ _ => Ev.assign rfl) (wh 9 rfl hS (fun _ _ => Ev.assign rfl) ?_)));refine WH.done (by kernel_rfl) (kr21 _ _ _ ?_);refine kh20 ?_;refine zr ?_;refine zr2 rfl rfl rfl ?_;exact ⟨⟨_, _, rfl, .inr ⟨h0, hQ⟩⟩, hch⟩
    ·
     refine WHat.allocC (l := [.bool false, .slice none 0 0, .int .i64 0]) 7 rfl hS rfl rfl fun b20 wm20 hb20 hcm20 hge20 hS1 => ?_;have hgeS20 := Nat.le_trans hS.size hge20;have hS := hS1;have hgehch20 := Nat.le_trans hch.size hge20;have hch := hch.ta hcm20;have hNx := hNx.keep0 hcm20;have hNy := hNy.keep0 hcm20;have hNf := hNf.keep0 hcm20;have hNim := hNim.keep0 hcm20;have hNu := hNu.keep0 hcm20;have hNid := hNid.keep0 hcm20;have hneb1220 := zdd hb12.lt hge20;have hb12 := hb12.k0 hcm20;have hneb1420 := zdd hb14.lt hge20;have hb14 := hb14.k0 hcm20;have hneb1620 := zdd hb16.lt hge20;have hb16 := hb16.k0 hcm20;have hneb1820 := zdd hb18.lt hge20;have hb18 := hb18.k0 hcm20;refine WH.oneCall 3 rfl (by kernel_rfl) hasF96 rfl rfl (r3Mul_spec _ _ _ _ _ _ _ _ _ hNx hNid (by omega) (by omega) (by omega) (by omega)) fun v w13 h' => ?_;obtain ⟨hDt, hC⟩ := h';rw [val_wd, val_wd, formD_sumD hX, formD_self okden, show both2 mulD (some (sumD (fvI x))) (some (intD (den : Int))) = mulD (sumD (fvI x)) (intD (den : Int)) from rfl, mulD_int hX (by omega) (by omega) hXD] at hDt;obtain ⟨rt, dt, hdt, rfl, hNt⟩ := hDt.resolve_right (fun q => by cases q.1);cases hdt;have hch := hch.ta hC;have hb12 := hb12.k0 hC;have hb14 := hb14.k0 hC;have hb16 := hb16.k0 hC;have hb18 := hb18.k0 hC;have hb20 := hb20.k0 hC;have hNx := hNx.keep0 hC;have hNy := hNy.keep0 hC;have hNf := hNf.keep0 hC;have hNim := hNim.keep0 hC;have hNu := hNu.keep0 hC;have hNid := hNid.keep0 hC;have hS := hS.trans hC;refine ⟨hS, ?_⟩;refine wh 4 rfl hS (fun _ _ => Ev.move rfl) (wh 5 rfl hS (fun _ _ => Ev.extract rfl rfl) (wh 6 rfl hS (fun _ _ => Ev.extract rfl rfl) ?_));refine WH.storeBN 8 rfl (by kernel_rfl) hS hgeS20 rfl rfl rfl ao hb20 (by simp) rfl fun ws24 hb20_ hcs24 hS => ?_;(try simp only [Sx.splice, qt] at hb20_);have hch := hch.s1 hcs24;have hb12 := hb12.kq hcs24;have hb14 := hb14.kq hcs24;have hb16 := hb16.kq hcs24;have hb18 := hb18.kq hcs24;have hNx := hNx.keepBK hb20 hcs24 an;have hNy := hNy.keepBK hb20 hcs24 an;have hNf := hNf.keepBK hb20 hcs24 an;have hNim := hNim.keepBK hb20 hcs24 an;have hNu := hNu.keepBK hb20 hcs24 an;have hNid := hNid.keepBK hb20 hcs24 an;have hNt := hNt.keepBK hb20 hcs24 an;have hb20 := hb20_;refine wh 9 rfl hS (fun _ _ => Ev.assign rfl) ?_;refine WH.done (by kernel_rfl) (kr12 _ _ _ ?_);refine kh11 (Sr fun _ kh22 => zg hb20 rfl (zg hb18 rfl ?_));refine WL.call hasF98 rfl rfl (r3Add_spec _ _ _ _ _ _ _ _ _ hNt hNu (by omega) (by omega) (by omega) (by omega)) fun v w14 h' => ?_;obtain ⟨hDv, hC⟩ := h';rw [val_wd, val_wd, formD_sumD hXD, formD_sumD hFM, show both2 addD (some (sumD (fvI x * (den : Int)))) (some (sumD ((fvI y + -fvI x) * (num : Int)))) = addD (sumD (fvI x * (den : Int))) (sumD ((fvI y + -fvI x) * (num : Int))) from rfl, addD_sum hXD hFM (by rw [hsum]; exact hV), hsum] at hDv;obtain ⟨rv, dv, hdv, rfl, hNv⟩ := hDv.resolve_right (fun q => by cases q.1);cases hdv;obtain ⟨⟨av, cv, rfl, hcapv, hrv⟩, hWv, hlv⟩ := id hNv
     have hch := hch.ta hC;have hb12 := hb12.k0 hC;have hb14 := hb14.k0 hC;have hb16 := hb16.k0 hC;have hb18 := hb18.k0 hC;have hb20 := hb20.k0 hC;have hNx := hNx.keep0 hC;have hNy := hNy.keep0 hC;have hNf := hNf.keep0 hC;have hNim := hNim.keep0 hC;have hNu := hNu.keep0 hC;have hNid := hNid.keep0 hC;have hNt := hNt.keep0 hC;refine zm rfl (zx rfl rfl (zx rfl rfl ?_));refine WL.allocB (l := [.bool false, .slice none 0 0, .int .i64 0]) rfl rfl fun b22 wm22 hb22 hcm22 hge22 => ?_;have hgehch22 := Nat.le_trans hch.size hge22;have hch := hch.ta hcm22;have hNx := hNx.keep0 hcm22;have hNy := hNy.keep0 hcm22;have hNf := hNf.keep0 hcm22;have hNim := hNim.keep0 hcm22;have hNu := hNu.keep0 hcm22;have hNid := hNid.keep0 hcm22;have hNt := hNt.keep0 hcm22;have hNv := hNv.keep0 hcm22;have hneb1222 := zdd hb12.lt hge22;have hb12 := hb12.k0 hcm22;have hneb1422 := zdd hb14.lt hge22;have hb14 := hb14.k0 hcm22;have hneb1622 := zdd hb16.lt hge22;have hb16 := hb16.k0 hcm22;have hneb1822 := zdd hb18.lt hge22;have hb18 := hb18.k0 hcm22;have hneb2022 := zdd hb20.lt hge22;have hb20 := hb20.k0 hcm22;refine zss rfl rfl ao hb22 rfl fun ws25 hb22_ hcs25 => ?_;(try simp only [Sx.splice, qt] at hb22_);have hch := hch.s1 hcs25;have hb12 := hb12.kq hcs25;have hb14 := hb14.kq hcs25;have hb16 := hb16.kq hcs25;have hb18 := hb18.kq hcs25;have hb20 := hb20.kq hcs25;have hNx := hNx.keepBK hb22 hcs25 an;have hNy := hNy.keepBK hb22 hcs25 an;have hNf := hNf.keepBK hb22 hcs25 an;have hNim := hNim.keepBK hb22 hcs25 an;have hNu := hNu.keepBK hb22 hcs25 an;have hNid := hNid.keepBK hb22 hcs25 an;have hNt := hNt.keepBK hb22 hcs25 an;have hNv := hNv.keepBK hb22 hcs25 an;have hb22 := hb22_;refine za rfl (zz (kh22 (zc fun _ kh24 => Sr fun _ kh25 => zf rfl (zl hb22 rfl rfl (zn rfl (zq rfl rfl (zz (kh25 ?_))))))));refine zy rfl (fun hc2 => ?_) fun hc2 => ?_
     ·
      (try simp only [qs] at hc2);have h0 : (sumD (lineV x y num den)).m = 0 := wd_eq_nil.1 (List.length_eq_zero_iff.1 (by omega));refine Sr fun _ kh27 => zm rfl (zm rfl ?_);refine WL.buildSlice (m := 2) (cs := [f64v (x), f64v (y)]) (by decide) (by decide) rfl (by kernel_rfl) rfl fun b66 w66 hn66 => ?_
      have hcm66 := hn66.chg;have hge66 := hn66.ge;have hb66 : FB w66 b66 _ [x, y] := hn66.at_;have hgehch66 := Nat.le_trans hch.size hge66;have hch := hch.ta hcm66;have hNx := hNx.keep0 hcm66;have hNy := hNy.keep0 hcm66;have hNf := hNf.keep0 hcm66;have hNim := hNim.keep0 hcm66;have hNu := hNu.keep0 hcm66;have hNid := hNid.keep0 hcm66;have hNt := hNt.keep0 hcm66;have hNv := hNv.keep0 hcm66;have hneb1266 := zdd hb12.lt hge66;have hb12 := hb12.k0 hcm66;have hneb1466 := zdd hb14.lt hge66;have hb14 := hb14.k0 hcm66;have hneb1666 := zdd hb16.lt hge66;have hb16 := hb16.k0 hcm66;have hneb1866 := zdd hb18.lt hge66;have hb18 := hb18.k0 hcm66;have hneb2066 := zdd hb20.lt hge66;have hb20 := hb20.k0 hcm66;have hneb2266 : b22 ≠ b66 := by have := hb22.lt; omega
      have hb22 := hb22.k0 hcm66;refine WL.call hasF100 rfl rfl (r6Of_spec _ [x, y] _ ((NF.of_row hb66.row (by intro z hz; simp only [List.mem_cons, List.not_mem_nil, or_false] at hz; rcases hz with rfl | rfl <;> assumption) (by simp) rfl (by simp))) (by simp)) fun v w15 h' => ?_;obtain ⟨rfl, hC⟩ := h';unfold SP.cells;have hch := hch.ta hC;have hb12 := hb12.k0 hC;have hb14 := hb14.k0 hC;have hb16 := hb16.k0 hC;have hb18 := hb18.k0 hC;have hb20 := hb20.k0 hC;have hb22 := hb22.k0 hC;have hb66 := hb66.k0 hC;have hNx := hNx.keep0 hC;have hNy := hNy.keep0 hC;have hNf := hNf.keep0 hC;have hNim := hNim.keep0 hC;have hNu := hNu.keep0 hC;have hNid := hNid.keep0 hC;have hNt := hNt.keep0 hC;have hNv := hNv.keep0 hC;refine zm rfl ?_;refine WL.call hasF99 rfl rfl (r6Nought_spec (cntP [x, y]) mode _ ((cnt_le [x, y]).mono (by simp))) fun v w16 h' => ?_;obtain ⟨rfl, hC⟩ := h';have hch := hch.ta hC;have hb12 := hb12.k0 hC;have hb14 := hb14.k0 hC;have hb16 := hb16.k0 hC;have hb18 := hb18.k0 hC;have hb20 := hb20.k0 hC;have hb22 := hb22.k0 hC;have hb66 := hb66.k0 hC;have hNx := hNx.keep0 hC;have hNy := hNy.keep0 hC;have hNf := hNf.keep0 hC;have hNim := hNim.keep0 hC;have hNu := hNu.keep0 hC;have hNid := hNid.keep0 hC;have hNt := hNt.keep0 hC;have hNv := hNv.keep0 hC;refine za rfl (za rfl (zz (kh27 ?_)));refine zr ?_;refine zr2 rfl rfl rfl ?_;exact ⟨⟨_, _, rfl, .inl ⟨h0, rfl, rfl⟩⟩, hch⟩
     ·
      (try simp only [qs] at hc2);have h0 : (sumD (lineV x y num den)).m ≠ 0 := fun q => by rw [q, wd_zero] at hc2; exact hc2 rfl
      refine zkk ?_;refine kh24 (zc fun _ kh29 => ?_);refine CW.regionHC 10 rfl hmix fun kR30 kr30 hS hdr => ?_;have hch := hch.ta hdr;have hb12 := hb12.k0 hdr;have hb14 := hb14.k0 hdr;have hb16 := hb16.k0 hdr;have hb18 := hb18.k0 hdr;have hb20 := hb20.k0 hdr;have hb22 := hb22.k0 hdr;have hNx := hNx.keep0 hdr;have hNy := hNy.keep0 hdr;have hNf := hNf.keep0 hdr;have hNim := hNim.keep0 hdr;have hNu := hNu.keep0 hdr;have hNid := hNid.keep0 hdr;have hNt := hNt.keep0 hdr;have hNv := hNv.keep0 hdr;have hch_r := hch;have hb12_r := hb12;have hb14_r := hb14;have hb16_r := hb16;have hb18_r := hb18;have hb20_r := hb20;have hb22_r := hb22;refine wh 0 rfl hS (fun _ hw' => Ev.loadA rfl rfl (hb22_r.keep0 hw') rfl) (wh 1 rfl hS (fun _ _ => Ev.move rfl) (wh 4 rfl hS (fun _ _ => Ev.move rfl) ?_));refine WH.oneCall 2 rfl (by kernel_rfl) hasF97 rfl rfl (r3Int_spec ((den : Nat) : Int) _ (by omega)) fun v w17 h' => ?_;obtain ⟨⟨rie, rfl, hNie⟩, hC⟩ := h';have hch := hch.ta hC;have hb12 := hb12.k0 hC;have hb14 := hb14.k0 hC;have hb16 := hb16.k0 hC;have hb18 := hb18.k0 hC;have hb20 := hb20.k0 hC;have hb22 := hb22.k0 hC;have hNx := hNx.keep0 hC;have hNy := hNy.keep0 hC;have hNf := hNf.keep0 hC;have hNim := hNim.keep0 hC;have hNu := hNu.keep0 hC;have hNid := hNid.keep0 hC;have hNt := hNt.keep0 hC;have hNv := hNv.keep0 hC;have hS := hS.trans hC;refine ⟨hS, ?_⟩;refine wh 3 rfl hS (fun _ _ => Ev.build (vs := _) (cs := [_, _, _, _, _, _]) rfl rfl) ?_;refine WH.oneCall 5 rfl (by kernel_rfl) hasF101 rfl rfl (r11Quot_spec _ _ _ _ _ _ _ _ mode _ hNv hNie (by omega) (by omega) (by omega) (by omega)) fun v w18 h' => ?_;obtain ⟨⟨bits, e, rfl, hQ⟩, hC⟩ := h';rw [val_wd, val_wd] at hQ;have hch := hch.ta hC;have hb12 := hb12.k0 hC;have hb14 := hb14.k0 hC;have hb16 := hb16.k0 hC;have hb18 := hb18.k0 hC;have hb20 := hb20.k0 hC;have hb22 := hb22.k0 hC;have hNx := hNx.keep0 hC;have hNy := hNy.keep0 hC;have hNf := hNf.keep0 hC;have hNim := hNim.keep0 hC;have hNu := hNu.keep0 hC;have hNid := hNid.keep0 hC;have hNt := hNt.keep0 hC;have hNv := hNv.keep0 hC;have hNie := hNie.keep0 hC;have hS := hS.trans hC;refine ⟨hS, ?_⟩;refine wh 6 rfl hS (fun _ _ => Ev.extract rfl rfl) (wh 7 rfl hS (fun _ _ => Ev.extract rfl rfl) (wh 8 rfl hS (fun _ _ => Ev.assign rfl) (wh 9 rfl hS (fun _ _ => Ev.assign rfl) ?_)));refine WH.done (by kernel_rfl) (kr30 _ _ _ ?_);refine kh29 ?_;refine zr ?_;refine zr2 rfl rfl rfl ?_;exact ⟨⟨_, _, rfl, .inr ⟨h0, hQ⟩⟩, hch⟩
   ·
    refine WHat.allocC (l := [.bool false, .slice none 0 0, .int .i64 0]) 7 rfl hS rfl rfl fun b20 wm20 hb20 hcm20 hge20 hS1 => ?_;have hgeS20 := Nat.le_trans hS.size hge20;have hS := hS1;have hgehch20 := Nat.le_trans hch.size hge20;have hch := hch.ta hcm20;have hNx := hNx.keep0 hcm20;have hNy := hNy.keep0 hcm20;have hNf := hNf.keep0 hcm20;have hNim := hNim.keep0 hcm20;have hNu := hNu.keep0 hcm20;have hneb1220 := zdd hb12.lt hge20;have hb12 := hb12.k0 hcm20;have hneb1420 := zdd hb14.lt hge20;have hb14 := hb14.k0 hcm20;have hneb1620 := zdd hb16.lt hge20;have hb16 := hb16.k0 hcm20;have hneb1820 := zdd hb18.lt hge20;have hb18 := hb18.k0 hcm20;refine WH.oneCall 2 rfl (by kernel_rfl) hasF97 rfl rfl (r3Int_spec ((den : Nat) : Int) _ (by omega)) fun v w19 h' => ?_;obtain ⟨⟨rid, rfl, hNid⟩, hC⟩ := h';have hch := hch.ta hC;have hb12 := hb12.k0 hC;have hb14 := hb14.k0 hC;have hb16 := hb16.k0 hC;have hb18 := hb18.k0 hC;have hb20 := hb20.k0 hC;have hNx := hNx.keep0 hC;have hNy := hNy.keep0 hC;have hNf := hNf.keep0 hC;have hNim := hNim.keep0 hC;have hNu := hNu.keep0 hC;have hS := hS.trans hC;refine ⟨hS, ?_⟩;refine WH.oneCall 3 rfl (by kernel_rfl) hasF96 rfl rfl (r3Mul_spec _ _ _ _ _ _ _ _ _ hNx hNid (by omega) (by omega) (by omega) (by omega)) fun v w20 h' => ?_;obtain ⟨hDt, hC⟩ := h';rw [val_wd, val_wd, formD_sumD hX, formD_self okden, show both2 mulD (some (sumD (fvI x))) (some (intD (den : Int))) = mulD (sumD (fvI x)) (intD (den : Int)) from rfl, mulD_int hX (by omega) (by omega) hXD] at hDt;obtain ⟨rt, dt, hdt, rfl, hNt⟩ := hDt.resolve_right (fun q => by cases q.1);cases hdt;have hch := hch.ta hC;have hb12 := hb12.k0 hC;have hb14 := hb14.k0 hC;have hb16 := hb16.k0 hC;have hb18 := hb18.k0 hC;have hb20 := hb20.k0 hC;have hNx := hNx.keep0 hC;have hNy := hNy.keep0 hC;have hNf := hNf.keep0 hC;have hNim := hNim.keep0 hC;have hNu := hNu.keep0 hC;have hNid := hNid.keep0 hC;have hS := hS.trans hC;refine ⟨hS, ?_⟩;refine wh 4 rfl hS (fun _ _ => Ev.move rfl) (wh 5 rfl hS (fun _ _ => Ev.extract rfl rfl) (wh 6 rfl hS (fun _ _ => Ev.extract rfl rfl) ?_));refine WH.storeBN 8 rfl (by kernel_rfl) hS hgeS20 rfl rfl rfl ao hb20 (by simp) rfl fun ws26 hb20_ hcs26 hS => ?_;(try simp only [Sx.splice, qt] at hb20_);have hch := hch.s1 hcs26;have hb12 := hb12.kq hcs26;have hb14 := hb14.kq hcs26;have hb16 := hb16.kq hcs26;have hb18 := hb18.kq hcs26;have hNx := hNx.keepBK hb20 hcs26 an;have hNy := hNy.keepBK hb20 hcs26 an;have hNf := hNf.keepBK hb20 hcs26 an;have hNim := hNim.keepBK hb20 hcs26 an;have hNu := hNu.keepBK hb20 hcs26 an;have hNid := hNid.keepBK hb20 hcs26 an;have hNt := hNt.keepBK hb20 hcs26 an;have hb20 := hb20_;refine wh 9 rfl hS (fun _ _ => Ev.assign rfl) ?_;refine WH.done (by kernel_rfl) (kr12 _ _ _ ?_);refine kh11 (Sr fun _ kh31 => zg hb20 rfl (zg hb18 rfl ?_));refine WL.call hasF98 rfl rfl (r3Add_spec _ _ _ _ _ _ _ _ _ hNt hNu (by omega) (by omega) (by omega) (by omega)) fun v w21 h' => ?_
    obtain ⟨hDv, hC⟩ := h';rw [val_wd, val_wd, formD_sumD hXD, formD_sumD hFM, show both2 addD (some (sumD (fvI x * (den : Int)))) (some (sumD ((fvI y + -fvI x) * (num : Int)))) = addD (sumD (fvI x * (den : Int))) (sumD ((fvI y + -fvI x) * (num : Int))) from rfl, addD_sum hXD hFM (by rw [hsum]; exact hV), hsum] at hDv;obtain ⟨rv, dv, hdv, rfl, hNv⟩ := hDv.resolve_right (fun q => by cases q.1);cases hdv;obtain ⟨⟨av, cv, rfl, hcapv, hrv⟩, hWv, hlv⟩ := id hNv;have hch := hch.ta hC;have hb12 := hb12.k0 hC;have hb14 := hb14.k0 hC;have hb16 := hb16.k0 hC;have hb18 := hb18.k0 hC;have hb20 := hb20.k0 hC;have hNx := hNx.keep0 hC;have hNy := hNy.keep0 hC;have hNf := hNf.keep0 hC;have hNim := hNim.keep0 hC;have hNu := hNu.keep0 hC;have hNid := hNid.keep0 hC;have hNt := hNt.keep0 hC;refine zm rfl (zx rfl rfl (zx rfl rfl ?_));refine WL.allocB (l := [.bool false, .slice none 0 0, .int .i64 0]) rfl rfl fun b22 wm22 hb22 hcm22 hge22 => ?_;have hgehch22 := Nat.le_trans hch.size hge22;have hch := hch.ta hcm22;have hNx := hNx.keep0 hcm22;have hNy := hNy.keep0 hcm22;have hNf := hNf.keep0 hcm22;have hNim := hNim.keep0 hcm22;have hNu := hNu.keep0 hcm22;have hNid := hNid.keep0 hcm22;have hNt := hNt.keep0 hcm22;have hNv := hNv.keep0 hcm22;have hneb1222 := zdd hb12.lt hge22;have hb12 := hb12.k0 hcm22;have hneb1422 := zdd hb14.lt hge22;have hb14 := hb14.k0 hcm22;have hneb1622 := zdd hb16.lt hge22;have hb16 := hb16.k0 hcm22;have hneb1822 := zdd hb18.lt hge22;have hb18 := hb18.k0 hcm22;have hneb2022 := zdd hb20.lt hge22;have hb20 := hb20.k0 hcm22;refine zss rfl rfl ao hb22 rfl fun ws27 hb22_ hcs27 => ?_;(try simp only [Sx.splice, qt] at hb22_);have hch := hch.s1 hcs27;have hb12 := hb12.kq hcs27;have hb14 := hb14.kq hcs27;have hb16 := hb16.kq hcs27;have hb18 := hb18.kq hcs27;have hb20 := hb20.kq hcs27;have hNx := hNx.keepBK hb22 hcs27 an;have hNy := hNy.keepBK hb22 hcs27 an;have hNf := hNf.keepBK hb22 hcs27 an;have hNim := hNim.keepBK hb22 hcs27 an;have hNu := hNu.keepBK hb22 hcs27 an;have hNid := hNid.keepBK hb22 hcs27 an;have hNt := hNt.keepBK hb22 hcs27 an;have hNv := hNv.keepBK hb22 hcs27 an;have hb22 := hb22_;refine za rfl (zz (kh31 (zc fun _ kh33 => Sr fun _ kh34 => zf rfl (zl hb22 rfl rfl (zn rfl (zq rfl rfl (zz (kh34 ?_))))))));refine zy rfl (fun hc3 => ?_) fun hc3 => ?_
    ·
     (try simp only [qs] at hc3);have h0 : (sumD (lineV x y num den)).m = 0 := wd_eq_nil.1 (List.length_eq_zero_iff.1 (by omega));refine Sr fun _ kh36 => zm rfl (zm rfl ?_);refine WL.buildSlice (m := 2) (cs := [f64v (x), f64v (y)]) (by decide) (by decide) rfl (by kernel_rfl) rfl fun b66 w66 hn66 => ?_
     have hcm66 := hn66.chg;have hge66 := hn66.ge;have hb66 : FB w66 b66 _ [x, y] := hn66.at_;have hgehch66 := Nat.le_trans hch.size hge66;have hch := hch.ta hcm66;have hNx := hNx.keep0 hcm66;have hNy := hNy.keep0 hcm66;have hNf := hNf.keep0 hcm66;have hNim := hNim.keep0 hcm66;have hNu := hNu.keep0 hcm66;have hNid := hNid.keep0 hcm66;have hNt := hNt.keep0 hcm66;have hNv := hNv.keep0 hcm66;have hneb1266 := zdd hb12.lt hge66;have hb12 := hb12.k0 hcm66;have hneb1466 := zdd hb14.lt hge66;have hb14 := hb14.k0 hcm66;have hneb1666 := zdd hb16.lt hge66;have hb16 := hb16.k0 hcm66;have hneb1866 := zdd hb18.lt hge66;have hb18 := hb18.k0 hcm66;have hneb2066 := zdd hb20.lt hge66;have hb20 := hb20.k0 hcm66;have hneb2266 := zdd hb22.lt hge66;have hb22 := hb22.k0 hcm66;refine WL.call hasF100 rfl rfl (r6Of_spec _ [x, y] _ ((NF.of_row hb66.row (by intro z hz; simp only [List.mem_cons, List.not_mem_nil, or_false] at hz; rcases hz with rfl | rfl <;> assumption) (by simp) rfl (by simp))) (by simp)) fun v w22 h' => ?_;obtain ⟨rfl, hC⟩ := h';unfold SP.cells;have hch := hch.ta hC;have hb12 := hb12.k0 hC;have hb14 := hb14.k0 hC;have hb16 := hb16.k0 hC;have hb18 := hb18.k0 hC;have hb20 := hb20.k0 hC;have hb22 := hb22.k0 hC;have hb66 := hb66.k0 hC;have hNx := hNx.keep0 hC;have hNy := hNy.keep0 hC;have hNf := hNf.keep0 hC;have hNim := hNim.keep0 hC;have hNu := hNu.keep0 hC;have hNid := hNid.keep0 hC;have hNt := hNt.keep0 hC;have hNv := hNv.keep0 hC;refine zm rfl ?_;refine WL.call hasF99 rfl rfl (r6Nought_spec (cntP [x, y]) mode _ ((cnt_le [x, y]).mono (by simp))) fun v w23 h' => ?_;obtain ⟨rfl, hC⟩ := h';have hch := hch.ta hC;have hb12 := hb12.k0 hC;have hb14 := hb14.k0 hC;have hb16 := hb16.k0 hC;have hb18 := hb18.k0 hC;have hb20 := hb20.k0 hC;have hb22 := hb22.k0 hC;have hb66 := hb66.k0 hC;have hNx := hNx.keep0 hC;have hNy := hNy.keep0 hC;have hNf := hNf.keep0 hC;have hNim := hNim.keep0 hC;have hNu := hNu.keep0 hC;have hNid := hNid.keep0 hC;have hNt := hNt.keep0 hC;have hNv := hNv.keep0 hC;refine za rfl (za rfl (zz (kh36 ?_)));refine zr ?_;refine zr2 rfl rfl rfl ?_;exact ⟨⟨_, _, rfl, .inl ⟨h0, rfl, rfl⟩⟩, hch⟩
    ·
     (try simp only [qs] at hc3);have h0 : (sumD (lineV x y num den)).m ≠ 0 := fun q => by rw [q, wd_zero] at hc3; exact hc3 rfl
     refine zkk ?_;refine kh33 (zc fun _ kh38 => ?_);refine CW.regionHC 10 rfl hmix fun kR39 kr39 hS hdr => ?_;have hch := hch.ta hdr;have hb12 := hb12.k0 hdr;have hb14 := hb14.k0 hdr;have hb16 := hb16.k0 hdr;have hb18 := hb18.k0 hdr;have hb20 := hb20.k0 hdr;have hb22 := hb22.k0 hdr;have hNx := hNx.keep0 hdr;have hNy := hNy.keep0 hdr;have hNf := hNf.keep0 hdr;have hNim := hNim.keep0 hdr;have hNu := hNu.keep0 hdr;have hNid := hNid.keep0 hdr;have hNt := hNt.keep0 hdr;have hNv := hNv.keep0 hdr;have hch_r := hch;have hb12_r := hb12;have hb14_r := hb14;have hb16_r := hb16;have hb18_r := hb18;have hb20_r := hb20;have hb22_r := hb22;refine wh 0 rfl hS (fun _ hw' => Ev.loadA rfl rfl (hb22_r.keep0 hw') rfl) (wh 1 rfl hS (fun _ _ => Ev.move rfl) (wh 4 rfl hS (fun _ _ => Ev.move rfl) ?_));refine WH.oneCall 2 rfl (by kernel_rfl) hasF97 rfl rfl (r3Int_spec ((den : Nat) : Int) _ (by omega)) fun v w24 h' => ?_;obtain ⟨⟨rie, rfl, hNie⟩, hC⟩ := h';have hch := hch.ta hC;have hb12 := hb12.k0 hC;have hb14 := hb14.k0 hC;have hb16 := hb16.k0 hC;have hb18 := hb18.k0 hC;have hb20 := hb20.k0 hC;have hb22 := hb22.k0 hC;have hNx := hNx.keep0 hC;have hNy := hNy.keep0 hC;have hNf := hNf.keep0 hC;have hNim := hNim.keep0 hC;have hNu := hNu.keep0 hC;have hNid := hNid.keep0 hC;have hNt := hNt.keep0 hC;have hNv := hNv.keep0 hC;have hS := hS.trans hC;refine ⟨hS, ?_⟩;refine wh 3 rfl hS (fun _ _ => Ev.build (vs := _) (cs := [_, _, _, _, _, _]) rfl rfl) ?_;refine WH.oneCall 5 rfl (by kernel_rfl) hasF101 rfl rfl (r11Quot_spec _ _ _ _ _ _ _ _ mode _ hNv hNie (by omega) (by omega) (by omega) (by omega)) fun v w25 h' => ?_;obtain ⟨⟨bits, e, rfl, hQ⟩, hC⟩ := h';rw [val_wd, val_wd] at hQ;have hch := hch.ta hC;have hb12 := hb12.k0 hC;have hb14 := hb14.k0 hC;have hb16 := hb16.k0 hC;have hb18 := hb18.k0 hC;have hb20 := hb20.k0 hC;have hb22 := hb22.k0 hC;have hNx := hNx.keep0 hC;have hNy := hNy.keep0 hC;have hNf := hNf.keep0 hC;have hNim := hNim.keep0 hC;have hNu := hNu.keep0 hC;have hNid := hNid.keep0 hC;have hNt := hNt.keep0 hC;have hNv := hNv.keep0 hC;have hNie := hNie.keep0 hC;have hS := hS.trans hC;refine ⟨hS, ?_⟩;refine wh 6 rfl hS (fun _ _ => Ev.extract rfl rfl) (wh 7 rfl hS (fun _ _ => Ev.extract rfl rfl) (wh 8 rfl hS (fun _ _ => Ev.assign rfl) (wh 9 rfl hS (fun _ _ => Ev.assign rfl) ?_)));refine WH.done (by kernel_rfl) (kr39 _ _ _ ?_);refine kh38 ?_;refine zr ?_;refine zr2 rfl rfl rfl ?_;exact ⟨⟨_, _, rfl, .inr ⟨h0, hQ⟩⟩, hch⟩
  ·
   refine WHat.allocC (l := [.bool false, .slice none 0 0, .int .i64 0]) 7 rfl hS rfl rfl fun b18 wm18 hb18 hcm18 hge18 hS1 => ?_;have hgeS18 := Nat.le_trans hS.size hge18;have hS := hS1;have hgehch18 := Nat.le_trans hch.size hge18;have hch := hch.ta hcm18;have hNx := hNx.keep0 hcm18;have hNy := hNy.keep0 hcm18;have hNf := hNf.keep0 hcm18;have hNim := hNim.keep0 hcm18;have hneb1218 := zdd hb12.lt hge18;have hb12 := hb12.k0 hcm18;have hneb1418 := zdd hb14.lt hge18;have hb14 := hb14.k0 hcm18;have hneb1618 := zdd hb16.lt hge18;have hb16 := hb16.k0 hcm18;refine WH.oneCall 3 rfl (by kernel_rfl) hasF96 rfl rfl (r3Mul_spec _ _ _ _ _ _ _ _ _ hNf hNim (by omega) (by omega) (by omega) (by omega)) fun v w26 h' => ?_;obtain ⟨hDu, hC⟩ := h';rw [val_wd, val_wd, formD_sumD hF, formD_self oknum, show both2 mulD (some (sumD (fvI y + -fvI x))) (some (intD (num : Int))) = mulD (sumD (fvI y + -fvI x)) (intD (num : Int)) from rfl, mulD_int hF (by omega) (by omega) hFM] at hDu;obtain ⟨ru, du, hdu, rfl, hNu⟩ := hDu.resolve_right (fun q => by cases q.1);cases hdu;have hch := hch.ta hC;have hb12 := hb12.k0 hC;have hb14 := hb14.k0 hC;have hb16 := hb16.k0 hC;have hb18 := hb18.k0 hC;have hNx := hNx.keep0 hC;have hNy := hNy.keep0 hC;have hNf := hNf.keep0 hC;have hNim := hNim.keep0 hC;have hS := hS.trans hC;refine ⟨hS, ?_⟩;refine wh 4 rfl hS (fun _ _ => Ev.move rfl) (wh 5 rfl hS (fun _ _ => Ev.extract rfl rfl) (wh 6 rfl hS (fun _ _ => Ev.extract rfl rfl) ?_));refine WH.storeBN 8 rfl (by kernel_rfl) hS hgeS18 rfl rfl rfl ao hb18 (by simp) rfl fun ws28 hb18_ hcs28 hS => ?_;(try simp only [Sx.splice, qt] at hb18_);have hch := hch.s1 hcs28;have hb12 := hb12.kq hcs28;have hb14 := hb14.kq hcs28;have hb16 := hb16.kq hcs28;have hNx := hNx.keepBK hb18 hcs28 an;have hNy := hNy.keepBK hb18 hcs28 an;have hNf := hNf.keepBK hb18 hcs28 an;have hNim := hNim.keepBK hb18 hcs28 an;have hNu := hNu.keepBK hb18 hcs28 an;have hb18 := hb18_;refine wh 9 rfl hS (fun _ _ => Ev.assign rfl) ?_;refine WH.done (by kernel_rfl) (kr10 _ _ _ ?_);refine kh9 (zc fun _ kh40 => ?_);refine CW.regionHC 10 rfl hmix fun kR41 kr41 hS hdr => ?_;have hch := hch.ta hdr;have hb12 := hb12.k0 hdr;have hb14 := hb14.k0 hdr;have hb16 := hb16.k0 hdr;have hb18 := hb18.k0 hdr;have hNx := hNx.keep0 hdr;have hNy := hNy.keep0 hdr;have hNf := hNf.keep0 hdr;have hNim := hNim.keep0 hdr;have hNu := hNu.keep0 hdr;have hch_r := hch;have hb12_r := hb12;have hb14_r := hb14;have hb16_r := hb16;have hb18_r := hb18;refine wh 0 rfl hS (fun _ hw' => Ev.loadA rfl rfl (hb12_r.keep0 hw') rfl) (wh 1 rfl hS (fun _ _ => Ev.move rfl) ?_);refine WH.all2 2 7 (by kernel_rfl) ?_ ?_
   ·
    refine WHat.call 2 rfl hasF97 rfl rfl (r3Int_spec ((den : Nat) : Int) _ (by omega)) fun v w27 h' => ?_;obtain ⟨⟨rid, rfl, hNid⟩, hC⟩ := h';have hch := hch.ta hC;have hb12 := hb12.k0 hC;have hb14 := hb14.k0 hC;have hb16 := hb16.k0 hC;have hb18 := hb18.k0 hC;have hNx := hNx.keep0 hC;have hNy := hNy.keep0 hC;have hNf := hNf.keep0 hC;have hNim := hNim.keep0 hC;have hNu := hNu.keep0 hC;have hS := hS.trans hC;refine ⟨hS, ?_⟩;refine WH.all2 3 7 (by kernel_rfl) ?_ ?_
    ·
     refine WHat.call 3 rfl hasF96 rfl rfl (r3Mul_spec _ _ _ _ _ _ _ _ _ hNx hNid (by omega) (by omega) (by omega) (by omega)) fun v w28 h' => ?_;obtain ⟨hDt, hC⟩ := h';rw [val_wd, val_wd, formD_sumD hX, formD_self okden, show both2 mulD (some (sumD (fvI x))) (some (intD (den : Int))) = mulD (sumD (fvI x)) (intD (den : Int)) from rfl, mulD_int hX (by omega) (by omega) hXD] at hDt;obtain ⟨rt, dt, hdt, rfl, hNt⟩ := hDt.resolve_right (fun q => by cases q.1);cases hdt;have hch := hch.ta hC;have hb12 := hb12.k0 hC;have hb14 := hb14.k0 hC;have hb16 := hb16.k0 hC;have hb18 := hb18.k0 hC;have hNx := hNx.keep0 hC;have hNy := hNy.keep0 hC;have hNf := hNf.keep0 hC;have hNim := hNim.keep0 hC;have hNu := hNu.keep0 hC;have hNid := hNid.keep0 hC;have hS := hS.trans hC;refine ⟨hS, ?_⟩;refine wh 4 rfl hS (fun _ _ => Ev.move rfl) (wh 5 rfl hS (fun _ _ => Ev.extract rfl rfl) (wh 6 rfl hS (fun _ _ => Ev.extract rfl rfl) ?_));refine WH.allocC (l := [.bool false, .slice none 0 0, .int .i64 0]) 7 rfl (by kernel_rfl) hS rfl rfl fun b20 wm20 hb20 hcm20 hge20 hS1 => ?_;have hgeS20 := Nat.le_trans hS.size hge20;have hS := hS1;have hgehch20 := Nat.le_trans hch.size hge20;have hch := hch.ta hcm20;have hNx := hNx.keep0 hcm20;have hNy := hNy.keep0 hcm20;have hNf := hNf.keep0 hcm20;have hNim := hNim.keep0 hcm20;have hNu := hNu.keep0 hcm20;have hNid := hNid.keep0 hcm20;have hNt := hNt.keep0 hcm20;have hneb1220 := zdd hb12.lt hge20;have hb12 := hb12.k0 hcm20;have hneb1420 := zdd hb14.lt hge20;have hb14 := hb14.k0 hcm20;have hneb1620 := zdd hb16.lt hge20;have hb16 := hb16.k0 hcm20;have hneb1820 := zdd hb18.lt hge20;have hb18 := hb18.k0 hcm20;refine WH.storeBN 8 rfl (by kernel_rfl) hS hgeS20 rfl rfl rfl ao hb20 (by simp) rfl fun ws29 hb20_ hcs29 hS => ?_;(try simp only [Sx.splice, qt] at hb20_);have hch := hch.s1 hcs29;have hb12 := hb12.kq hcs29;have hb14 := hb14.kq hcs29;have hb16 := hb16.kq hcs29;have hb18 := hb18.kq hcs29;have hNx := hNx.keepBK hb20 hcs29 an;have hNy := hNy.keepBK hb20 hcs29 an;have hNf := hNf.keepBK hb20 hcs29 an;have hNim := hNim.keepBK hb20 hcs29 an;have hNu := hNu.keepBK hb20 hcs29 an;have hNid := hNid.keepBK hb20 hcs29 an;have hNt := hNt.keepBK hb20 hcs29 an;have hb20 := hb20_;refine wh 9 rfl hS (fun _ _ => Ev.assign rfl) ?_;refine WH.done (by kernel_rfl) (kr41 _ _ _ ?_);refine kh40 (Sr fun _ kh42 => zg hb20 rfl (zg hb18 rfl ?_));refine WL.call hasF98 rfl rfl (r3Add_spec _ _ _ _ _ _ _ _ _ hNt hNu (by omega) (by omega) (by omega) (by omega)) fun v w29 h' => ?_;obtain ⟨hDv, hC⟩ := h';rw [val_wd, val_wd, formD_sumD hXD, formD_sumD hFM, show both2 addD (some (sumD (fvI x * (den : Int)))) (some (sumD ((fvI y + -fvI x) * (num : Int)))) = addD (sumD (fvI x * (den : Int))) (sumD ((fvI y + -fvI x) * (num : Int))) from rfl, addD_sum hXD hFM (by rw [hsum]; exact hV), hsum] at hDv;obtain ⟨rv, dv, hdv, rfl, hNv⟩ := hDv.resolve_right (fun q => by cases q.1);cases hdv;obtain ⟨⟨av, cv, rfl, hcapv, hrv⟩, hWv, hlv⟩ := id hNv
     have hch := hch.ta hC;have hb12 := hb12.k0 hC;have hb14 := hb14.k0 hC;have hb16 := hb16.k0 hC;have hb18 := hb18.k0 hC;have hb20 := hb20.k0 hC;have hNx := hNx.keep0 hC;have hNy := hNy.keep0 hC;have hNf := hNf.keep0 hC;have hNim := hNim.keep0 hC;have hNu := hNu.keep0 hC;have hNid := hNid.keep0 hC;have hNt := hNt.keep0 hC;refine zm rfl (zx rfl rfl (zx rfl rfl ?_));refine WL.allocB (l := [.bool false, .slice none 0 0, .int .i64 0]) rfl rfl fun b22 wm22 hb22 hcm22 hge22 => ?_;have hgehch22 := Nat.le_trans hch.size hge22;have hch := hch.ta hcm22;have hNx := hNx.keep0 hcm22;have hNy := hNy.keep0 hcm22;have hNf := hNf.keep0 hcm22;have hNim := hNim.keep0 hcm22;have hNu := hNu.keep0 hcm22;have hNid := hNid.keep0 hcm22;have hNt := hNt.keep0 hcm22;have hNv := hNv.keep0 hcm22;have hneb1222 := zdd hb12.lt hge22;have hb12 := hb12.k0 hcm22;have hneb1422 := zdd hb14.lt hge22;have hb14 := hb14.k0 hcm22;have hneb1622 := zdd hb16.lt hge22;have hb16 := hb16.k0 hcm22;have hneb1822 := zdd hb18.lt hge22;have hb18 := hb18.k0 hcm22;have hneb2022 := zdd hb20.lt hge22;have hb20 := hb20.k0 hcm22;refine zss rfl rfl ao hb22 rfl fun ws30 hb22_ hcs30 => ?_;(try simp only [Sx.splice, qt] at hb22_);have hch := hch.s1 hcs30;have hb12 := hb12.kq hcs30;have hb14 := hb14.kq hcs30;have hb16 := hb16.kq hcs30;have hb18 := hb18.kq hcs30;have hb20 := hb20.kq hcs30;have hNx := hNx.keepBK hb22 hcs30 an;have hNy := hNy.keepBK hb22 hcs30 an;have hNf := hNf.keepBK hb22 hcs30 an;have hNim := hNim.keepBK hb22 hcs30 an;have hNu := hNu.keepBK hb22 hcs30 an;have hNid := hNid.keepBK hb22 hcs30 an;have hNt := hNt.keepBK hb22 hcs30 an;have hNv := hNv.keepBK hb22 hcs30 an;have hb22 := hb22_;refine za rfl (zz (kh42 (zc fun _ kh44 => Sr fun _ kh45 => zf rfl (zl hb22 rfl rfl (zn rfl (zq rfl rfl (zz (kh45 ?_))))))));refine zy rfl (fun hc4 => ?_) fun hc4 => ?_
     ·
      (try simp only [qs] at hc4);have h0 : (sumD (lineV x y num den)).m = 0 := wd_eq_nil.1 (List.length_eq_zero_iff.1 (by omega));refine Sr fun _ kh47 => zm rfl (zm rfl ?_);refine WL.buildSlice (m := 2) (cs := [f64v (x), f64v (y)]) (by decide) (by decide) rfl (by kernel_rfl) rfl fun b66 w66 hn66 => ?_
      have hcm66 := hn66.chg;have hge66 := hn66.ge;have hb66 : FB w66 b66 _ [x, y] := hn66.at_;have hgehch66 := Nat.le_trans hch.size hge66;have hch := hch.ta hcm66;have hNx := hNx.keep0 hcm66;have hNy := hNy.keep0 hcm66;have hNf := hNf.keep0 hcm66;have hNim := hNim.keep0 hcm66;have hNu := hNu.keep0 hcm66;have hNid := hNid.keep0 hcm66;have hNt := hNt.keep0 hcm66;have hNv := hNv.keep0 hcm66;have hneb1266 := zdd hb12.lt hge66;have hb12 := hb12.k0 hcm66;have hneb1466 := zdd hb14.lt hge66;have hb14 := hb14.k0 hcm66;have hneb1666 := zdd hb16.lt hge66;have hb16 := hb16.k0 hcm66;have hneb1866 := zdd hb18.lt hge66;have hb18 := hb18.k0 hcm66;have hneb2066 := zdd hb20.lt hge66;have hb20 := hb20.k0 hcm66;have hneb2266 : b22 ≠ b66 := by have := hb22.lt; omega
      have hb22 := hb22.k0 hcm66;refine WL.call hasF100 rfl rfl (r6Of_spec _ [x, y] _ ((NF.of_row hb66.row (by intro z hz; simp only [List.mem_cons, List.not_mem_nil, or_false] at hz; rcases hz with rfl | rfl <;> assumption) (by simp) rfl (by simp))) (by simp)) fun v w30 h' => ?_;obtain ⟨rfl, hC⟩ := h';unfold SP.cells;have hch := hch.ta hC;have hb12 := hb12.k0 hC;have hb14 := hb14.k0 hC;have hb16 := hb16.k0 hC;have hb18 := hb18.k0 hC;have hb20 := hb20.k0 hC;have hb22 := hb22.k0 hC;have hb66 := hb66.k0 hC;have hNx := hNx.keep0 hC;have hNy := hNy.keep0 hC;have hNf := hNf.keep0 hC;have hNim := hNim.keep0 hC;have hNu := hNu.keep0 hC;have hNid := hNid.keep0 hC;have hNt := hNt.keep0 hC;have hNv := hNv.keep0 hC;refine zm rfl ?_;refine WL.call hasF99 rfl rfl (r6Nought_spec (cntP [x, y]) mode _ ((cnt_le [x, y]).mono (by simp))) fun v w31 h' => ?_;obtain ⟨rfl, hC⟩ := h';have hch := hch.ta hC;have hb12 := hb12.k0 hC;have hb14 := hb14.k0 hC;have hb16 := hb16.k0 hC;have hb18 := hb18.k0 hC;have hb20 := hb20.k0 hC;have hb22 := hb22.k0 hC;have hb66 := hb66.k0 hC;have hNx := hNx.keep0 hC;have hNy := hNy.keep0 hC;have hNf := hNf.keep0 hC;have hNim := hNim.keep0 hC;have hNu := hNu.keep0 hC;have hNid := hNid.keep0 hC;have hNt := hNt.keep0 hC;have hNv := hNv.keep0 hC;refine za rfl (za rfl (zz (kh47 ?_)));refine zr ?_;refine zr2 rfl rfl rfl ?_;exact ⟨⟨_, _, rfl, .inl ⟨h0, rfl, rfl⟩⟩, hch⟩
     ·
      (try simp only [qs] at hc4);have h0 : (sumD (lineV x y num den)).m ≠ 0 := fun q => by rw [q, wd_zero] at hc4; exact hc4 rfl
      refine zkk ?_;refine kh44 (zc fun _ kh49 => ?_);refine CW.regionHC 10 rfl hmix fun kR50 kr50 hS hdr => ?_;have hch := hch.ta hdr;have hb12 := hb12.k0 hdr;have hb14 := hb14.k0 hdr;have hb16 := hb16.k0 hdr;have hb18 := hb18.k0 hdr;have hb20 := hb20.k0 hdr;have hb22 := hb22.k0 hdr;have hNx := hNx.keep0 hdr;have hNy := hNy.keep0 hdr;have hNf := hNf.keep0 hdr;have hNim := hNim.keep0 hdr;have hNu := hNu.keep0 hdr;have hNid := hNid.keep0 hdr;have hNt := hNt.keep0 hdr;have hNv := hNv.keep0 hdr;have hch_r := hch;have hb12_r := hb12;have hb14_r := hb14;have hb16_r := hb16;have hb18_r := hb18;have hb20_r := hb20;have hb22_r := hb22;refine wh 0 rfl hS (fun _ hw' => Ev.loadA rfl rfl (hb22_r.keep0 hw') rfl) (wh 1 rfl hS (fun _ _ => Ev.move rfl) (wh 4 rfl hS (fun _ _ => Ev.move rfl) ?_));refine WH.oneCall 2 rfl (by kernel_rfl) hasF97 rfl rfl (r3Int_spec ((den : Nat) : Int) _ (by omega)) fun v w32 h' => ?_;obtain ⟨⟨rie, rfl, hNie⟩, hC⟩ := h';have hch := hch.ta hC;have hb12 := hb12.k0 hC;have hb14 := hb14.k0 hC;have hb16 := hb16.k0 hC;have hb18 := hb18.k0 hC;have hb20 := hb20.k0 hC;have hb22 := hb22.k0 hC;have hNx := hNx.keep0 hC;have hNy := hNy.keep0 hC;have hNf := hNf.keep0 hC;have hNim := hNim.keep0 hC;have hNu := hNu.keep0 hC;have hNid := hNid.keep0 hC;have hNt := hNt.keep0 hC;have hNv := hNv.keep0 hC;have hS := hS.trans hC;refine ⟨hS, ?_⟩;refine wh 3 rfl hS (fun _ _ => Ev.build (vs := _) (cs := [_, _, _, _, _, _]) rfl rfl) ?_;refine WH.oneCall 5 rfl (by kernel_rfl) hasF101 rfl rfl (r11Quot_spec _ _ _ _ _ _ _ _ mode _ hNv hNie (by omega) (by omega) (by omega) (by omega)) fun v w33 h' => ?_;obtain ⟨⟨bits, e, rfl, hQ⟩, hC⟩ := h';rw [val_wd, val_wd] at hQ;have hch := hch.ta hC;have hb12 := hb12.k0 hC;have hb14 := hb14.k0 hC;have hb16 := hb16.k0 hC;have hb18 := hb18.k0 hC;have hb20 := hb20.k0 hC;have hb22 := hb22.k0 hC;have hNx := hNx.keep0 hC;have hNy := hNy.keep0 hC;have hNf := hNf.keep0 hC;have hNim := hNim.keep0 hC;have hNu := hNu.keep0 hC;have hNid := hNid.keep0 hC;have hNt := hNt.keep0 hC;have hNv := hNv.keep0 hC;have hNie := hNie.keep0 hC;have hS := hS.trans hC;refine ⟨hS, ?_⟩;refine wh 6 rfl hS (fun _ _ => Ev.extract rfl rfl) (wh 7 rfl hS (fun _ _ => Ev.extract rfl rfl) (wh 8 rfl hS (fun _ _ => Ev.assign rfl) (wh 9 rfl hS (fun _ _ => Ev.assign rfl) ?_)));refine WH.done (by kernel_rfl) (kr50 _ _ _ ?_);refine kh49 ?_;refine zr ?_;refine zr2 rfl rfl rfl ?_;exact ⟨⟨_, _, rfl, .inr ⟨h0, hQ⟩⟩, hch⟩
    ·
     refine WHat.allocC (l := [.bool false, .slice none 0 0, .int .i64 0]) 7 rfl hS rfl rfl fun b20 wm20 hb20 hcm20 hge20 hS1 => ?_;have hgeS20 := Nat.le_trans hS.size hge20;have hS := hS1;have hgehch20 := Nat.le_trans hch.size hge20;have hch := hch.ta hcm20;have hNx := hNx.keep0 hcm20;have hNy := hNy.keep0 hcm20;have hNf := hNf.keep0 hcm20;have hNim := hNim.keep0 hcm20;have hNu := hNu.keep0 hcm20;have hNid := hNid.keep0 hcm20;have hneb1220 := zdd hb12.lt hge20;have hb12 := hb12.k0 hcm20;have hneb1420 := zdd hb14.lt hge20;have hb14 := hb14.k0 hcm20;have hneb1620 := zdd hb16.lt hge20;have hb16 := hb16.k0 hcm20;have hneb1820 := zdd hb18.lt hge20;have hb18 := hb18.k0 hcm20;refine WH.oneCall 3 rfl (by kernel_rfl) hasF96 rfl rfl (r3Mul_spec _ _ _ _ _ _ _ _ _ hNx hNid (by omega) (by omega) (by omega) (by omega)) fun v w34 h' => ?_;obtain ⟨hDt, hC⟩ := h';rw [val_wd, val_wd, formD_sumD hX, formD_self okden, show both2 mulD (some (sumD (fvI x))) (some (intD (den : Int))) = mulD (sumD (fvI x)) (intD (den : Int)) from rfl, mulD_int hX (by omega) (by omega) hXD] at hDt;obtain ⟨rt, dt, hdt, rfl, hNt⟩ := hDt.resolve_right (fun q => by cases q.1);cases hdt;have hch := hch.ta hC;have hb12 := hb12.k0 hC;have hb14 := hb14.k0 hC;have hb16 := hb16.k0 hC;have hb18 := hb18.k0 hC;have hb20 := hb20.k0 hC;have hNx := hNx.keep0 hC;have hNy := hNy.keep0 hC;have hNf := hNf.keep0 hC;have hNim := hNim.keep0 hC;have hNu := hNu.keep0 hC;have hNid := hNid.keep0 hC;have hS := hS.trans hC;refine ⟨hS, ?_⟩;refine wh 4 rfl hS (fun _ _ => Ev.move rfl) (wh 5 rfl hS (fun _ _ => Ev.extract rfl rfl) (wh 6 rfl hS (fun _ _ => Ev.extract rfl rfl) ?_));refine WH.storeBN 8 rfl (by kernel_rfl) hS hgeS20 rfl rfl rfl ao hb20 (by simp) rfl fun ws31 hb20_ hcs31 hS => ?_;(try simp only [Sx.splice, qt] at hb20_);have hch := hch.s1 hcs31;have hb12 := hb12.kq hcs31;have hb14 := hb14.kq hcs31;have hb16 := hb16.kq hcs31;have hb18 := hb18.kq hcs31;have hNx := hNx.keepBK hb20 hcs31 an;have hNy := hNy.keepBK hb20 hcs31 an;have hNf := hNf.keepBK hb20 hcs31 an;have hNim := hNim.keepBK hb20 hcs31 an;have hNu := hNu.keepBK hb20 hcs31 an;have hNid := hNid.keepBK hb20 hcs31 an;have hNt := hNt.keepBK hb20 hcs31 an;have hb20 := hb20_;refine wh 9 rfl hS (fun _ _ => Ev.assign rfl) ?_;refine WH.done (by kernel_rfl) (kr41 _ _ _ ?_);refine kh40 (Sr fun _ kh51 => zg hb20 rfl (zg hb18 rfl ?_));refine WL.call hasF98 rfl rfl (r3Add_spec _ _ _ _ _ _ _ _ _ hNt hNu (by omega) (by omega) (by omega) (by omega)) fun v w35 h' => ?_;obtain ⟨hDv, hC⟩ := h';rw [val_wd, val_wd, formD_sumD hXD, formD_sumD hFM, show both2 addD (some (sumD (fvI x * (den : Int)))) (some (sumD ((fvI y + -fvI x) * (num : Int)))) = addD (sumD (fvI x * (den : Int))) (sumD ((fvI y + -fvI x) * (num : Int))) from rfl, addD_sum hXD hFM (by rw [hsum]; exact hV), hsum] at hDv;obtain ⟨rv, dv, hdv, rfl, hNv⟩ := hDv.resolve_right (fun q => by cases q.1);cases hdv;obtain ⟨⟨av, cv, rfl, hcapv, hrv⟩, hWv, hlv⟩ := id hNv
     have hch := hch.ta hC;have hb12 := hb12.k0 hC;have hb14 := hb14.k0 hC;have hb16 := hb16.k0 hC;have hb18 := hb18.k0 hC;have hb20 := hb20.k0 hC;have hNx := hNx.keep0 hC;have hNy := hNy.keep0 hC;have hNf := hNf.keep0 hC;have hNim := hNim.keep0 hC;have hNu := hNu.keep0 hC;have hNid := hNid.keep0 hC;have hNt := hNt.keep0 hC;refine zm rfl (zx rfl rfl (zx rfl rfl ?_));refine WL.allocB (l := [.bool false, .slice none 0 0, .int .i64 0]) rfl rfl fun b22 wm22 hb22 hcm22 hge22 => ?_;have hgehch22 := Nat.le_trans hch.size hge22;have hch := hch.ta hcm22;have hNx := hNx.keep0 hcm22;have hNy := hNy.keep0 hcm22;have hNf := hNf.keep0 hcm22;have hNim := hNim.keep0 hcm22;have hNu := hNu.keep0 hcm22;have hNid := hNid.keep0 hcm22;have hNt := hNt.keep0 hcm22;have hNv := hNv.keep0 hcm22;have hneb1222 := zdd hb12.lt hge22;have hb12 := hb12.k0 hcm22;have hneb1422 := zdd hb14.lt hge22;have hb14 := hb14.k0 hcm22;have hneb1622 := zdd hb16.lt hge22;have hb16 := hb16.k0 hcm22;have hneb1822 := zdd hb18.lt hge22;have hb18 := hb18.k0 hcm22;have hneb2022 := zdd hb20.lt hge22;have hb20 := hb20.k0 hcm22;refine zss rfl rfl ao hb22 rfl fun ws32 hb22_ hcs32 => ?_;(try simp only [Sx.splice, qt] at hb22_);have hch := hch.s1 hcs32;have hb12 := hb12.kq hcs32;have hb14 := hb14.kq hcs32;have hb16 := hb16.kq hcs32;have hb18 := hb18.kq hcs32;have hb20 := hb20.kq hcs32;have hNx := hNx.keepBK hb22 hcs32 an;have hNy := hNy.keepBK hb22 hcs32 an;have hNf := hNf.keepBK hb22 hcs32 an;have hNim := hNim.keepBK hb22 hcs32 an;have hNu := hNu.keepBK hb22 hcs32 an;have hNid := hNid.keepBK hb22 hcs32 an;have hNt := hNt.keepBK hb22 hcs32 an;have hNv := hNv.keepBK hb22 hcs32 an;have hb22 := hb22_;refine za rfl (zz (kh51 (zc fun _ kh53 => Sr fun _ kh54 => zf rfl (zl hb22 rfl rfl (zn rfl (zq rfl rfl (zz (kh54 ?_))))))));refine zy rfl (fun hc5 => ?_) fun hc5 => ?_
     ·
      (try simp only [qs] at hc5);have h0 : (sumD (lineV x y num den)).m = 0 := wd_eq_nil.1 (List.length_eq_zero_iff.1 (by omega));refine Sr fun _ kh56 => zm rfl (zm rfl ?_);refine WL.buildSlice (m := 2) (cs := [f64v (x), f64v (y)]) (by decide) (by decide) rfl (by kernel_rfl) rfl fun b66 w66 hn66 => ?_
      have hcm66 := hn66.chg;have hge66 := hn66.ge;have hb66 : FB w66 b66 _ [x, y] := hn66.at_;have hgehch66 := Nat.le_trans hch.size hge66;have hch := hch.ta hcm66;have hNx := hNx.keep0 hcm66;have hNy := hNy.keep0 hcm66;have hNf := hNf.keep0 hcm66;have hNim := hNim.keep0 hcm66;have hNu := hNu.keep0 hcm66;have hNid := hNid.keep0 hcm66;have hNt := hNt.keep0 hcm66;have hNv := hNv.keep0 hcm66;have hneb1266 := zdd hb12.lt hge66;have hb12 := hb12.k0 hcm66;have hneb1466 := zdd hb14.lt hge66;have hb14 := hb14.k0 hcm66;have hneb1666 := zdd hb16.lt hge66;have hb16 := hb16.k0 hcm66;have hneb1866 := zdd hb18.lt hge66;have hb18 := hb18.k0 hcm66;have hneb2066 := zdd hb20.lt hge66;have hb20 := hb20.k0 hcm66;have hneb2266 : b22 ≠ b66 := by have := hb22.lt; omega
      have hb22 := hb22.k0 hcm66;refine WL.call hasF100 rfl rfl (r6Of_spec _ [x, y] _ ((NF.of_row hb66.row (by intro z hz; simp only [List.mem_cons, List.not_mem_nil, or_false] at hz; rcases hz with rfl | rfl <;> assumption) (by simp) rfl (by simp))) (by simp)) fun v w36 h' => ?_;obtain ⟨rfl, hC⟩ := h';unfold SP.cells;have hch := hch.ta hC;have hb12 := hb12.k0 hC;have hb14 := hb14.k0 hC;have hb16 := hb16.k0 hC;have hb18 := hb18.k0 hC;have hb20 := hb20.k0 hC;have hb22 := hb22.k0 hC;have hb66 := hb66.k0 hC;have hNx := hNx.keep0 hC;have hNy := hNy.keep0 hC;have hNf := hNf.keep0 hC;have hNim := hNim.keep0 hC;have hNu := hNu.keep0 hC;have hNid := hNid.keep0 hC;have hNt := hNt.keep0 hC;have hNv := hNv.keep0 hC;refine zm rfl ?_;refine WL.call hasF99 rfl rfl (r6Nought_spec (cntP [x, y]) mode _ ((cnt_le [x, y]).mono (by simp))) fun v w37 h' => ?_;obtain ⟨rfl, hC⟩ := h';have hch := hch.ta hC;have hb12 := hb12.k0 hC;have hb14 := hb14.k0 hC;have hb16 := hb16.k0 hC;have hb18 := hb18.k0 hC;have hb20 := hb20.k0 hC;have hb22 := hb22.k0 hC;have hb66 := hb66.k0 hC;have hNx := hNx.keep0 hC;have hNy := hNy.keep0 hC;have hNf := hNf.keep0 hC;have hNim := hNim.keep0 hC;have hNu := hNu.keep0 hC;have hNid := hNid.keep0 hC;have hNt := hNt.keep0 hC;have hNv := hNv.keep0 hC;refine za rfl (za rfl (zz (kh56 ?_)));refine zr ?_;refine zr2 rfl rfl rfl ?_;exact ⟨⟨_, _, rfl, .inl ⟨h0, rfl, rfl⟩⟩, hch⟩
     ·
      (try simp only [qs] at hc5);have h0 : (sumD (lineV x y num den)).m ≠ 0 := fun q => by rw [q, wd_zero] at hc5; exact hc5 rfl
      refine zkk ?_;refine kh53 (zc fun _ kh58 => ?_);refine CW.regionHC 10 rfl hmix fun kR59 kr59 hS hdr => ?_;have hch := hch.ta hdr;have hb12 := hb12.k0 hdr;have hb14 := hb14.k0 hdr;have hb16 := hb16.k0 hdr;have hb18 := hb18.k0 hdr;have hb20 := hb20.k0 hdr;have hb22 := hb22.k0 hdr;have hNx := hNx.keep0 hdr;have hNy := hNy.keep0 hdr;have hNf := hNf.keep0 hdr;have hNim := hNim.keep0 hdr;have hNu := hNu.keep0 hdr;have hNid := hNid.keep0 hdr;have hNt := hNt.keep0 hdr;have hNv := hNv.keep0 hdr;have hch_r := hch;have hb12_r := hb12;have hb14_r := hb14;have hb16_r := hb16;have hb18_r := hb18;have hb20_r := hb20;have hb22_r := hb22;refine wh 0 rfl hS (fun _ hw' => Ev.loadA rfl rfl (hb22_r.keep0 hw') rfl) (wh 1 rfl hS (fun _ _ => Ev.move rfl) (wh 4 rfl hS (fun _ _ => Ev.move rfl) ?_));refine WH.oneCall 2 rfl (by kernel_rfl) hasF97 rfl rfl (r3Int_spec ((den : Nat) : Int) _ (by omega)) fun v w38 h' => ?_;obtain ⟨⟨rie, rfl, hNie⟩, hC⟩ := h';have hch := hch.ta hC;have hb12 := hb12.k0 hC;have hb14 := hb14.k0 hC;have hb16 := hb16.k0 hC;have hb18 := hb18.k0 hC;have hb20 := hb20.k0 hC;have hb22 := hb22.k0 hC;have hNx := hNx.keep0 hC;have hNy := hNy.keep0 hC;have hNf := hNf.keep0 hC;have hNim := hNim.keep0 hC;have hNu := hNu.keep0 hC;have hNid := hNid.keep0 hC;have hNt := hNt.keep0 hC;have hNv := hNv.keep0 hC;have hS := hS.trans hC;refine ⟨hS, ?_⟩;refine wh 3 rfl hS (fun _ _ => Ev.build (vs := _) (cs := [_, _, _, _, _, _]) rfl rfl) ?_;refine WH.oneCall 5 rfl (by kernel_rfl) hasF101 rfl rfl (r11Quot_spec _ _ _ _ _ _ _ _ mode _ hNv hNie (by omega) (by omega) (by omega) (by omega)) fun v w39 h' => ?_;obtain ⟨⟨bits, e, rfl, hQ⟩, hC⟩ := h';rw [val_wd, val_wd] at hQ;have hch := hch.ta hC;have hb12 := hb12.k0 hC;have hb14 := hb14.k0 hC;have hb16 := hb16.k0 hC;have hb18 := hb18.k0 hC;have hb20 := hb20.k0 hC;have hb22 := hb22.k0 hC;have hNx := hNx.keep0 hC;have hNy := hNy.keep0 hC;have hNf := hNf.keep0 hC;have hNim := hNim.keep0 hC;have hNu := hNu.keep0 hC;have hNid := hNid.keep0 hC;have hNt := hNt.keep0 hC;have hNv := hNv.keep0 hC;have hNie := hNie.keep0 hC;have hS := hS.trans hC;refine ⟨hS, ?_⟩;refine wh 6 rfl hS (fun _ _ => Ev.extract rfl rfl) (wh 7 rfl hS (fun _ _ => Ev.extract rfl rfl) (wh 8 rfl hS (fun _ _ => Ev.assign rfl) (wh 9 rfl hS (fun _ _ => Ev.assign rfl) ?_)));refine WH.done (by kernel_rfl) (kr59 _ _ _ ?_);refine kh58 ?_;refine zr ?_;refine zr2 rfl rfl rfl ?_;exact ⟨⟨_, _, rfl, .inr ⟨h0, hQ⟩⟩, hch⟩
   ·
    refine WHat.allocC (l := [.bool false, .slice none 0 0, .int .i64 0]) 7 rfl hS rfl rfl fun b20 wm20 hb20 hcm20 hge20 hS1 => ?_;have hgeS20 := Nat.le_trans hS.size hge20;have hS := hS1;have hgehch20 := Nat.le_trans hch.size hge20;have hch := hch.ta hcm20;have hNx := hNx.keep0 hcm20;have hNy := hNy.keep0 hcm20;have hNf := hNf.keep0 hcm20;have hNim := hNim.keep0 hcm20;have hNu := hNu.keep0 hcm20;have hneb1220 := zdd hb12.lt hge20;have hb12 := hb12.k0 hcm20;have hneb1420 := zdd hb14.lt hge20;have hb14 := hb14.k0 hcm20;have hneb1620 := zdd hb16.lt hge20;have hb16 := hb16.k0 hcm20;have hneb1820 := zdd hb18.lt hge20;have hb18 := hb18.k0 hcm20;refine WH.oneCall 2 rfl (by kernel_rfl) hasF97 rfl rfl (r3Int_spec ((den : Nat) : Int) _ (by omega)) fun v w40 h' => ?_;obtain ⟨⟨rid, rfl, hNid⟩, hC⟩ := h';have hch := hch.ta hC;have hb12 := hb12.k0 hC;have hb14 := hb14.k0 hC;have hb16 := hb16.k0 hC;have hb18 := hb18.k0 hC;have hb20 := hb20.k0 hC;have hNx := hNx.keep0 hC;have hNy := hNy.keep0 hC;have hNf := hNf.keep0 hC;have hNim := hNim.keep0 hC;have hNu := hNu.keep0 hC;have hS := hS.trans hC;refine ⟨hS, ?_⟩;refine WH.oneCall 3 rfl (by kernel_rfl) hasF96 rfl rfl (r3Mul_spec _ _ _ _ _ _ _ _ _ hNx hNid (by omega) (by omega) (by omega) (by omega)) fun v w41 h' => ?_;obtain ⟨hDt, hC⟩ := h';rw [val_wd, val_wd, formD_sumD hX, formD_self okden, show both2 mulD (some (sumD (fvI x))) (some (intD (den : Int))) = mulD (sumD (fvI x)) (intD (den : Int)) from rfl, mulD_int hX (by omega) (by omega) hXD] at hDt;obtain ⟨rt, dt, hdt, rfl, hNt⟩ := hDt.resolve_right (fun q => by cases q.1);cases hdt;have hch := hch.ta hC;have hb12 := hb12.k0 hC;have hb14 := hb14.k0 hC;have hb16 := hb16.k0 hC;have hb18 := hb18.k0 hC;have hb20 := hb20.k0 hC;have hNx := hNx.keep0 hC;have hNy := hNy.keep0 hC;have hNf := hNf.keep0 hC;have hNim := hNim.keep0 hC;have hNu := hNu.keep0 hC;have hNid := hNid.keep0 hC;have hS := hS.trans hC;refine ⟨hS, ?_⟩;refine wh 4 rfl hS (fun _ _ => Ev.move rfl) (wh 5 rfl hS (fun _ _ => Ev.extract rfl rfl) (wh 6 rfl hS (fun _ _ => Ev.extract rfl rfl) ?_));refine WH.storeBN 8 rfl (by kernel_rfl) hS hgeS20 rfl rfl rfl ao hb20 (by simp) rfl fun ws33 hb20_ hcs33 hS => ?_;(try simp only [Sx.splice, qt] at hb20_);have hch := hch.s1 hcs33;have hb12 := hb12.kq hcs33;have hb14 := hb14.kq hcs33;have hb16 := hb16.kq hcs33;have hb18 := hb18.kq hcs33;have hNx := hNx.keepBK hb20 hcs33 an;have hNy := hNy.keepBK hb20 hcs33 an;have hNf := hNf.keepBK hb20 hcs33 an;have hNim := hNim.keepBK hb20 hcs33 an;have hNu := hNu.keepBK hb20 hcs33 an;have hNid := hNid.keepBK hb20 hcs33 an;have hNt := hNt.keepBK hb20 hcs33 an;have hb20 := hb20_;refine wh 9 rfl hS (fun _ _ => Ev.assign rfl) ?_;refine WH.done (by kernel_rfl) (kr41 _ _ _ ?_);refine kh40 (Sr fun _ kh60 => zg hb20 rfl (zg hb18 rfl ?_));refine WL.call hasF98 rfl rfl (r3Add_spec _ _ _ _ _ _ _ _ _ hNt hNu (by omega) (by omega) (by omega) (by omega)) fun v w42 h' => ?_
    obtain ⟨hDv, hC⟩ := h';rw [val_wd, val_wd, formD_sumD hXD, formD_sumD hFM, show both2 addD (some (sumD (fvI x * (den : Int)))) (some (sumD ((fvI y + -fvI x) * (num : Int)))) = addD (sumD (fvI x * (den : Int))) (sumD ((fvI y + -fvI x) * (num : Int))) from rfl, addD_sum hXD hFM (by rw [hsum]; exact hV), hsum] at hDv;obtain ⟨rv, dv, hdv, rfl, hNv⟩ := hDv.resolve_right (fun q => by cases q.1);cases hdv;obtain ⟨⟨av, cv, rfl, hcapv, hrv⟩, hWv, hlv⟩ := id hNv;have hch := hch.ta hC;have hb12 := hb12.k0 hC;have hb14 := hb14.k0 hC;have hb16 := hb16.k0 hC;have hb18 := hb18.k0 hC;have hb20 := hb20.k0 hC;have hNx := hNx.keep0 hC;have hNy := hNy.keep0 hC;have hNf := hNf.keep0 hC;have hNim := hNim.keep0 hC;have hNu := hNu.keep0 hC;have hNid := hNid.keep0 hC;have hNt := hNt.keep0 hC;refine zm rfl (zx rfl rfl (zx rfl rfl ?_));refine WL.allocB (l := [.bool false, .slice none 0 0, .int .i64 0]) rfl rfl fun b22 wm22 hb22 hcm22 hge22 => ?_;have hgehch22 := Nat.le_trans hch.size hge22;have hch := hch.ta hcm22;have hNx := hNx.keep0 hcm22;have hNy := hNy.keep0 hcm22;have hNf := hNf.keep0 hcm22;have hNim := hNim.keep0 hcm22;have hNu := hNu.keep0 hcm22;have hNid := hNid.keep0 hcm22;have hNt := hNt.keep0 hcm22;have hNv := hNv.keep0 hcm22;have hneb1222 := zdd hb12.lt hge22;have hb12 := hb12.k0 hcm22;have hneb1422 := zdd hb14.lt hge22;have hb14 := hb14.k0 hcm22;have hneb1622 := zdd hb16.lt hge22;have hb16 := hb16.k0 hcm22;have hneb1822 := zdd hb18.lt hge22;have hb18 := hb18.k0 hcm22;have hneb2022 := zdd hb20.lt hge22;have hb20 := hb20.k0 hcm22;refine zss rfl rfl ao hb22 rfl fun ws34 hb22_ hcs34 => ?_;(try simp only [Sx.splice, qt] at hb22_);have hch := hch.s1 hcs34;have hb12 := hb12.kq hcs34;have hb14 := hb14.kq hcs34;have hb16 := hb16.kq hcs34;have hb18 := hb18.kq hcs34;have hb20 := hb20.kq hcs34;have hNx := hNx.keepBK hb22 hcs34 an;have hNy := hNy.keepBK hb22 hcs34 an;have hNf := hNf.keepBK hb22 hcs34 an;have hNim := hNim.keepBK hb22 hcs34 an;have hNu := hNu.keepBK hb22 hcs34 an;have hNid := hNid.keepBK hb22 hcs34 an;have hNt := hNt.keepBK hb22 hcs34 an;have hNv := hNv.keepBK hb22 hcs34 an;have hb22 := hb22_;refine za rfl (zz (kh60 (zc fun _ kh62 => Sr fun _ kh63 => zf rfl (zl hb22 rfl rfl (zn rfl (zq rfl rfl (zz (kh63 ?_))))))));refine zy rfl (fun hc6 => ?_) fun hc6 => ?_
    ·
     (try simp only [qs] at hc6);have h0 : (sumD (lineV x y num den)).m = 0 := wd_eq_nil.1 (List.length_eq_zero_iff.1 (by omega));refine Sr fun _ kh65 => zm rfl (zm rfl ?_);refine WL.buildSlice (m := 2) (cs := [f64v (x), f64v (y)]) (by decide) (by decide) rfl (by kernel_rfl) rfl fun b66 w66 hn66 => ?_
     have hcm66 := hn66.chg;have hge66 := hn66.ge;have hb66 : FB w66 b66 _ [x, y] := hn66.at_;have hgehch66 := Nat.le_trans hch.size hge66;have hch := hch.ta hcm66;have hNx := hNx.keep0 hcm66;have hNy := hNy.keep0 hcm66;have hNf := hNf.keep0 hcm66;have hNim := hNim.keep0 hcm66;have hNu := hNu.keep0 hcm66;have hNid := hNid.keep0 hcm66;have hNt := hNt.keep0 hcm66;have hNv := hNv.keep0 hcm66;have hneb1266 := zdd hb12.lt hge66;have hb12 := hb12.k0 hcm66;have hneb1466 := zdd hb14.lt hge66;have hb14 := hb14.k0 hcm66;have hneb1666 := zdd hb16.lt hge66;have hb16 := hb16.k0 hcm66;have hneb1866 := zdd hb18.lt hge66;have hb18 := hb18.k0 hcm66;have hneb2066 := zdd hb20.lt hge66;have hb20 := hb20.k0 hcm66;have hneb2266 := zdd hb22.lt hge66;have hb22 := hb22.k0 hcm66;refine WL.call hasF100 rfl rfl (r6Of_spec _ [x, y] _ ((NF.of_row hb66.row (by intro z hz; simp only [List.mem_cons, List.not_mem_nil, or_false] at hz; rcases hz with rfl | rfl <;> assumption) (by simp) rfl (by simp))) (by simp)) fun v w43 h' => ?_;obtain ⟨rfl, hC⟩ := h';unfold SP.cells;have hch := hch.ta hC;have hb12 := hb12.k0 hC;have hb14 := hb14.k0 hC;have hb16 := hb16.k0 hC;have hb18 := hb18.k0 hC;have hb20 := hb20.k0 hC;have hb22 := hb22.k0 hC;have hb66 := hb66.k0 hC;have hNx := hNx.keep0 hC;have hNy := hNy.keep0 hC;have hNf := hNf.keep0 hC;have hNim := hNim.keep0 hC;have hNu := hNu.keep0 hC;have hNid := hNid.keep0 hC;have hNt := hNt.keep0 hC;have hNv := hNv.keep0 hC;refine zm rfl ?_;refine WL.call hasF99 rfl rfl (r6Nought_spec (cntP [x, y]) mode _ ((cnt_le [x, y]).mono (by simp))) fun v w44 h' => ?_;obtain ⟨rfl, hC⟩ := h';have hch := hch.ta hC;have hb12 := hb12.k0 hC;have hb14 := hb14.k0 hC;have hb16 := hb16.k0 hC;have hb18 := hb18.k0 hC;have hb20 := hb20.k0 hC;have hb22 := hb22.k0 hC;have hb66 := hb66.k0 hC;have hNx := hNx.keep0 hC;have hNy := hNy.keep0 hC;have hNf := hNf.keep0 hC;have hNim := hNim.keep0 hC;have hNu := hNu.keep0 hC;have hNid := hNid.keep0 hC;have hNt := hNt.keep0 hC;have hNv := hNv.keep0 hC;refine za rfl (za rfl (zz (kh65 ?_)));refine zr ?_;refine zr2 rfl rfl rfl ?_;exact ⟨⟨_, _, rfl, .inl ⟨h0, rfl, rfl⟩⟩, hch⟩
    ·
     (try simp only [qs] at hc6);have h0 : (sumD (lineV x y num den)).m ≠ 0 := fun q => by rw [q, wd_zero] at hc6; exact hc6 rfl
     refine zkk ?_;refine kh62 (zc fun _ kh67 => ?_);refine CW.regionHC 10 rfl hmix fun kR68 kr68 hS hdr => ?_;have hch := hch.ta hdr;have hb12 := hb12.k0 hdr;have hb14 := hb14.k0 hdr;have hb16 := hb16.k0 hdr;have hb18 := hb18.k0 hdr;have hb20 := hb20.k0 hdr;have hb22 := hb22.k0 hdr;have hNx := hNx.keep0 hdr;have hNy := hNy.keep0 hdr;have hNf := hNf.keep0 hdr;have hNim := hNim.keep0 hdr;have hNu := hNu.keep0 hdr;have hNid := hNid.keep0 hdr;have hNt := hNt.keep0 hdr;have hNv := hNv.keep0 hdr;have hch_r := hch;have hb12_r := hb12;have hb14_r := hb14;have hb16_r := hb16;have hb18_r := hb18;have hb20_r := hb20;have hb22_r := hb22;refine wh 0 rfl hS (fun _ hw' => Ev.loadA rfl rfl (hb22_r.keep0 hw') rfl) (wh 1 rfl hS (fun _ _ => Ev.move rfl) (wh 4 rfl hS (fun _ _ => Ev.move rfl) ?_));refine WH.oneCall 2 rfl (by kernel_rfl) hasF97 rfl rfl (r3Int_spec ((den : Nat) : Int) _ (by omega)) fun v w45 h' => ?_;obtain ⟨⟨rie, rfl, hNie⟩, hC⟩ := h';have hch := hch.ta hC;have hb12 := hb12.k0 hC;have hb14 := hb14.k0 hC;have hb16 := hb16.k0 hC;have hb18 := hb18.k0 hC;have hb20 := hb20.k0 hC;have hb22 := hb22.k0 hC;have hNx := hNx.keep0 hC;have hNy := hNy.keep0 hC;have hNf := hNf.keep0 hC;have hNim := hNim.keep0 hC;have hNu := hNu.keep0 hC;have hNid := hNid.keep0 hC;have hNt := hNt.keep0 hC;have hNv := hNv.keep0 hC;have hS := hS.trans hC;refine ⟨hS, ?_⟩;refine wh 3 rfl hS (fun _ _ => Ev.build (vs := _) (cs := [_, _, _, _, _, _]) rfl rfl) ?_;refine WH.oneCall 5 rfl (by kernel_rfl) hasF101 rfl rfl (r11Quot_spec _ _ _ _ _ _ _ _ mode _ hNv hNie (by omega) (by omega) (by omega) (by omega)) fun v w46 h' => ?_;obtain ⟨⟨bits, e, rfl, hQ⟩, hC⟩ := h';rw [val_wd, val_wd] at hQ;have hch := hch.ta hC;have hb12 := hb12.k0 hC;have hb14 := hb14.k0 hC;have hb16 := hb16.k0 hC;have hb18 := hb18.k0 hC;have hb20 := hb20.k0 hC;have hb22 := hb22.k0 hC;have hNx := hNx.keep0 hC;have hNy := hNy.keep0 hC;have hNf := hNf.keep0 hC;have hNim := hNim.keep0 hC;have hNu := hNu.keep0 hC;have hNid := hNid.keep0 hC;have hNt := hNt.keep0 hC;have hNv := hNv.keep0 hC;have hNie := hNie.keep0 hC;have hS := hS.trans hC;refine ⟨hS, ?_⟩;refine wh 6 rfl hS (fun _ _ => Ev.extract rfl rfl) (wh 7 rfl hS (fun _ _ => Ev.extract rfl rfl) (wh 8 rfl hS (fun _ _ => Ev.assign rfl) (wh 9 rfl hS (fun _ _ => Ev.assign rfl) ?_)));refine WH.done (by kernel_rfl) (kr68 _ _ _ ?_);refine kh67 ?_;refine zr ?_;refine zr2 rfl rfl rfl ?_;exact ⟨⟨_, _, rfl, .inr ⟨h0, hQ⟩⟩, hch⟩
 ·
  refine WHat.allocC (l := [.bool false, .slice none 0 0, .int .i64 0]) 7 rfl hS rfl rfl fun b18 wm18 hb18 hcm18 hge18 hS1 => ?_;have hgeS18 := Nat.le_trans hS.size hge18;have hS := hS1;have hgehch18 := Nat.le_trans hch.size hge18;have hch := hch.ta hcm18;have hNx := hNx.keep0 hcm18;have hNy := hNy.keep0 hcm18;have hNf := hNf.keep0 hcm18;have hneb1218 := zdd hb12.lt hge18;have hb12 := hb12.k0 hcm18;have hneb1418 := zdd hb14.lt hge18;have hb14 := hb14.k0 hcm18;have hneb1618 := zdd hb16.lt hge18;have hb16 := hb16.k0 hcm18;refine WH.oneCall 2 rfl (by kernel_rfl) hasF97 rfl rfl (r3Int_spec ((num : Nat) : Int) _ (by omega)) fun v w47 h' => ?_;obtain ⟨⟨rim, rfl, hNim⟩, hC⟩ := h';have hch := hch.ta hC;have hb12 := hb12.k0 hC;have hb14 := hb14.k0 hC;have hb16 := hb16.k0 hC;have hb18 := hb18.k0 hC;have hNx := hNx.keep0 hC;have hNy := hNy.keep0 hC;have hNf := hNf.keep0 hC;have hS := hS.trans hC;refine ⟨hS, ?_⟩;refine WH.oneCall 3 rfl (by kernel_rfl) hasF96 rfl rfl (r3Mul_spec _ _ _ _ _ _ _ _ _ hNf hNim (by omega) (by omega) (by omega) (by omega)) fun v w48 h' => ?_;obtain ⟨hDu, hC⟩ := h';rw [val_wd, val_wd, formD_sumD hF, formD_self oknum, show both2 mulD (some (sumD (fvI y + -fvI x))) (some (intD (num : Int))) = mulD (sumD (fvI y + -fvI x)) (intD (num : Int)) from rfl, mulD_int hF (by omega) (by omega) hFM] at hDu;obtain ⟨ru, du, hdu, rfl, hNu⟩ := hDu.resolve_right (fun q => by cases q.1);cases hdu;have hch := hch.ta hC;have hb12 := hb12.k0 hC;have hb14 := hb14.k0 hC;have hb16 := hb16.k0 hC;have hb18 := hb18.k0 hC;have hNx := hNx.keep0 hC;have hNy := hNy.keep0 hC;have hNf := hNf.keep0 hC;have hNim := hNim.keep0 hC;have hS := hS.trans hC;refine ⟨hS, ?_⟩;refine wh 4 rfl hS (fun _ _ => Ev.move rfl) (wh 5 rfl hS (fun _ _ => Ev.extract rfl rfl) (wh 6 rfl hS (fun _ _ => Ev.extract rfl rfl) ?_));refine WH.storeBN 8 rfl (by kernel_rfl) hS hgeS18 rfl rfl rfl ao hb18 (by simp) rfl fun ws35 hb18_ hcs35 hS => ?_;(try simp only [Sx.splice, qt] at hb18_);have hch := hch.s1 hcs35;have hb12 := hb12.kq hcs35;have hb14 := hb14.kq hcs35;have hb16 := hb16.kq hcs35;have hNx := hNx.keepBK hb18 hcs35 an;have hNy := hNy.keepBK hb18 hcs35 an;have hNf := hNf.keepBK hb18 hcs35 an;have hNim := hNim.keepBK hb18 hcs35 an;have hNu := hNu.keepBK hb18 hcs35 an;have hb18 := hb18_;refine wh 9 rfl hS (fun _ _ => Ev.assign rfl) ?_;refine WH.done (by kernel_rfl) (kr10 _ _ _ ?_);refine kh9 (zc fun _ kh69 => ?_);refine CW.regionHC 10 rfl hmix fun kR70 kr70 hS hdr => ?_;have hch := hch.ta hdr;have hb12 := hb12.k0 hdr;have hb14 := hb14.k0 hdr;have hb16 := hb16.k0 hdr;have hb18 := hb18.k0 hdr;have hNx := hNx.keep0 hdr;have hNy := hNy.keep0 hdr;have hNf := hNf.keep0 hdr;have hNim := hNim.keep0 hdr;have hNu := hNu.keep0 hdr;have hch_r := hch;have hb12_r := hb12;have hb14_r := hb14;have hb16_r := hb16;have hb18_r := hb18;refine wh 0 rfl hS (fun _ hw' => Ev.loadA rfl rfl (hb12_r.keep0 hw') rfl) (wh 1 rfl hS (fun _ _ => Ev.move rfl) ?_);refine WH.all2 2 7 (by kernel_rfl) ?_ ?_
  ·
   refine WHat.call 2 rfl hasF97 rfl rfl (r3Int_spec ((den : Nat) : Int) _ (by omega)) fun v w49 h' => ?_;obtain ⟨⟨rid, rfl, hNid⟩, hC⟩ := h';have hch := hch.ta hC;have hb12 := hb12.k0 hC;have hb14 := hb14.k0 hC;have hb16 := hb16.k0 hC;have hb18 := hb18.k0 hC;have hNx := hNx.keep0 hC;have hNy := hNy.keep0 hC;have hNf := hNf.keep0 hC;have hNim := hNim.keep0 hC;have hNu := hNu.keep0 hC;have hS := hS.trans hC;refine ⟨hS, ?_⟩;refine WH.all2 3 7 (by kernel_rfl) ?_ ?_
   ·
    refine WHat.call 3 rfl hasF96 rfl rfl (r3Mul_spec _ _ _ _ _ _ _ _ _ hNx hNid (by omega) (by omega) (by omega) (by omega)) fun v w50 h' => ?_;obtain ⟨hDt, hC⟩ := h';rw [val_wd, val_wd, formD_sumD hX, formD_self okden, show both2 mulD (some (sumD (fvI x))) (some (intD (den : Int))) = mulD (sumD (fvI x)) (intD (den : Int)) from rfl, mulD_int hX (by omega) (by omega) hXD] at hDt;obtain ⟨rt, dt, hdt, rfl, hNt⟩ := hDt.resolve_right (fun q => by cases q.1);cases hdt;have hch := hch.ta hC;have hb12 := hb12.k0 hC;have hb14 := hb14.k0 hC;have hb16 := hb16.k0 hC;have hb18 := hb18.k0 hC;have hNx := hNx.keep0 hC;have hNy := hNy.keep0 hC;have hNf := hNf.keep0 hC;have hNim := hNim.keep0 hC;have hNu := hNu.keep0 hC;have hNid := hNid.keep0 hC;have hS := hS.trans hC;refine ⟨hS, ?_⟩;refine wh 4 rfl hS (fun _ _ => Ev.move rfl) (wh 5 rfl hS (fun _ _ => Ev.extract rfl rfl) (wh 6 rfl hS (fun _ _ => Ev.extract rfl rfl) ?_));refine WH.allocC (l := [.bool false, .slice none 0 0, .int .i64 0]) 7 rfl (by kernel_rfl) hS rfl rfl fun b20 wm20 hb20 hcm20 hge20 hS1 => ?_;have hgeS20 := Nat.le_trans hS.size hge20;have hS := hS1;have hgehch20 := Nat.le_trans hch.size hge20;have hch := hch.ta hcm20;have hNx := hNx.keep0 hcm20;have hNy := hNy.keep0 hcm20;have hNf := hNf.keep0 hcm20;have hNim := hNim.keep0 hcm20;have hNu := hNu.keep0 hcm20;have hNid := hNid.keep0 hcm20;have hNt := hNt.keep0 hcm20;have hneb1220 := zdd hb12.lt hge20;have hb12 := hb12.k0 hcm20;have hneb1420 := zdd hb14.lt hge20;have hb14 := hb14.k0 hcm20;have hneb1620 := zdd hb16.lt hge20;have hb16 := hb16.k0 hcm20;have hneb1820 := zdd hb18.lt hge20;have hb18 := hb18.k0 hcm20;refine WH.storeBN 8 rfl (by kernel_rfl) hS hgeS20 rfl rfl rfl ao hb20 (by simp) rfl fun ws36 hb20_ hcs36 hS => ?_;(try simp only [Sx.splice, qt] at hb20_);have hch := hch.s1 hcs36;have hb12 := hb12.kq hcs36;have hb14 := hb14.kq hcs36;have hb16 := hb16.kq hcs36;have hb18 := hb18.kq hcs36;have hNx := hNx.keepBK hb20 hcs36 an;have hNy := hNy.keepBK hb20 hcs36 an;have hNf := hNf.keepBK hb20 hcs36 an;have hNim := hNim.keepBK hb20 hcs36 an;have hNu := hNu.keepBK hb20 hcs36 an;have hNid := hNid.keepBK hb20 hcs36 an;have hNt := hNt.keepBK hb20 hcs36 an;have hb20 := hb20_;refine wh 9 rfl hS (fun _ _ => Ev.assign rfl) ?_;refine WH.done (by kernel_rfl) (kr70 _ _ _ ?_);refine kh69 (Sr fun _ kh71 => zg hb20 rfl (zg hb18 rfl ?_));refine WL.call hasF98 rfl rfl (r3Add_spec _ _ _ _ _ _ _ _ _ hNt hNu (by omega) (by omega) (by omega) (by omega)) fun v w51 h' => ?_;obtain ⟨hDv, hC⟩ := h';rw [val_wd, val_wd, formD_sumD hXD, formD_sumD hFM, show both2 addD (some (sumD (fvI x * (den : Int)))) (some (sumD ((fvI y + -fvI x) * (num : Int)))) = addD (sumD (fvI x * (den : Int))) (sumD ((fvI y + -fvI x) * (num : Int))) from rfl, addD_sum hXD hFM (by rw [hsum]; exact hV), hsum] at hDv;obtain ⟨rv, dv, hdv, rfl, hNv⟩ := hDv.resolve_right (fun q => by cases q.1);cases hdv;obtain ⟨⟨av, cv, rfl, hcapv, hrv⟩, hWv, hlv⟩ := id hNv
    have hch := hch.ta hC;have hb12 := hb12.k0 hC;have hb14 := hb14.k0 hC;have hb16 := hb16.k0 hC;have hb18 := hb18.k0 hC;have hb20 := hb20.k0 hC;have hNx := hNx.keep0 hC;have hNy := hNy.keep0 hC;have hNf := hNf.keep0 hC;have hNim := hNim.keep0 hC;have hNu := hNu.keep0 hC;have hNid := hNid.keep0 hC;have hNt := hNt.keep0 hC;refine zm rfl (zx rfl rfl (zx rfl rfl ?_));refine WL.allocB (l := [.bool false, .slice none 0 0, .int .i64 0]) rfl rfl fun b22 wm22 hb22 hcm22 hge22 => ?_;have hgehch22 := Nat.le_trans hch.size hge22;have hch := hch.ta hcm22;have hNx := hNx.keep0 hcm22;have hNy := hNy.keep0 hcm22;have hNf := hNf.keep0 hcm22;have hNim := hNim.keep0 hcm22;have hNu := hNu.keep0 hcm22;have hNid := hNid.keep0 hcm22;have hNt := hNt.keep0 hcm22;have hNv := hNv.keep0 hcm22;have hneb1222 := zdd hb12.lt hge22;have hb12 := hb12.k0 hcm22;have hneb1422 := zdd hb14.lt hge22;have hb14 := hb14.k0 hcm22;have hneb1622 := zdd hb16.lt hge22;have hb16 := hb16.k0 hcm22;have hneb1822 := zdd hb18.lt hge22;have hb18 := hb18.k0 hcm22;have hneb2022 := zdd hb20.lt hge22;have hb20 := hb20.k0 hcm22;refine zss rfl rfl ao hb22 rfl fun ws37 hb22_ hcs37 => ?_;(try simp only [Sx.splice, qt] at hb22_);have hch := hch.s1 hcs37;have hb12 := hb12.kq hcs37;have hb14 := hb14.kq hcs37;have hb16 := hb16.kq hcs37;have hb18 := hb18.kq hcs37;have hb20 := hb20.kq hcs37;have hNx := hNx.keepBK hb22 hcs37 an;have hNy := hNy.keepBK hb22 hcs37 an;have hNf := hNf.keepBK hb22 hcs37 an;have hNim := hNim.keepBK hb22 hcs37 an;have hNu := hNu.keepBK hb22 hcs37 an;have hNid := hNid.keepBK hb22 hcs37 an;have hNt := hNt.keepBK hb22 hcs37 an;have hNv := hNv.keepBK hb22 hcs37 an;have hb22 := hb22_;refine za rfl (zz (kh71 (zc fun _ kh73 => Sr fun _ kh74 => zf rfl (zl hb22 rfl rfl (zn rfl (zq rfl rfl (zz (kh74 ?_))))))));refine zy rfl (fun hc7 => ?_) fun hc7 => ?_
    ·
     (try simp only [qs] at hc7);have h0 : (sumD (lineV x y num den)).m = 0 := wd_eq_nil.1 (List.length_eq_zero_iff.1 (by omega));refine Sr fun _ kh76 => zm rfl (zm rfl ?_);refine WL.buildSlice (m := 2) (cs := [f64v (x), f64v (y)]) (by decide) (by decide) rfl (by kernel_rfl) rfl fun b66 w66 hn66 => ?_
     have hcm66 := hn66.chg;have hge66 := hn66.ge;have hb66 : FB w66 b66 _ [x, y] := hn66.at_;have hgehch66 := Nat.le_trans hch.size hge66;have hch := hch.ta hcm66;have hNx := hNx.keep0 hcm66;have hNy := hNy.keep0 hcm66;have hNf := hNf.keep0 hcm66;have hNim := hNim.keep0 hcm66;have hNu := hNu.keep0 hcm66;have hNid := hNid.keep0 hcm66;have hNt := hNt.keep0 hcm66;have hNv := hNv.keep0 hcm66;have hneb1266 := zdd hb12.lt hge66;have hb12 := hb12.k0 hcm66;have hneb1466 := zdd hb14.lt hge66;have hb14 := hb14.k0 hcm66;have hneb1666 := zdd hb16.lt hge66;have hb16 := hb16.k0 hcm66;have hneb1866 := zdd hb18.lt hge66;have hb18 := hb18.k0 hcm66;have hneb2066 := zdd hb20.lt hge66;have hb20 := hb20.k0 hcm66;have hneb2266 := zdd hb22.lt hge66;have hb22 := hb22.k0 hcm66;refine WL.call hasF100 rfl rfl (r6Of_spec _ [x, y] _ ((NF.of_row hb66.row (by intro z hz; simp only [List.mem_cons, List.not_mem_nil, or_false] at hz; rcases hz with rfl | rfl <;> assumption) (by simp) rfl (by simp))) (by simp)) fun v w52 h' => ?_;obtain ⟨rfl, hC⟩ := h';unfold SP.cells;have hch := hch.ta hC;have hb12 := hb12.k0 hC;have hb14 := hb14.k0 hC;have hb16 := hb16.k0 hC;have hb18 := hb18.k0 hC;have hb20 := hb20.k0 hC;have hb22 := hb22.k0 hC;have hb66 := hb66.k0 hC;have hNx := hNx.keep0 hC;have hNy := hNy.keep0 hC;have hNf := hNf.keep0 hC;have hNim := hNim.keep0 hC;have hNu := hNu.keep0 hC;have hNid := hNid.keep0 hC;have hNt := hNt.keep0 hC;have hNv := hNv.keep0 hC;refine zm rfl ?_;refine WL.call hasF99 rfl rfl (r6Nought_spec (cntP [x, y]) mode _ ((cnt_le [x, y]).mono (by simp))) fun v w53 h' => ?_;obtain ⟨rfl, hC⟩ := h';have hch := hch.ta hC;have hb12 := hb12.k0 hC;have hb14 := hb14.k0 hC;have hb16 := hb16.k0 hC;have hb18 := hb18.k0 hC;have hb20 := hb20.k0 hC;have hb22 := hb22.k0 hC;have hb66 := hb66.k0 hC;have hNx := hNx.keep0 hC;have hNy := hNy.keep0 hC;have hNf := hNf.keep0 hC;have hNim := hNim.keep0 hC;have hNu := hNu.keep0 hC;have hNid := hNid.keep0 hC;have hNt := hNt.keep0 hC;have hNv := hNv.keep0 hC;refine za rfl (za rfl (zz (kh76 ?_)));refine zr ?_;refine zr2 rfl rfl rfl ?_;exact ⟨⟨_, _, rfl, .inl ⟨h0, rfl, rfl⟩⟩, hch⟩
    ·
     (try simp only [qs] at hc7);have h0 : (sumD (lineV x y num den)).m ≠ 0 := fun q => by rw [q, wd_zero] at hc7; exact hc7 rfl
     refine zkk ?_;refine kh73 (zc fun _ kh78 => ?_);refine CW.regionHC 10 rfl hmix fun kR79 kr79 hS hdr => ?_;have hch := hch.ta hdr;have hb12 := hb12.k0 hdr;have hb14 := hb14.k0 hdr;have hb16 := hb16.k0 hdr;have hb18 := hb18.k0 hdr;have hb20 := hb20.k0 hdr;have hb22 := hb22.k0 hdr;have hNx := hNx.keep0 hdr;have hNy := hNy.keep0 hdr;have hNf := hNf.keep0 hdr;have hNim := hNim.keep0 hdr;have hNu := hNu.keep0 hdr;have hNid := hNid.keep0 hdr;have hNt := hNt.keep0 hdr;have hNv := hNv.keep0 hdr;have hch_r := hch;have hb12_r := hb12;have hb14_r := hb14;have hb16_r := hb16;have hb18_r := hb18;have hb20_r := hb20;have hb22_r := hb22;refine wh 0 rfl hS (fun _ hw' => Ev.loadA rfl rfl (hb22_r.keep0 hw') rfl) (wh 1 rfl hS (fun _ _ => Ev.move rfl) (wh 4 rfl hS (fun _ _ => Ev.move rfl) ?_));refine WH.oneCall 2 rfl (by kernel_rfl) hasF97 rfl rfl (r3Int_spec ((den : Nat) : Int) _ (by omega)) fun v w54 h' => ?_;obtain ⟨⟨rie, rfl, hNie⟩, hC⟩ := h';have hch := hch.ta hC;have hb12 := hb12.k0 hC;have hb14 := hb14.k0 hC;have hb16 := hb16.k0 hC;have hb18 := hb18.k0 hC;have hb20 := hb20.k0 hC;have hb22 := hb22.k0 hC;have hNx := hNx.keep0 hC;have hNy := hNy.keep0 hC;have hNf := hNf.keep0 hC;have hNim := hNim.keep0 hC;have hNu := hNu.keep0 hC;have hNid := hNid.keep0 hC;have hNt := hNt.keep0 hC;have hNv := hNv.keep0 hC;have hS := hS.trans hC;refine ⟨hS, ?_⟩;refine wh 3 rfl hS (fun _ _ => Ev.build (vs := _) (cs := [_, _, _, _, _, _]) rfl rfl) ?_;refine WH.oneCall 5 rfl (by kernel_rfl) hasF101 rfl rfl (r11Quot_spec _ _ _ _ _ _ _ _ mode _ hNv hNie (by omega) (by omega) (by omega) (by omega)) fun v w55 h' => ?_;obtain ⟨⟨bits, e, rfl, hQ⟩, hC⟩ := h';rw [val_wd, val_wd] at hQ;have hch := hch.ta hC;have hb12 := hb12.k0 hC;have hb14 := hb14.k0 hC;have hb16 := hb16.k0 hC;have hb18 := hb18.k0 hC;have hb20 := hb20.k0 hC;have hb22 := hb22.k0 hC;have hNx := hNx.keep0 hC;have hNy := hNy.keep0 hC;have hNf := hNf.keep0 hC;have hNim := hNim.keep0 hC;have hNu := hNu.keep0 hC;have hNid := hNid.keep0 hC;have hNt := hNt.keep0 hC;have hNv := hNv.keep0 hC;have hNie := hNie.keep0 hC;have hS := hS.trans hC;refine ⟨hS, ?_⟩;refine wh 6 rfl hS (fun _ _ => Ev.extract rfl rfl) (wh 7 rfl hS (fun _ _ => Ev.extract rfl rfl) (wh 8 rfl hS (fun _ _ => Ev.assign rfl) (wh 9 rfl hS (fun _ _ => Ev.assign rfl) ?_)));refine WH.done (by kernel_rfl) (kr79 _ _ _ ?_);refine kh78 ?_;refine zr ?_;refine zr2 rfl rfl rfl ?_;exact ⟨⟨_, _, rfl, .inr ⟨h0, hQ⟩⟩, hch⟩
   ·
    refine WHat.allocC (l := [.bool false, .slice none 0 0, .int .i64 0]) 7 rfl hS rfl rfl fun b20 wm20 hb20 hcm20 hge20 hS1 => ?_;have hgeS20 := Nat.le_trans hS.size hge20;have hS := hS1;have hgehch20 := Nat.le_trans hch.size hge20;have hch := hch.ta hcm20;have hNx := hNx.keep0 hcm20;have hNy := hNy.keep0 hcm20;have hNf := hNf.keep0 hcm20;have hNim := hNim.keep0 hcm20;have hNu := hNu.keep0 hcm20;have hNid := hNid.keep0 hcm20;have hneb1220 := zdd hb12.lt hge20;have hb12 := hb12.k0 hcm20;have hneb1420 := zdd hb14.lt hge20;have hb14 := hb14.k0 hcm20;have hneb1620 := zdd hb16.lt hge20;have hb16 := hb16.k0 hcm20;have hneb1820 := zdd hb18.lt hge20;have hb18 := hb18.k0 hcm20;refine WH.oneCall 3 rfl (by kernel_rfl) hasF96 rfl rfl (r3Mul_spec _ _ _ _ _ _ _ _ _ hNx hNid (by omega) (by omega) (by omega) (by omega)) fun v w56 h' => ?_;obtain ⟨hDt, hC⟩ := h';rw [val_wd, val_wd, formD_sumD hX, formD_self okden, show both2 mulD (some (sumD (fvI x))) (some (intD (den : Int))) = mulD (sumD (fvI x)) (intD (den : Int)) from rfl, mulD_int hX (by omega) (by omega) hXD] at hDt;obtain ⟨rt, dt, hdt, rfl, hNt⟩ := hDt.resolve_right (fun q => by cases q.1);cases hdt;have hch := hch.ta hC;have hb12 := hb12.k0 hC;have hb14 := hb14.k0 hC;have hb16 := hb16.k0 hC;have hb18 := hb18.k0 hC;have hb20 := hb20.k0 hC;have hNx := hNx.keep0 hC;have hNy := hNy.keep0 hC;have hNf := hNf.keep0 hC;have hNim := hNim.keep0 hC;have hNu := hNu.keep0 hC;have hNid := hNid.keep0 hC;have hS := hS.trans hC;refine ⟨hS, ?_⟩;refine wh 4 rfl hS (fun _ _ => Ev.move rfl) (wh 5 rfl hS (fun _ _ => Ev.extract rfl rfl) (wh 6 rfl hS (fun _ _ => Ev.extract rfl rfl) ?_));refine WH.storeBN 8 rfl (by kernel_rfl) hS hgeS20 rfl rfl rfl ao hb20 (by simp) rfl fun ws38 hb20_ hcs38 hS => ?_;(try simp only [Sx.splice, qt] at hb20_);have hch := hch.s1 hcs38;have hb12 := hb12.kq hcs38;have hb14 := hb14.kq hcs38;have hb16 := hb16.kq hcs38;have hb18 := hb18.kq hcs38;have hNx := hNx.keepBK hb20 hcs38 an;have hNy := hNy.keepBK hb20 hcs38 an;have hNf := hNf.keepBK hb20 hcs38 an;have hNim := hNim.keepBK hb20 hcs38 an;have hNu := hNu.keepBK hb20 hcs38 an;have hNid := hNid.keepBK hb20 hcs38 an;have hNt := hNt.keepBK hb20 hcs38 an;have hb20 := hb20_;refine wh 9 rfl hS (fun _ _ => Ev.assign rfl) ?_;refine WH.done (by kernel_rfl) (kr70 _ _ _ ?_);refine kh69 (Sr fun _ kh80 => zg hb20 rfl (zg hb18 rfl ?_));refine WL.call hasF98 rfl rfl (r3Add_spec _ _ _ _ _ _ _ _ _ hNt hNu (by omega) (by omega) (by omega) (by omega)) fun v w57 h' => ?_;obtain ⟨hDv, hC⟩ := h';rw [val_wd, val_wd, formD_sumD hXD, formD_sumD hFM, show both2 addD (some (sumD (fvI x * (den : Int)))) (some (sumD ((fvI y + -fvI x) * (num : Int)))) = addD (sumD (fvI x * (den : Int))) (sumD ((fvI y + -fvI x) * (num : Int))) from rfl, addD_sum hXD hFM (by rw [hsum]; exact hV), hsum] at hDv;obtain ⟨rv, dv, hdv, rfl, hNv⟩ := hDv.resolve_right (fun q => by cases q.1);cases hdv;obtain ⟨⟨av, cv, rfl, hcapv, hrv⟩, hWv, hlv⟩ := id hNv
    have hch := hch.ta hC;have hb12 := hb12.k0 hC;have hb14 := hb14.k0 hC;have hb16 := hb16.k0 hC;have hb18 := hb18.k0 hC;have hb20 := hb20.k0 hC;have hNx := hNx.keep0 hC;have hNy := hNy.keep0 hC;have hNf := hNf.keep0 hC;have hNim := hNim.keep0 hC;have hNu := hNu.keep0 hC;have hNid := hNid.keep0 hC;have hNt := hNt.keep0 hC;refine zm rfl (zx rfl rfl (zx rfl rfl ?_));refine WL.allocB (l := [.bool false, .slice none 0 0, .int .i64 0]) rfl rfl fun b22 wm22 hb22 hcm22 hge22 => ?_;have hgehch22 := Nat.le_trans hch.size hge22;have hch := hch.ta hcm22;have hNx := hNx.keep0 hcm22;have hNy := hNy.keep0 hcm22;have hNf := hNf.keep0 hcm22;have hNim := hNim.keep0 hcm22;have hNu := hNu.keep0 hcm22;have hNid := hNid.keep0 hcm22;have hNt := hNt.keep0 hcm22;have hNv := hNv.keep0 hcm22;have hneb1222 := zdd hb12.lt hge22;have hb12 := hb12.k0 hcm22;have hneb1422 := zdd hb14.lt hge22;have hb14 := hb14.k0 hcm22;have hneb1622 := zdd hb16.lt hge22;have hb16 := hb16.k0 hcm22;have hneb1822 := zdd hb18.lt hge22;have hb18 := hb18.k0 hcm22;have hneb2022 := zdd hb20.lt hge22;have hb20 := hb20.k0 hcm22;refine zss rfl rfl ao hb22 rfl fun ws39 hb22_ hcs39 => ?_;(try simp only [Sx.splice, qt] at hb22_);have hch := hch.s1 hcs39;have hb12 := hb12.kq hcs39;have hb14 := hb14.kq hcs39;have hb16 := hb16.kq hcs39;have hb18 := hb18.kq hcs39;have hb20 := hb20.kq hcs39;have hNx := hNx.keepBK hb22 hcs39 an;have hNy := hNy.keepBK hb22 hcs39 an;have hNf := hNf.keepBK hb22 hcs39 an;have hNim := hNim.keepBK hb22 hcs39 an;have hNu := hNu.keepBK hb22 hcs39 an;have hNid := hNid.keepBK hb22 hcs39 an;have hNt := hNt.keepBK hb22 hcs39 an;have hNv := hNv.keepBK hb22 hcs39 an;have hb22 := hb22_;refine za rfl (zz (kh80 (zc fun _ kh82 => Sr fun _ kh83 => zf rfl (zl hb22 rfl rfl (zn rfl (zq rfl rfl (zz (kh83 ?_))))))));refine zy rfl (fun hc8 => ?_) fun hc8 => ?_
    ·
     (try simp only [qs] at hc8);have h0 : (sumD (lineV x y num den)).m = 0 := wd_eq_nil.1 (List.length_eq_zero_iff.1 (by omega));refine Sr fun _ kh85 => zm rfl (zm rfl ?_);refine WL.buildSlice (m := 2) (cs := [f64v (x), f64v (y)]) (by decide) (by decide) rfl (by kernel_rfl) rfl fun b66 w66 hn66 => ?_
     have hcm66 := hn66.chg;have hge66 := hn66.ge;have hb66 : FB w66 b66 _ [x, y] := hn66.at_;have hgehch66 := Nat.le_trans hch.size hge66;have hch := hch.ta hcm66;have hNx := hNx.keep0 hcm66;have hNy := hNy.keep0 hcm66;have hNf := hNf.keep0 hcm66;have hNim := hNim.keep0 hcm66;have hNu := hNu.keep0 hcm66;have hNid := hNid.keep0 hcm66;have hNt := hNt.keep0 hcm66;have hNv := hNv.keep0 hcm66;have hneb1266 := zdd hb12.lt hge66;have hb12 := hb12.k0 hcm66;have hneb1466 := zdd hb14.lt hge66;have hb14 := hb14.k0 hcm66;have hneb1666 := zdd hb16.lt hge66;have hb16 := hb16.k0 hcm66;have hneb1866 := zdd hb18.lt hge66;have hb18 := hb18.k0 hcm66;have hneb2066 := zdd hb20.lt hge66;have hb20 := hb20.k0 hcm66;have hneb2266 := zdd hb22.lt hge66;have hb22 := hb22.k0 hcm66;refine WL.call hasF100 rfl rfl (r6Of_spec _ [x, y] _ ((NF.of_row hb66.row (by intro z hz; simp only [List.mem_cons, List.not_mem_nil, or_false] at hz; rcases hz with rfl | rfl <;> assumption) (by simp) rfl (by simp))) (by simp)) fun v w58 h' => ?_;obtain ⟨rfl, hC⟩ := h';unfold SP.cells;have hch := hch.ta hC;have hb12 := hb12.k0 hC;have hb14 := hb14.k0 hC;have hb16 := hb16.k0 hC;have hb18 := hb18.k0 hC;have hb20 := hb20.k0 hC;have hb22 := hb22.k0 hC;have hb66 := hb66.k0 hC;have hNx := hNx.keep0 hC;have hNy := hNy.keep0 hC;have hNf := hNf.keep0 hC;have hNim := hNim.keep0 hC;have hNu := hNu.keep0 hC;have hNid := hNid.keep0 hC;have hNt := hNt.keep0 hC;have hNv := hNv.keep0 hC;refine zm rfl ?_;refine WL.call hasF99 rfl rfl (r6Nought_spec (cntP [x, y]) mode _ ((cnt_le [x, y]).mono (by simp))) fun v w59 h' => ?_;obtain ⟨rfl, hC⟩ := h';have hch := hch.ta hC;have hb12 := hb12.k0 hC;have hb14 := hb14.k0 hC;have hb16 := hb16.k0 hC;have hb18 := hb18.k0 hC;have hb20 := hb20.k0 hC;have hb22 := hb22.k0 hC;have hb66 := hb66.k0 hC;have hNx := hNx.keep0 hC;have hNy := hNy.keep0 hC;have hNf := hNf.keep0 hC;have hNim := hNim.keep0 hC;have hNu := hNu.keep0 hC;have hNid := hNid.keep0 hC;have hNt := hNt.keep0 hC;have hNv := hNv.keep0 hC;refine za rfl (za rfl (zz (kh85 ?_)));refine zr ?_;refine zr2 rfl rfl rfl ?_;exact ⟨⟨_, _, rfl, .inl ⟨h0, rfl, rfl⟩⟩, hch⟩
    ·
     (try simp only [qs] at hc8);have h0 : (sumD (lineV x y num den)).m ≠ 0 := fun q => by rw [q, wd_zero] at hc8; exact hc8 rfl
     refine zkk ?_;refine kh82 (zc fun _ kh87 => ?_);refine CW.regionHC 10 rfl hmix fun kR88 kr88 hS hdr => ?_;have hch := hch.ta hdr;have hb12 := hb12.k0 hdr;have hb14 := hb14.k0 hdr;have hb16 := hb16.k0 hdr;have hb18 := hb18.k0 hdr;have hb20 := hb20.k0 hdr;have hb22 := hb22.k0 hdr;have hNx := hNx.keep0 hdr;have hNy := hNy.keep0 hdr;have hNf := hNf.keep0 hdr;have hNim := hNim.keep0 hdr;have hNu := hNu.keep0 hdr;have hNid := hNid.keep0 hdr;have hNt := hNt.keep0 hdr;have hNv := hNv.keep0 hdr;have hch_r := hch;have hb12_r := hb12;have hb14_r := hb14;have hb16_r := hb16;have hb18_r := hb18;have hb20_r := hb20;have hb22_r := hb22;refine wh 0 rfl hS (fun _ hw' => Ev.loadA rfl rfl (hb22_r.keep0 hw') rfl) (wh 1 rfl hS (fun _ _ => Ev.move rfl) (wh 4 rfl hS (fun _ _ => Ev.move rfl) ?_));refine WH.oneCall 2 rfl (by kernel_rfl) hasF97 rfl rfl (r3Int_spec ((den : Nat) : Int) _ (by omega)) fun v w60 h' => ?_;obtain ⟨⟨rie, rfl, hNie⟩, hC⟩ := h';have hch := hch.ta hC;have hb12 := hb12.k0 hC;have hb14 := hb14.k0 hC;have hb16 := hb16.k0 hC;have hb18 := hb18.k0 hC;have hb20 := hb20.k0 hC;have hb22 := hb22.k0 hC;have hNx := hNx.keep0 hC;have hNy := hNy.keep0 hC;have hNf := hNf.keep0 hC;have hNim := hNim.keep0 hC;have hNu := hNu.keep0 hC;have hNid := hNid.keep0 hC;have hNt := hNt.keep0 hC;have hNv := hNv.keep0 hC;have hS := hS.trans hC;refine ⟨hS, ?_⟩;refine wh 3 rfl hS (fun _ _ => Ev.build (vs := _) (cs := [_, _, _, _, _, _]) rfl rfl) ?_;refine WH.oneCall 5 rfl (by kernel_rfl) hasF101 rfl rfl (r11Quot_spec _ _ _ _ _ _ _ _ mode _ hNv hNie (by omega) (by omega) (by omega) (by omega)) fun v w61 h' => ?_;obtain ⟨⟨bits, e, rfl, hQ⟩, hC⟩ := h';rw [val_wd, val_wd] at hQ;have hch := hch.ta hC;have hb12 := hb12.k0 hC;have hb14 := hb14.k0 hC;have hb16 := hb16.k0 hC;have hb18 := hb18.k0 hC;have hb20 := hb20.k0 hC;have hb22 := hb22.k0 hC;have hNx := hNx.keep0 hC;have hNy := hNy.keep0 hC;have hNf := hNf.keep0 hC;have hNim := hNim.keep0 hC;have hNu := hNu.keep0 hC;have hNid := hNid.keep0 hC;have hNt := hNt.keep0 hC;have hNv := hNv.keep0 hC;have hNie := hNie.keep0 hC;have hS := hS.trans hC;refine ⟨hS, ?_⟩;refine wh 6 rfl hS (fun _ _ => Ev.extract rfl rfl) (wh 7 rfl hS (fun _ _ => Ev.extract rfl rfl) (wh 8 rfl hS (fun _ _ => Ev.assign rfl) (wh 9 rfl hS (fun _ _ => Ev.assign rfl) ?_)));refine WH.done (by kernel_rfl) (kr88 _ _ _ ?_);refine kh87 ?_;refine zr ?_;refine zr2 rfl rfl rfl ?_;exact ⟨⟨_, _, rfl, .inr ⟨h0, hQ⟩⟩, hch⟩
  ·
   refine WHat.allocC (l := [.bool false, .slice none 0 0, .int .i64 0]) 7 rfl hS rfl rfl fun b20 wm20 hb20 hcm20 hge20 hS1 => ?_;have hgeS20 := Nat.le_trans hS.size hge20;have hS := hS1;have hgehch20 := Nat.le_trans hch.size hge20;have hch := hch.ta hcm20;have hNx := hNx.keep0 hcm20;have hNy := hNy.keep0 hcm20;have hNf := hNf.keep0 hcm20;have hNim := hNim.keep0 hcm20;have hNu := hNu.keep0 hcm20;have hneb1220 := zdd hb12.lt hge20;have hb12 := hb12.k0 hcm20;have hneb1420 := zdd hb14.lt hge20;have hb14 := hb14.k0 hcm20;have hneb1620 := zdd hb16.lt hge20;have hb16 := hb16.k0 hcm20;have hneb1820 := zdd hb18.lt hge20;have hb18 := hb18.k0 hcm20;refine WH.oneCall 2 rfl (by kernel_rfl) hasF97 rfl rfl (r3Int_spec ((den : Nat) : Int) _ (by omega)) fun v w62 h' => ?_;obtain ⟨⟨rid, rfl, hNid⟩, hC⟩ := h';have hch := hch.ta hC;have hb12 := hb12.k0 hC;have hb14 := hb14.k0 hC;have hb16 := hb16.k0 hC;have hb18 := hb18.k0 hC;have hb20 := hb20.k0 hC;have hNx := hNx.keep0 hC;have hNy := hNy.keep0 hC;have hNf := hNf.keep0 hC;have hNim := hNim.keep0 hC;have hNu := hNu.keep0 hC;have hS := hS.trans hC;refine ⟨hS, ?_⟩;refine WH.oneCall 3 rfl (by kernel_rfl) hasF96 rfl rfl (r3Mul_spec _ _ _ _ _ _ _ _ _ hNx hNid (by omega) (by omega) (by omega) (by omega)) fun v w63 h' => ?_;obtain ⟨hDt, hC⟩ := h';rw [val_wd, val_wd, formD_sumD hX, formD_self okden, show both2 mulD (some (sumD (fvI x))) (some (intD (den : Int))) = mulD (sumD (fvI x)) (intD (den : Int)) from rfl, mulD_int hX (by omega) (by omega) hXD] at hDt;obtain ⟨rt, dt, hdt, rfl, hNt⟩ := hDt.resolve_right (fun q => by cases q.1);cases hdt;have hch := hch.ta hC;have hb12 := hb12.k0 hC;have hb14 := hb14.k0 hC;have hb16 := hb16.k0 hC;have hb18 := hb18.k0 hC;have hb20 := hb20.k0 hC;have hNx := hNx.keep0 hC;have hNy := hNy.keep0 hC;have hNf := hNf.keep0 hC;have hNim := hNim.keep0 hC;have hNu := hNu.keep0 hC;have hNid := hNid.keep0 hC;have hS := hS.trans hC;refine ⟨hS, ?_⟩;refine wh 4 rfl hS (fun _ _ => Ev.move rfl) (wh 5 rfl hS (fun _ _ => Ev.extract rfl rfl) (wh 6 rfl hS (fun _ _ => Ev.extract rfl rfl) ?_));refine WH.storeBN 8 rfl (by kernel_rfl) hS hgeS20 rfl rfl rfl ao hb20 (by simp) rfl fun ws40 hb20_ hcs40 hS => ?_;(try simp only [Sx.splice, qt] at hb20_);have hch := hch.s1 hcs40;have hb12 := hb12.kq hcs40;have hb14 := hb14.kq hcs40;have hb16 := hb16.kq hcs40;have hb18 := hb18.kq hcs40;have hNx := hNx.keepBK hb20 hcs40 an;have hNy := hNy.keepBK hb20 hcs40 an;have hNf := hNf.keepBK hb20 hcs40 an;have hNim := hNim.keepBK hb20 hcs40 an;have hNu := hNu.keepBK hb20 hcs40 an;have hNid := hNid.keepBK hb20 hcs40 an;have hNt := hNt.keepBK hb20 hcs40 an;have hb20 := hb20_;refine wh 9 rfl hS (fun _ _ => Ev.assign rfl) ?_;refine WH.done (by kernel_rfl) (kr70 _ _ _ ?_);refine kh69 (Sr fun _ kh89 => zg hb20 rfl (zg hb18 rfl ?_));refine WL.call hasF98 rfl rfl (r3Add_spec _ _ _ _ _ _ _ _ _ hNt hNu (by omega) (by omega) (by omega) (by omega)) fun v w64 h' => ?_
   obtain ⟨hDv, hC⟩ := h';rw [val_wd, val_wd, formD_sumD hXD, formD_sumD hFM, show both2 addD (some (sumD (fvI x * (den : Int)))) (some (sumD ((fvI y + -fvI x) * (num : Int)))) = addD (sumD (fvI x * (den : Int))) (sumD ((fvI y + -fvI x) * (num : Int))) from rfl, addD_sum hXD hFM (by rw [hsum]; exact hV), hsum] at hDv;obtain ⟨rv, dv, hdv, rfl, hNv⟩ := hDv.resolve_right (fun q => by cases q.1);cases hdv;obtain ⟨⟨av, cv, rfl, hcapv, hrv⟩, hWv, hlv⟩ := id hNv;have hch := hch.ta hC;have hb12 := hb12.k0 hC;have hb14 := hb14.k0 hC;have hb16 := hb16.k0 hC;have hb18 := hb18.k0 hC;have hb20 := hb20.k0 hC;have hNx := hNx.keep0 hC;have hNy := hNy.keep0 hC;have hNf := hNf.keep0 hC;have hNim := hNim.keep0 hC;have hNu := hNu.keep0 hC;have hNid := hNid.keep0 hC;have hNt := hNt.keep0 hC;refine zm rfl (zx rfl rfl (zx rfl rfl ?_));refine WL.allocB (l := [.bool false, .slice none 0 0, .int .i64 0]) rfl rfl fun b22 wm22 hb22 hcm22 hge22 => ?_;have hgehch22 := Nat.le_trans hch.size hge22;have hch := hch.ta hcm22;have hNx := hNx.keep0 hcm22;have hNy := hNy.keep0 hcm22;have hNf := hNf.keep0 hcm22;have hNim := hNim.keep0 hcm22;have hNu := hNu.keep0 hcm22;have hNid := hNid.keep0 hcm22;have hNt := hNt.keep0 hcm22;have hNv := hNv.keep0 hcm22;have hneb1222 := zdd hb12.lt hge22;have hb12 := hb12.k0 hcm22;have hneb1422 := zdd hb14.lt hge22;have hb14 := hb14.k0 hcm22;have hneb1622 := zdd hb16.lt hge22;have hb16 := hb16.k0 hcm22;have hneb1822 := zdd hb18.lt hge22;have hb18 := hb18.k0 hcm22;have hneb2022 := zdd hb20.lt hge22;have hb20 := hb20.k0 hcm22;refine zss rfl rfl ao hb22 rfl fun ws41 hb22_ hcs41 => ?_;(try simp only [Sx.splice, qt] at hb22_);have hch := hch.s1 hcs41;have hb12 := hb12.kq hcs41;have hb14 := hb14.kq hcs41;have hb16 := hb16.kq hcs41;have hb18 := hb18.kq hcs41;have hb20 := hb20.kq hcs41;have hNx := hNx.keepBK hb22 hcs41 an;have hNy := hNy.keepBK hb22 hcs41 an;have hNf := hNf.keepBK hb22 hcs41 an;have hNim := hNim.keepBK hb22 hcs41 an;have hNu := hNu.keepBK hb22 hcs41 an;have hNid := hNid.keepBK hb22 hcs41 an;have hNt := hNt.keepBK hb22 hcs41 an;have hNv := hNv.keepBK hb22 hcs41 an;have hb22 := hb22_;refine za rfl (zz (kh89 (zc fun _ kh91 => Sr fun _ kh92 => zf rfl (zl hb22 rfl rfl (zn rfl (zq rfl rfl (zz (kh92 ?_))))))));refine zy rfl (fun hc9 => ?_) fun hc9 => ?_
   ·
    (try simp only [qs] at hc9);have h0 : (sumD (lineV x y num den)).m = 0 := wd_eq_nil.1 (List.length_eq_zero_iff.1 (by omega));refine Sr fun _ kh94 => zm rfl (zm rfl ?_);refine WL.buildSlice (m := 2) (cs := [f64v (x), f64v (y)]) (by decide) (by decide) rfl (by kernel_rfl) rfl fun b66 w66 hn66 => ?_
    have hcm66 := hn66.chg;have hge66 := hn66.ge;have hb66 : FB w66 b66 _ [x, y] := hn66.at_;have hgehch66 := Nat.le_trans hch.size hge66;have hch := hch.ta hcm66;have hNx := hNx.keep0 hcm66;have hNy := hNy.keep0 hcm66;have hNf := hNf.keep0 hcm66;have hNim := hNim.keep0 hcm66;have hNu := hNu.keep0 hcm66;have hNid := hNid.keep0 hcm66;have hNt := hNt.keep0 hcm66;have hNv := hNv.keep0 hcm66;have hneb1266 := zdd hb12.lt hge66;have hb12 := hb12.k0 hcm66;have hneb1466 := zdd hb14.lt hge66;have hb14 := hb14.k0 hcm66;have hneb1666 := zdd hb16.lt hge66;have hb16 := hb16.k0 hcm66;have hneb1866 := zdd hb18.lt hge66;have hb18 := hb18.k0 hcm66;have hneb2066 := zdd hb20.lt hge66;have hb20 := hb20.k0 hcm66;have hneb2266 := zdd hb22.lt hge66;have hb22 := hb22.k0 hcm66;refine WL.call hasF100 rfl rfl (r6Of_spec _ [x, y] _ ((NF.of_row hb66.row (by intro z hz; simp only [List.mem_cons, List.not_mem_nil, or_false] at hz; rcases hz with rfl | rfl <;> assumption) (by simp) rfl (by simp))) (by simp)) fun v w65 h' => ?_;obtain ⟨rfl, hC⟩ := h';unfold SP.cells;have hch := hch.ta hC;have hb12 := hb12.k0 hC;have hb14 := hb14.k0 hC;have hb16 := hb16.k0 hC;have hb18 := hb18.k0 hC;have hb20 := hb20.k0 hC;have hb22 := hb22.k0 hC;have hb66 := hb66.k0 hC;have hNx := hNx.keep0 hC;have hNy := hNy.keep0 hC;have hNf := hNf.keep0 hC;have hNim := hNim.keep0 hC;have hNu := hNu.keep0 hC;have hNid := hNid.keep0 hC;have hNt := hNt.keep0 hC;have hNv := hNv.keep0 hC;refine zm rfl ?_;refine WL.call hasF99 rfl rfl (r6Nought_spec (cntP [x, y]) mode _ ((cnt_le [x, y]).mono (by simp))) fun v w66 h' => ?_;obtain ⟨rfl, hC⟩ := h';have hch := hch.ta hC;have hb12 := hb12.k0 hC;have hb14 := hb14.k0 hC;have hb16 := hb16.k0 hC;have hb18 := hb18.k0 hC;have hb20 := hb20.k0 hC;have hb22 := hb22.k0 hC;have hb66 := hb66.k0 hC;have hNx := hNx.keep0 hC;have hNy := hNy.keep0 hC;have hNf := hNf.keep0 hC;have hNim := hNim.keep0 hC;have hNu := hNu.keep0 hC;have hNid := hNid.keep0 hC;have hNt := hNt.keep0 hC;have hNv := hNv.keep0 hC;refine za rfl (za rfl (zz (kh94 ?_)));refine zr ?_;refine zr2 rfl rfl rfl ?_;exact ⟨⟨_, _, rfl, .inl ⟨h0, rfl, rfl⟩⟩, hch⟩
   ·
    (try simp only [qs] at hc9);have h0 : (sumD (lineV x y num den)).m ≠ 0 := fun q => by rw [q, wd_zero] at hc9; exact hc9 rfl
    refine zkk ?_;refine kh91 (zc fun _ kh96 => ?_);refine CW.regionHC 10 rfl hmix fun kR97 kr97 hS hdr => ?_;have hch := hch.ta hdr;have hb12 := hb12.k0 hdr;have hb14 := hb14.k0 hdr;have hb16 := hb16.k0 hdr;have hb18 := hb18.k0 hdr;have hb20 := hb20.k0 hdr;have hb22 := hb22.k0 hdr;have hNx := hNx.keep0 hdr;have hNy := hNy.keep0 hdr;have hNf := hNf.keep0 hdr;have hNim := hNim.keep0 hdr;have hNu := hNu.keep0 hdr;have hNid := hNid.keep0 hdr;have hNt := hNt.keep0 hdr;have hNv := hNv.keep0 hdr;have hch_r := hch;have hb12_r := hb12;have hb14_r := hb14;have hb16_r := hb16;have hb18_r := hb18;have hb20_r := hb20;have hb22_r := hb22;refine wh 0 rfl hS (fun _ hw' => Ev.loadA rfl rfl (hb22_r.keep0 hw') rfl) (wh 1 rfl hS (fun _ _ => Ev.move rfl) (wh 4 rfl hS (fun _ _ => Ev.move rfl) ?_));refine WH.oneCall 2 rfl (by kernel_rfl) hasF97 rfl rfl (r3Int_spec ((den : Nat) : Int) _ (by omega)) fun v w67 h' => ?_;obtain ⟨⟨rie, rfl, hNie⟩, hC⟩ := h';have hch := hch.ta hC;have hb12 := hb12.k0 hC;have hb14 := hb14.k0 hC;have hb16 := hb16.k0 hC;have hb18 := hb18.k0 hC;have hb20 := hb20.k0 hC;have hb22 := hb22.k0 hC;have hNx := hNx.keep0 hC;have hNy := hNy.keep0 hC;have hNf := hNf.keep0 hC;have hNim := hNim.keep0 hC;have hNu := hNu.keep0 hC;have hNid := hNid.keep0 hC;have hNt := hNt.keep0 hC;have hNv := hNv.keep0 hC;have hS := hS.trans hC;refine ⟨hS, ?_⟩;refine wh 3 rfl hS (fun _ _ => Ev.build (vs := _) (cs := [_, _, _, _, _, _]) rfl rfl) ?_;refine WH.oneCall 5 rfl (by kernel_rfl) hasF101 rfl rfl (r11Quot_spec _ _ _ _ _ _ _ _ mode _ hNv hNie (by omega) (by omega) (by omega) (by omega)) fun v w68 h' => ?_;obtain ⟨⟨bits, e, rfl, hQ⟩, hC⟩ := h';rw [val_wd, val_wd] at hQ;have hch := hch.ta hC;have hb12 := hb12.k0 hC;have hb14 := hb14.k0 hC;have hb16 := hb16.k0 hC;have hb18 := hb18.k0 hC;have hb20 := hb20.k0 hC;have hb22 := hb22.k0 hC;have hNx := hNx.keep0 hC;have hNy := hNy.keep0 hC;have hNf := hNf.keep0 hC;have hNim := hNim.keep0 hC;have hNu := hNu.keep0 hC;have hNid := hNid.keep0 hC;have hNt := hNt.keep0 hC;have hNv := hNv.keep0 hC;have hNie := hNie.keep0 hC;have hS := hS.trans hC;refine ⟨hS, ?_⟩;refine wh 6 rfl hS (fun _ _ => Ev.extract rfl rfl) (wh 7 rfl hS (fun _ _ => Ev.extract rfl rfl) (wh 8 rfl hS (fun _ _ => Ev.assign rfl) (wh 9 rfl hS (fun _ _ => Ev.assign rfl) ?_)));refine WH.done (by kernel_rfl) (kr97 _ _ _ ?_);refine kh96 ?_;refine zr ?_;refine zr2 rfl rfl rfl ?_;exact ⟨⟨_, _, rfl, .inr ⟨h0, hQ⟩⟩, hch⟩

end

/- Reference of layer 13: Sorted. No condition. -/
section
open Go Sx Wd Fl

structure KMg (A B l : List Nat) (w0 w2 : World) (g : Nat × Nat × Value × List Nat) (w : World) : Prop where
  hi : g.1 ≤ A.length
  hk : g.2.1 ≤ B.length
  len : g.2.2.2.length = g.1 + g.2.1
  hm : g.2.2.2 ++ mrg (A.drop g.1) (B.drop g.2.1) = mrg A B
  hg : GR w 24 f64v w2.heap.size [] g.2.2.1 g.2.2.2
  ch : Chg [] w0 w
  cr : Chg [] w2 w

theorem r13SortedStep (v : Value) (l : List Nat) (w : World) (hlm : l.length ≤ 1000000) (hv : NF w v l) (hn : Nums l)
    (ih : ∀ (v : Value) (l2 : List Nat) (w : World), l2.length < l.length → NF w v l2 → Nums l2 → Ret Tryz.prog 35 [v] w fun u w' => NF w' u (sortP l2) ∧ Chg [] w w') : Ret Tryz.prog 35 [v] w fun u w' => NF w' u (sortP l) ∧ Chg [] w w' := by
  have hv0 := hv
  obtain ⟨⟨al, cl, rfl, hcap, hrl⟩, hWl, hll⟩ := hv
  have hch : Chg [] w w := Chg.refl _ _
  refine Ret.enter Tryz.func35 rfl rfl ?_
  simp only [args0, Nat.zero_add, Nat.reduceAdd]
  refine Sq fun _ kh1 _ kr2 => ?_
  refine As rfl rfl ?_
  refine WL.nil (kr2 _ _ _ (kh1 _ _ _ ?_))
  refine CW.seq fun _ kh3 => ?_
  refine Sq fun _ kh4 _ kr5 => ?_
  refine Mv rfl rfl ?_
  refine WL.ev (Ev.len rfl) rfl ?_
  refine WL.ev (Ev.lss rfl rfl) rfl ?_
  refine WL.nil (kr5 _ _ _ (kh4 _ _ _ ?_))
  refine zy rfl (fun hc1 => ?_) fun hc1 => ?_
  ·
    (try simp only [qs] at hc1)
    have hsh : sortP l = l := sortP_short (by omega) hn
    refine Sq fun _ kh6 _ kr7 => ?_
    refine WL.emptySlice (f := f64v) (lo := w.heap.size) (X := []) hch.size (by simp) rfl fun v11 w11 hg11 hcm11 => ?_
    have hch := hch.ta hcm11
    refine Mv rfl rfl ?_
    refine WL.growR (f := f64v) (lo := w.heap.size) (X := []) (l := []) (news := l) (by rfl) (fun i => rfl) rfl rfl hg11 (by first | rfl | (simp; done) | (simp; omega) | omega) (hrl.keep0 hch) (by first | omega | exact hch.size | exact hcr.size | exact Nat.le_refl _) (by simp) (by simp only [List.length_append, List.length_cons, List.length_nil]; omega) (by simp only [List.length_append, List.length_cons, List.length_nil]; omega) rfl fun v13 w13 hg13 hcg13 => ?_
    have hch := GR.frame hg11 hcg13 hch (by first | omega | exact Nat.le_refl _)
    have hg11 := hg13
    rw [show ([] ++ l) = l from by simp] at hg11
    refine As rfl rfl ?_
    refine WL.nil (kr7 _ _ _ (kh6 _ _ _ ?_))
    refine zr ?_
    refine zr1 rfl rfl ?_
    exact ⟨by rw [hsh]; exact hg11.nf hWl hll, hch⟩
  ·
    (try simp only [qs] at hc1)
    have hbig : 2 ≤ l.length := by omega
    refine zkk ?_
    refine kh3 _ _ _ ?_
    refine Sq fun _ kh8 _ kr9 => ?_
    refine Mv rfl rfl ?_
    refine Mv rfl rfl ?_
    refine WL.ev (Ev.len rfl) rfl ?_
    first | refine WL.ev (Ev.quoIn rfl rfl (by omega) (by simp only [IntKind.max, IntKind.signed, IntKind.bits]; omega) (by omega)) rfl ?_ | refine WL.ev (Ev.quo rfl rfl (by omega)) rfl ?_
    refine WL.ev (Ev.sliceHn (((l).length / 2)) rfl rfl (by omega) (by omega)) rfl ?_
    refine WL.call hasF35 rfl rfl (ih _ (l.take (l.length / 2)) _ (by rw [List.length_take]; omega) ((hv0.keep0 hch).head (by omega)) (hn.take _)) fun v w1 h' => ?_
    obtain ⟨hNa, hC⟩ := h'
    have hla := sortP_length (l.take (l.length / 2))
    have hpa := sortP_perm (l.take (l.length / 2))
    have hna := (hn.take (l.length / 2)).perm hpa.symm
    generalize hA : sortP (l.take (l.length / 2)) = A at *
    rw [List.length_take] at hla
    obtain ⟨⟨aa, ca, rfl, hcapa, hra⟩, hWa, hlla⟩ := hNa
    have hwa := hch.size
    have hch := hch.ta hC
    refine As rfl rfl ?_
    refine WL.nil (kr9 _ _ _ (kh8 _ _ _ ?_))
    refine Sq fun _ kh10 _ kr11 => ?_
    refine Mv rfl rfl ?_
    refine Mv rfl rfl ?_
    refine WL.ev (Ev.len rfl) rfl ?_
    first | refine WL.ev (Ev.quoIn rfl rfl (by omega) (by simp only [IntKind.max, IntKind.signed, IntKind.bits]; omega) (by omega)) rfl ?_ | refine WL.ev (Ev.quo rfl rfl (by omega)) rfl ?_
    refine WL.ev (Ev.sliceLn (((l).length / 2)) rfl rfl (by omega) (by omega)) rfl ?_
    refine WL.call hasF35 rfl rfl (ih _ (l.drop (l.length / 2)) _ (by rw [List.length_drop]; omega) ((hv0.keep0 hch).tail_ (by omega)) (hn.drop _)) fun v w2 h' => ?_
    obtain ⟨hNb, hC⟩ := h'
    have hlb := sortP_length (l.drop (l.length / 2))
    have hpb := sortP_perm (l.drop (l.length / 2))
    have hnb := (hn.drop (l.length / 2)).perm hpb.symm
    generalize hB : sortP (l.drop (l.length / 2)) = B at *
    rw [List.length_drop] at hlb
    obtain ⟨⟨ab, cb, rfl, hcapb, hrb⟩, hWb, hllb⟩ := hNb
    have hch := hch.ta hC
    have hra := hra.keep0 hC
    refine As rfl rfl ?_
    refine WL.nil (kr11 _ _ _ (kh10 _ _ _ ?_))
    refine CW.seq fun _ kh12 => ?_
    have hcr : Chg [] w2 w2 := Chg.refl _ _
    have hw2 := hch.size
    have hmA : mrg A B = sortP l := by rw [← hA, ← hB]; exact mrg_sorted (by rw [List.take_append_drop]) hn
    refine zR fun _ kr13 => ?_
    refine As rfl rfl ?_
    refine WL.nil (kr13 _ _ _ (kh12 _ _ _ ?_))
    refine Sq fun _ kh14 _ kr15 => ?_
    refine As rfl rfl ?_
    refine WL.nil (kr15 _ _ _ (kh14 _ _ _ ?_))
    refine Sq fun _ kh16 _ kr17 => ?_
    refine As rfl rfl ?_
    refine WL.nil (kr17 _ _ _ (kh16 _ _ _ ?_))
    refine CW.seq fun _ kh18 => ?_
    refine CW.block ?_
    refine CW.loop (S := fun g : Nat × Nat × Value × List Nat => [(3, .slice aa A.length ca), (4, .slice ab B.length cb), (5, g.2.2.1), (6, .int .i64 (g.1 : Int)), (7, .int .i64 (g.2.1 : Int))]) (Inv := KMg A B l w w2) (mu := fun g => A.length + B.length - (g.1 + g.2.1)) ((0, 0, .slice none 0 0, [])) ?_ ?_ ?_
    ·
      exact ⟨Nat.zero_le _, Nat.zero_le _, rfl, rfl, GR.nil, hch, hcr⟩
    ·
      exact SLp
    ·
      rintro ⟨i, k, vo, o⟩ wr ⟨hi, hk, hlen, hm, hgo, hch, hcr⟩
      dsimp only at hi hk hlen hm hgo hch hcr
      dsimp only
      refine CW.seq fun _ kh19 => ?_
      refine CW.seqM 35 (decide (i < A.length ∨ k < B.length)) ?_ ?_
      ·
        refine zR fun _ kr20 => ?_
        refine Mv rfl rfl ?_
        refine Mv rfl rfl ?_
        refine WL.ev (Ev.len rfl) rfl ?_
        refine WL.ev (Ev.lss rfl rfl) rfl ?_
        refine Mv rfl rfl ?_
        refine zb (fun hg2 => ?_) fun hg2 => ?_
        ·
          (try simp only [qs] at hg2)
          refine WL.pass rfl rfl rfl rfl rfl ?_
          refine WL.pass rfl rfl rfl rfl rfl ?_
          refine WL.pass rfl rfl rfl rfl rfl ?_
          refine WL.pass rfl rfl rfl rfl rfl ?_
          refine WL.ev (Ev.pickT rfl rfl rfl) rfl ?_
          refine WL.nil (kr20 _ _ _ ?_)
          refine ⟨rfl, rfl, Subs.consB rfl ?_ ?_⟩
          ·
            first | (simp; omega) | (simp_all; done) | (refine decide_eq_decide.2 ?_; omega)
          ·
            exact SMg
        ·
          (try simp only [qs] at hg2)
          refine WL.want rfl rfl rfl rfl ?_
          refine Mv rfl rfl ?_
          refine WL.want rfl rfl rfl rfl ?_
          refine Mv rfl rfl ?_
          refine WL.want rfl rfl rfl rfl ?_
          refine WL.ev (Ev.len rfl) rfl ?_
          refine WL.want rfl rfl rfl rfl ?_
          refine WL.ev (Ev.lss rfl rfl) rfl ?_
          refine WL.ev (Ev.pickF rfl rfl rfl) rfl ?_
          refine WL.nil (kr20 _ _ _ ?_)
          refine ⟨rfl, rfl, Subs.consB rfl ?_ ?_⟩
          ·
            first | (simp; omega) | (simp_all; done) | (refine decide_eq_decide.2 ?_; omega)
          ·
            exact SMg
      ·
        refine zy rfl (fun hc3 => ?_) fun hc3 => ?_
        ·
          (try simp only [qs] at hc3)
          have hgo_ : i < A.length ∨ k < B.length := hc3
          refine zkk ?_
          refine kh19 _ _ _ ?_
          refine CW.block ?_
          refine CW.seqMD 57 (decide (k = B.length ∨ (i < A.length ∧ key (A.getD i 0) ≤ key (B.getD k 0)))) ?_ ?_
          ·
            refine CW.regionSC hmix (by kernel_rfl) fun kR21 kr21 hdr => ?_
            have hch := hch.ta hdr
            have hcr := hcr.ta hdr
            have hgo := hgo.keep0 hdr
            refine WS.ev (Ev.move rfl) rfl ?_
            refine WS.ev (Ev.move rfl) rfl ?_
            refine WS.ev (Ev.len rfl) rfl ?_
            refine WS.ev (Ev.eql rfl rfl) rfl ?_
            refine WS.ev (Ev.move rfl) rfl ?_
            refine WS.boolCase (fun hg4 => ?_) (fun hg4 => ?_)
            ·
              (try simp only [qs] at hg4)
              refine WS.pass rfl rfl rfl rfl rfl ?_
              refine WS.pass rfl rfl rfl rfl rfl ?_
              refine WS.pass rfl rfl rfl rfl rfl ?_
              refine WS.pass rfl rfl rfl rfl rfl ?_
              refine WS.pass rfl rfl rfl rfl rfl ?_
              refine WS.passU rfl rfl rfl rfl ?_
              refine WS.passU rfl rfl rfl rfl ?_
              refine WS.passU rfl rfl rfl rfl ?_
              refine WS.passU rfl rfl rfl rfl ?_
              refine WS.passU rfl rfl rfl rfl ?_
              refine WS.passU rfl rfl rfl rfl ?_
              refine WS.passU rfl rfl rfl rfl ?_
              refine WS.passU rfl rfl rfl rfl ?_
              refine WS.passU rfl rfl rfl rfl ?_
              refine WS.passU rfl rfl rfl rfl ?_
              refine WS.pass rfl rfl rfl rfl rfl ?_
              refine WS.ev (Ev.pickT rfl rfl rfl) rfl ?_
              refine WS.nil (kr21 _ _ ?_)
              refine ⟨rfl, rfl, Subs.consB rfl ?_ ?_⟩
              ·
                first | (simp; omega) | (simp_all; done) | (refine decide_eq_decide.2 ?_; omega)
              ·
                exact SMg
            ·
              (try simp only [qs] at hg4)
              have hkB : k < B.length := by have := hg4; omega
              refine WS.want rfl rfl rfl rfl ?_
              refine WS.ev (Ev.move rfl) rfl ?_
              refine WS.want rfl rfl rfl rfl ?_
              refine WS.ev (Ev.move rfl) rfl ?_
              refine WS.want rfl rfl rfl rfl ?_
              refine WS.ev (Ev.len rfl) rfl ?_
              refine WS.want rfl rfl rfl rfl ?_
              refine WS.ev (Ev.lss rfl rfl) rfl ?_
              refine WS.want rfl rfl rfl rfl ?_
              refine WS.ev (Ev.move rfl) rfl ?_
              refine WS.boolCase (fun hg5 => ?_) (fun hg5 => ?_)
              ·
                (try simp only [qs] at hg5)
                have hiA : i < A.length := by have := hg5; omega
                have hx := hna.getD hiA
                have hy := hnb.getD hkB
                refine WS.want rfl rfl rfl rfl ?_
                refine WS.ev (Ev.move rfl) rfl ?_
                refine WS.want rfl rfl rfl rfl ?_
                refine WS.ev (Ev.move rfl) rfl ?_
                refine WS.want rfl rfl rfl rfl ?_
                refine WS.ev (Ev.ixR (i) rfl rfl (hra.keep0 hcr) (by omega) (by omega) (by simp; omega)) rfl ?_
                refine WS.want rfl rfl rfl rfl ?_
                refine WS.ev (Ev.load rfl rfl ((hra.keep0 hcr).f64 (by first | omega | (simp; omega)))) rfl ?_
                refine WS.want rfl rfl rfl rfl ?_
                refine WS.ev (Ev.move rfl) rfl ?_
                refine WS.want rfl rfl rfl rfl ?_
                refine WS.ev (Ev.move rfl) rfl ?_
                refine WS.want rfl rfl rfl rfl ?_
                refine WS.ev (Ev.ixR (k) rfl rfl (hrb.keep0 hcr) (by omega) (by omega) (by simp; omega)) rfl ?_
                refine WS.want rfl rfl rfl rfl ?_
                refine WS.ev (Ev.load rfl rfl ((hrb.keep0 hcr).f64 (by first | omega | (simp; omega)))) rfl ?_
                refine WS.want rfl rfl rfl rfl ?_
                refine WS.call hasF58 rfl rfl (steelyardref01_Order_spec (A.getD i 0) (B.getD k 0) hx.1 hy.1 _) ?_
                refine WS.want rfl rfl rfl rfl ?_
                refine WS.ev (Ev.leq rfl rfl) rfl ?_
                rw [place_key hx.2, place_key hy.2, show decide (cmpI (key (A.getD i 0)) (key (B.getD k 0)) ≤ 0) = decide (key (A.getD i 0) ≤ key (B.getD k 0)) from decide_eq_decide.2 (cmp_le _ _)]
                refine WS.want rfl rfl rfl rfl ?_
                refine WS.ev (Ev.pickT rfl rfl rfl) rfl ?_
                refine WS.ev (Ev.pickF rfl rfl rfl) rfl ?_
                refine WS.nil (kr21 _ _ ?_)
                refine ⟨rfl, rfl, Subs.consB rfl ?_ ?_⟩
                ·
                  first | (simp; omega) | (simp_all; done) | (refine decide_eq_decide.2 ?_; omega)
                ·
                  exact SMg
              ·
                (try simp only [qs] at hg5)
                refine WS.pass rfl rfl rfl rfl rfl ?_
                refine WS.pass rfl rfl rfl rfl rfl ?_
                refine WS.pass rfl rfl rfl rfl rfl ?_
                refine WS.pass rfl rfl rfl rfl rfl ?_
                refine WS.pass rfl rfl rfl rfl rfl ?_
                refine WS.pass rfl rfl rfl rfl rfl ?_
                refine WS.pass rfl rfl rfl rfl rfl ?_
                refine WS.pass rfl rfl rfl rfl rfl ?_
                refine WS.pass rfl rfl rfl rfl rfl ?_
                refine WS.pass rfl rfl rfl rfl rfl ?_
                refine WS.want rfl rfl rfl rfl ?_
                refine WS.ev (Ev.pickF rfl rfl rfl) rfl ?_
                refine WS.ev (Ev.pickF rfl rfl rfl) rfl ?_
                refine WS.nil (kr21 _ _ ?_)
                refine ⟨rfl, rfl, Subs.consB rfl ?_ ?_⟩
                ·
                  first | (simp; omega) | (simp_all; done) | (refine decide_eq_decide.2 ?_; omega)
                ·
                  exact SMg
          ·
            intro hdr
            have hch := hch.ta hdr
            have hcr := hcr.ta hdr
            have hgo := hgo.keep0 hdr
            refine zy rfl (fun hc6 => ?_) fun hc6 => ?_
            ·
              (try simp only [qs] at hc6)
              have hcc : k = B.length ∨ (i < A.length ∧ key (A.getD i 0) ≤ key (B.getD k 0)) := hc6
              have hiA : i < A.length := by omega
              have hst := mrg_left hiA hk (hcc.imp id And.right)
              refine Sq fun _ kh22 _ kr23 => ?_
              refine Mv rfl rfl ?_
              refine Mv rfl rfl ?_
              refine Mv rfl rfl ?_
              refine WL.ev (Ev.ixR (i) rfl rfl (hra.keep0 hcr) (by omega) (by omega) (by simp; omega)) rfl ?_
              refine WL.ev (Ev.load rfl rfl ((hra.keep0 hcr).f64 (by first | omega | (simp; omega)))) rfl ?_
              refine WL.buildSlice (m := 1) (cs := [f64v (A.getD i 0)]) (by decide) (by decide) rfl (by kernel_rfl) rfl fun b63 w63 hn63 => ?_
              have hcm63 := hn63.chg
              have hge63 := hn63.ge
              have hb63 : FB w63 b63 _ [A.getD i 0] := hn63.at_
              have hgehch63 := Nat.le_trans hch.size hge63
              have hch := hch.ta hcm63
              have hgehcr63 := Nat.le_trans hcr.size hge63
              have hcr := hcr.ta hcm63
              have hgo := hgo.keep0 hcm63
              refine WL.growR (f := f64v) (lo := w2.heap.size) (X := []) (l := o) (news := [A.getD i 0]) (by rfl) (fun i => rfl) rfl rfl hgo (by first | rfl | (simp; done) | (simp; omega) | omega) hb63.row (by first | omega | exact hch.size | exact hcr.size | exact Nat.le_refl _) (by simp) (by simp only [List.length_append, List.length_cons, List.length_nil]; omega) (by simp only [List.length_append, List.length_cons, List.length_nil]; omega) rfl fun v64 w64 hg64 hcg64 => ?_
              have hch := GR.frame hgo hcg64 hch (by first | omega | exact Nat.le_refl _)
              have hcr := GR.frame hgo hcg64 hcr (by first | omega | exact Nat.le_refl _)
              have hgo := hg64
              refine As rfl rfl ?_
              refine WL.nil (kr23 _ _ _ (kh22 _ _ _ ?_))
              refine zR fun _ kr24 => ?_
              refine Mv rfl rfl ?_
              (first | refine zi rfl rfl ?_ | refine zo rfl rfl ?_)
              refine As rfl rfl ?_
              refine WL.nil (kr24 _ _ _ ?_)
              refine ⟨rfl, (i + 1, k, v64, o ++ [A.getD i 0]), ?_, ?_, ?_⟩
              ·
                exact SLp
              ·
                exact ⟨by dsimp only; omega, hk, by dsimp only; rw [List.length_append, hlen]; simp; omega, by dsimp only; rw [List.append_assoc, List.singleton_append, ← hst]; exact hm, hgo, hch, hcr⟩
              ·
                show A.length + B.length - (i + 1 + k) < A.length + B.length - (i + k); omega
            ·
              (try simp only [qs] at hc6)
              have hcc : ¬ (k = B.length ∨ (i < A.length ∧ key (A.getD i 0) ≤ key (B.getD k 0))) := hc6
              have hkB : k < B.length := by omega
              have hst := mrg_right hkB hi (by by_cases q : i = A.length; exact .inl q; exact .inr fun q2 => hcc (.inr ⟨by omega, q2⟩))
              refine Sq fun _ kh25 _ kr26 => ?_
              refine Mv rfl rfl ?_
              refine Mv rfl rfl ?_
              refine Mv rfl rfl ?_
              refine WL.ev (Ev.ixR (k) rfl rfl (hrb.keep0 hcr) (by omega) (by omega) (by simp; omega)) rfl ?_
              refine WL.ev (Ev.load rfl rfl ((hrb.keep0 hcr).f64 (by first | omega | (simp; omega)))) rfl ?_
              refine WL.buildSlice (m := 1) (cs := [f64v (B.getD k 0)]) (by decide) (by decide) rfl (by kernel_rfl) rfl fun b72 w72 hn72 => ?_
              have hcm72 := hn72.chg
              have hge72 := hn72.ge
              have hb72 : FB w72 b72 _ [B.getD k 0] := hn72.at_
              have hgehch72 := Nat.le_trans hch.size hge72
              have hch := hch.ta hcm72
              have hgehcr72 := Nat.le_trans hcr.size hge72
              have hcr := hcr.ta hcm72
              have hgo := hgo.keep0 hcm72
              refine WL.growR (f := f64v) (lo := w2.heap.size) (X := []) (l := o) (news := [B.getD k 0]) (by rfl) (fun i => rfl) rfl rfl hgo (by first | rfl | (simp; done) | (simp; omega) | omega) hb72.row (by first | omega | exact hch.size | exact hcr.size | exact Nat.le_refl _) (by simp) (by simp only [List.length_append, List.length_cons, List.length_nil]; omega) (by simp only [List.length_append, List.length_cons, List.length_nil]; omega) rfl fun v73 w73 hg73 hcg73 => ?_
              have hch := GR.frame hgo hcg73 hch (by first | omega | exact Nat.le_refl _)
              have hcr := GR.frame hgo hcg73 hcr (by first | omega | exact Nat.le_refl _)
              have hgo := hg73
              refine As rfl rfl ?_
              refine WL.nil (kr26 _ _ _ (kh25 _ _ _ ?_))
              refine zR fun _ kr27 => ?_
              refine Mv rfl rfl ?_
              (first | refine zi rfl rfl ?_ | refine zo rfl rfl ?_)
              refine As rfl rfl ?_
              refine WL.nil (kr27 _ _ _ ?_)
              refine ⟨rfl, (i, k + 1, v73, o ++ [B.getD k 0]), ?_, ?_, ?_⟩
              ·
                exact SLp
              ·
                exact ⟨hi, by dsimp only; omega, by dsimp only; rw [List.length_append, hlen]; simp; omega, by dsimp only; rw [List.append_assoc, List.singleton_append, ← hst]; exact hm, hgo, hch, hcr⟩
              ·
                show A.length + B.length - (i + (k + 1)) < A.length + B.length - (i + k); omega
        ·
          (try simp only [qs] at hc3)
          have hiX : i = A.length := by omega
          have hkX : k = B.length := by omega
          subst hiX
          subst hkX
          rw [List.drop_length, List.drop_length] at hm
          have ho : o = sortP l := by rw [← hmA, ← hm]; simp [mrg]
          refine CW.exit ?_
          refine kh18 _ _ _ ?_
          refine Sq fun _ kh28 _ kr29 => ?_
          refine Mv rfl rfl ?_
          refine As rfl rfl ?_
          refine WL.nil (kr29 _ _ _ (kh28 _ _ _ ?_))
          refine zr ?_
          refine zr1 rfl rfl ?_
          subst ho
          exact ⟨hgo.nf (fun x hx => hWl x ((sortP_perm l).mem_iff.1 hx)) (by rw [sortP_length]; exact hll), hch⟩

theorem r13Sorted_spec (v : Value) (l : List Nat) (w : World) (hlm : l.length ≤ 1000000) (hv : NF w v l) (hn : Nums l) : Ret Tryz.prog 35 [v] w fun u w' => NF w' u (sortP l) ∧ Chg [] w w' := by
 have key : ∀ m, ∀ (v : Value) (l : List Nat) (w : World), l.length ≤ m → l.length ≤ 1000000 → NF w v l → Nums l → Ret Tryz.prog 35 [v] w fun u w' => NF w' u (sortP l) ∧ Chg [] w w' := by
  intro m
  induction m with
  | zero => intro v l w h0 hm hv hn; exact r13SortedStep v l w hm hv hn fun v l2 w h => by omega
  | succ m ih => intro v l w h0 hm hv hn; exact r13SortedStep v l w hm hv hn fun v l2 w h hv2 hn2 => ih v l2 w (by omega) (by omega) hv2 hn2
 exact key l.length v l w (Nat.le_refl _) hlm hv hn

end

/- Reference of layer 16: Refused, At, Quantile. No condition. -/
section
open Go Sx Wd Fl

theorem r16Refused_spec (v : Value) (l : List Nat) (w : World) (hv : NF w v l) : Ret Tryz.prog 33 [v] w fun u w' => u = .int .i64 (refuseE l) ∧ Chg [] w w' := by
 have hv0 := hv;obtain ⟨⟨al, cl, rfl, hcapl, hrl⟩, hWl, hll⟩ := hv;have hch : Chg [] w w := Chg.refl _ _;refine Ret.enter Tryz.func33 rfl rfl ?_;simp only [args0, Nat.zero_add, Nat.reduceAdd];refine Sr fun _ kh1 => za rfl (zz (kh1 (zc fun _ kh3 => Sr fun _ kh4 => zm rfl (zn rfl ?_))));refine WL.ev (Ev.gtr rfl rfl) rfl ?_;refine zz (kh4 ?_);refine zy rfl (fun hc1 => ?_) fun hc1 => ?_
 ·
  (try simp only [qs] at hc1);have hlong : 65536 < l.length := by omega
  refine Sr fun _ kh6 => za rfl (zz (kh6 ?_));refine zr ?_;refine zr1 rfl rfl ?_;refine ⟨?_, hch⟩;unfold refuseE;rw [if_pos hlong]
 ·
  (try simp only [qs] at hc1);have hlong : ¬ 65536 < l.length := by omega
  refine zkk ?_;refine kh3 (zc fun _ kh8 => Sr fun _ kh9 => za rfl (zz (kh9 ?_)));refine CW.block ?_;refine CW.loop (S := fun i : Nat => [(0, .slice al l.length cl), (3, .int .i64 (i : Int))]) (Inv := KRf l w) (mu := fun i => l.length - i) (0) ?_ ?_ ?_
  ·
   exact ⟨Nat.zero_le _, fun x hx => (by simp at hx), hch⟩
  ·
   exact SLp
  ·
   rintro i wr ⟨hi, hf, hch⟩;refine zc fun _ kh11 => Sr fun _ kh12 => zm rfl (zm rfl (zn rfl ?_));refine WL.ev (Ev.lss rfl rfl) rfl ?_;refine zz (kh12 ?_);refine zy rfl (fun hc2 => ?_) fun hc2 => ?_
   ·
    (try simp only [qs] at hc2);have hx := D_getD hWl i
    refine zkk ?_;refine kh11 (zc fun _ kh14 => ?_);refine CW.block ?_;refine Sr fun _ kh15 => zm rfl (zm rfl ?_);refine WL.ev (Ev.ixR (i) rfl rfl (hrl.keep0 hch) (by omega) (by omega) (by simp; omega)) rfl ?_;refine WL.ev (Ev.load rfl rfl ((hrl.keep0 hch).f64 (by first | omega | (simp; omega)))) rfl ?_;refine WL.call hasF37 rfl rfl (r1Class_spec (l.getD i 0) _ hx) fun v w1 h' => ?_;obtain ⟨rfl, hC⟩ := h';have hch := hch.ta hC;refine WL.ev (Ev.gtr rfl rfl) rfl ?_;refine zz (kh15 ?_);refine zy rfl (fun hc3 => ?_) fun hc3 => ?_
    ·
     (try simp only [qs] at hc3);have hnf : ¬ finL l := fun q => by have := finL_getD2 q (i := i) (by omega); omega
     refine Sr fun _ kh17 => za rfl (zz (kh17 ?_));refine zr ?_;refine zr1 rfl rfl ?_;refine ⟨?_, hch⟩;unfold refuseE;rw [if_neg hlong, if_pos hnf]
    ·
     (try simp only [qs] at hc3);refine zkk ?_
     refine kh14 ?_;refine zR fun _ kr19 => ?_;refine zm rfl ?_;(first | refine zi rfl rfl ?_ | refine zo rfl rfl ?_);refine za rfl ?_;refine WL.nil (kr19 _ _ _ ?_);refine ⟨rfl, i + 1, ?_, ?_, ?_⟩
     ·
      exact SLp
     ·
      exact ⟨by omega, (finL_step (by omega)).2 ⟨hf, by omega⟩, hch⟩
     ·
      show l.length - (i + 1) < l.length - i; omega
   ·
    (try simp only [qs] at hc2);have hiX : i = l.length := by omega
    subst hiX;rw [List.take_length] at hf;refine CW.exit ?_;refine kh8 (zc fun _ kh20 => Sr fun _ kh21 => zm rfl (zn rfl (zq rfl rfl (zz (kh21 ?_)))));refine zy rfl (fun hc4 => ?_) fun hc4 => ?_
    ·
     (try simp only [qs] at hc4);have h0 : l = [] := List.length_eq_zero_iff.1 (by omega);refine Sr fun _ kh23 => za rfl (zz (kh23 ?_));refine zr ?_
     refine zr1 rfl rfl ?_;refine ⟨?_, hch⟩;unfold refuseE;rw [if_neg hlong, if_neg (fun q => q hf), if_pos h0]
    ·
     (try simp only [qs] at hc4);have h0 : l ≠ [] := fun q => by rw [q] at hc4; exact hc4 rfl
     refine zkk ?_;refine kh20 (Sr fun _ kh25 => za rfl (zz (kh25 ?_)));refine zr ?_;refine zr1 rfl rfl ?_;refine ⟨?_, hch⟩;unfold refuseE;rw [if_neg hlong, if_neg (fun q => q hf), if_neg h0]

theorem r16one_spec (x : Nat) (w : World) : Ret Tryz.prog 55 [.float .f64 x] w fun u w' => u = .tuple [.float .f64 x, .int .i64 0].toArray ∧ w = w' := by
 refine Ret.enter Tryz.func55 rfl rfl ?_;simp only [args0, Nat.zero_add, Nat.reduceAdd];refine Sr fun _ kh1 => za rfl (za rfl (zz (kh1 (Sr fun _ kh3 => zm rfl (za rfl (za rfl (zz (kh3 ?_))))))));refine zr ?_;refine zr2 rfl rfl rfl ?_;exact ⟨rfl, rfl⟩

theorem r16At_spec (v : Value) (s : List Nat) (num den : Nat) (rule mode : Int) (w : World) (hv : NF w v s) (hs : Row s) (hl : s.length ≤ 65536) (hn : num ≤ den) (hd : 1 ≤ den ∧ den ≤ 2147483648) (hru : 0 ≤ rule ∧ rule ≤ 4) : Ret Tryz.prog 34 [v, .int .i64 (num : Int), .int .i64 (den : Int), .int .i64 rule, .int .i64 mode] w fun u w' => (∃ bits e, u = .tuple [.float .f64 bits, .int .i64 e].toArray ∧ atR s num den rule mode bits e) ∧ Chg [] w w' := by
 have hv0 := hv;obtain ⟨⟨al, cl, rfl, hcapl, hrl⟩, hWl, hll⟩ := hv;have hch : Chg [] w w := Chg.refl _ _;have hpos := hs.pos;obtain ⟨p1, p2⟩ := place_lt (m := s.length - 1) (num := num) hd.1 hn;have hplb : (s.length - 1) * num ≤ 65536 * 2147483648 := Nat.mul_le_mul (by omega) (by omega);generalize hpl : (s.length - 1) * num = pl at *;have hpl := hpl.symm;refine Ret.enter Tryz.func34 rfl rfl ?_;simp only [args0, Nat.zero_add, Nat.reduceAdd];refine Sr fun _ kh1 => za rfl (za rfl (zz (kh1 (Sr fun _ kh3 => zm rfl (zn rfl ?_)))));refine WL.ev (Ev.subIn rfl rfl (by omega)) rfl ?_;rw [show ((s.length : Nat) : Int) - 1 = ((s.length - 1 : Nat) : Int) by omega];refine zm rfl ?_;refine WL.ev (Ev.mulIn rfl rfl (by rw [← Int.natCast_mul, ← hpl]; omega)) rfl ?_;rw [← Int.natCast_mul, ← hpl];refine za rfl (zz (kh3 (Sr fun _ kh5 => zm rfl (zm rfl ?_))));refine WL.ev (Ev.quoIn rfl rfl (by omega) (by simp only [IntKind.max, IntKind.signed, IntKind.bits]; omega) (by omega)) rfl ?_;rw [show (pl : Int) / (den : Int) = ((pl / den : Nat) : Int) from rfl];refine za rfl (zz (kh5 (Sr fun _ kh7 => zm rfl (zm rfl ?_))));refine WL.ev (Ev.remIn rfl rfl (by omega) (by omega)) rfl ?_;rw [show (pl : Int) % (den : Int) = ((pl % den : Nat) : Int) from rfl];have hm1 := Nat.mod_lt pl (show den > 0 by omega);generalize hi : pl / den = i at *;generalize hr : pl % den = r at *;have hx := lt_getD2 hWl i;have hfx := finL_getD2 hs.fin (i := i) (by omega);refine za rfl (zz (kh7 (zc fun _ kh9 => Sr fun _ kh10 => zm rfl (zq rfl rfl (zz (kh10 ?_))))));refine zy rfl (fun hc1 => ?_) fun hc1 => ?_
 ·
  (try simp only [qs] at hc1);have hr0 : r = 0 := by omega
  refine Sr fun _ kh12 => zm rfl (zm rfl ?_);refine WL.ev (Ev.ixR (i) rfl rfl (hrl.keep0 hch) (by omega) (by omega) (by simp; omega)) rfl ?_;refine WL.ev (Ev.load rfl rfl ((hrl.keep0 hch).f64 (by first | omega | (simp; omega)))) rfl ?_;refine WL.call hasF55 rfl rfl (r16one_spec _ _) fun v w1 h' => ?_;obtain ⟨rfl, rfl⟩ := h';refine zx rfl rfl (zx rfl rfl (za rfl (za rfl (zz (kh12 ?_)))));refine zr ?_;refine zr2 rfl rfl rfl ?_;refine ⟨⟨_, _, rfl, ?_⟩, hch⟩;unfold atR;rw [← hpl, hi, hr, if_pos (.inl hr0)];exact ⟨rfl, rfl⟩
 ·
  (try simp only [qs] at hc1);have hr0 : r ≠ 0 := by omega
  have hi2 := p2 hr0;have hy := lt_getD2 hWl (i + 1);have hfy := finL_getD2 hs.fin (i := i + 1) (by omega);refine zkk ?_;refine kh9 (zc fun _ kh14 => Sr fun _ kh15 => zm rfl (zz (kh15 ?_)));refine CW.block ?_;refine Sr fun _ kh17 => zq rfl rfl (za rfl (zz (kh17 ?_)));refine zy rfl (fun hc2 => ?_) fun hc2 => ?_
  ·
   (try simp only [qs] at hc2);have h0 : rule = 0 := by simpa using hc2
   refine Sr fun _ kh19 => zm rfl (zm rfl ?_);refine WL.ev (Ev.ixR (i) rfl rfl (hrl.keep0 hch) (by omega) (by omega) (by simp; omega)) rfl ?_;refine WL.ev (Ev.load rfl rfl ((hrl.keep0 hch).f64 (by first | omega | (simp; omega)))) rfl ?_;refine WL.call hasF55 rfl rfl (r16one_spec _ _) fun v w2 h' => ?_;obtain ⟨rfl, rfl⟩ := h';refine zx rfl rfl (zx rfl rfl (za rfl (za rfl (zz (kh19 ?_)))));refine zr ?_;refine zr2 rfl rfl rfl ?_;refine ⟨⟨_, _, rfl, ?_⟩, hch⟩;unfold atR;rw [← hpl, hi, hr, if_pos (.inr h0)];exact ⟨rfl, rfl⟩
  ·
   (try simp only [qs] at hc2);have h0 : ¬ rule = 0 := by simpa using hc2
   have hq : ¬ (r = 0 ∨ rule = 0) := by omega
   refine Sr fun _ kh21 => zq rfl rfl (za rfl (zz (kh21 ?_)));refine zy rfl (fun hc3 => ?_) fun hc3 => ?_
   ·
    (try simp only [qs] at hc3);have h1 : rule = 1 := by simpa using hc3
    have h3 : ¬ rule = 3 := by omega
    have h4 : ¬ rule = 4 := by omega
    refine Sr fun _ kh23 => zm rfl (zm rfl ?_);(first | refine zi rfl rfl ?_ | refine zo rfl rfl ?_);refine WL.ev (Ev.ixR ((i + 1)) rfl rfl (hrl.keep0 hch) (by omega) (by omega) (by simp; omega)) rfl ?_;refine WL.ev (Ev.load rfl rfl ((hrl.keep0 hch).f64 (by first | omega | (simp; omega)))) rfl ?_;refine WL.call hasF55 rfl rfl (r16one_spec _ _) fun v w3 h' => ?_;obtain ⟨rfl, rfl⟩ := h';refine zx rfl rfl (zx rfl rfl (za rfl (za rfl (zz (kh23 ?_)))));refine zr ?_;refine zr2 rfl rfl rfl ?_;refine ⟨⟨_, _, rfl, ?_⟩, hch⟩;unfold atR;rw [← hpl, hi, hr, if_neg hq, if_neg h3, if_neg h4, if_neg (by omega)];exact ⟨rfl, rfl⟩
   ·
    (try simp only [qs] at hc3);have h1 : ¬ rule = 1 := by simpa using hc3
    refine Sr fun _ kh25 => zq rfl rfl (za rfl (zz (kh25 ?_)));refine zy rfl (fun hc4 => ?_) fun hc4 => ?_
    ·
     (try simp only [qs] at hc4);have h3 : rule = 3 := by simpa using hc4
     refine zc fun _ kh27 => ?_;refine CW.regionHC 15 rfl hmix fun kR28 kr28 hS hdr => ?_;have hch := hch.ta hdr;have hch_r := hch;refine wh 0 rfl hS (fun _ _ => Ev.move rfl) (wh 1 rfl hS (fun _ _ => Ev.move rfl) (wh 2 rfl hS (fun _ hw' => Ev.ixR (i) rfl rfl (hrl.keep0 (hch_r.trans hw')) (by omega) (by omega) (by simp; omega)) (wh 3 rfl hS (fun _ hw' => Ev.load rfl rfl ((hrl.keep0 (hch_r.trans hw')).f64 (by first | omega | (simp; omega)))) (wh 4 rfl hS (fun _ _ => Ev.move rfl) (wh 5 rfl hS (fun _ _ => Ev.move rfl) (wh 6 rfl hS (fun _ _ => Ev.addIn rfl rfl (by omega)) (wh 7 rfl hS (fun _ hw' => Ev.ixR ((i + 1)) rfl rfl (hrl.keep0 (hch_r.trans hw')) (by omega) (by omega) (by simp; omega)) (wh 8 rfl hS (fun _ hw' => Ev.load rfl rfl ((hrl.keep0 (hch_r.trans hw')).f64 (by first | omega | (simp; omega)))) (wh 9 rfl hS (fun _ _ => Ev.move rfl) ?_)))))))));refine WH.oneCall 10 rfl (by kernel_rfl) hasF56 rfl rfl (r13Middle_spec (s.getD i 0) (s.getD (i + 1) 0) mode _ hx hy) fun v w4 h' => ?_;obtain ⟨⟨bits, e, rfl, hM⟩, hC⟩ := h';have hch := hch.ta hC;have hS := hS.trans hC;refine ⟨hS, ?_⟩;refine wh 11 rfl hS (fun _ _ => Ev.extract rfl rfl) (wh 12 rfl hS (fun _ _ => Ev.extract rfl rfl) (wh 13 rfl hS (fun _ _ => Ev.assign rfl) (wh 14 rfl hS (fun _ _ => Ev.assign rfl) ?_)));refine WH.done (by kernel_rfl) (kr28 _ _ _ ?_);refine kh27 ?_;refine zr ?_;refine zr2 rfl rfl rfl ?_;refine ⟨⟨_, _, rfl, ?_⟩, hch⟩;unfold atR;rw [← hpl, hi, hr, if_neg hq, if_pos h3];exact hM
    ·
     (try simp only [qs] at hc4);have h3 : ¬ rule = 3 := by simpa using hc4
     refine Sr fun _ kh29 => zq rfl rfl (za rfl (zz (kh29 ?_)));refine zy rfl (fun hc5 => ?_) fun hc5 => ?_
     ·
      (try simp only [qs] at hc5);have h4 : rule = 4 := by simpa using hc5
      refine zc fun _ kh31 => ?_;refine CW.regionHC 17 rfl hmix fun kR32 kr32 hS hdr => ?_;have hch := hch.ta hdr;have hch_r := hch;refine wh 0 rfl hS (fun _ _ => Ev.move rfl) (wh 1 rfl hS (fun _ _ => Ev.move rfl) (wh 2 rfl hS (fun _ hw' => Ev.ixR (i) rfl rfl (hrl.keep0 (hch_r.trans hw')) (by omega) (by omega) (by simp; omega)) (wh 3 rfl hS (fun _ hw' => Ev.load rfl rfl ((hrl.keep0 (hch_r.trans hw')).f64 (by first | omega | (simp; omega)))) (wh 4 rfl hS (fun _ _ => Ev.move rfl) (wh 5 rfl hS (fun _ _ => Ev.move rfl) (wh 6 rfl hS (fun _ _ => Ev.addIn rfl rfl (by omega)) (wh 7 rfl hS (fun _ hw' => Ev.ixR ((i + 1)) rfl rfl (hrl.keep0 (hch_r.trans hw')) (by omega) (by omega) (by simp; omega)) (wh 8 rfl hS (fun _ hw' => Ev.load rfl rfl ((hrl.keep0 (hch_r.trans hw')).f64 (by first | omega | (simp; omega)))) (wh 9 rfl hS (fun _ _ => Ev.move rfl) (wh 10 rfl hS (fun _ _ => Ev.move rfl) (wh 11 rfl hS (fun _ _ => Ev.move rfl) ?_)))))))))));refine WH.oneCall 12 rfl (by kernel_rfl) hasF57 rfl rfl (r16line_spec (s.getD i 0) (s.getD (i + 1) 0) r den mode _ hx hy hfx hfy (by omega) hm1 (by omega)) fun v w5 h' => ?_;obtain ⟨⟨bits, e, rfl, hM⟩, hC⟩ := h';have hch := hch.ta hC;have hS := hS.trans hC;refine ⟨hS, ?_⟩;refine wh 13 rfl hS (fun _ _ => Ev.extract rfl rfl) (wh 14 rfl hS (fun _ _ => Ev.extract rfl rfl) (wh 15 rfl hS (fun _ _ => Ev.assign rfl) (wh 16 rfl hS (fun _ _ => Ev.assign rfl) ?_)));refine WH.done (by kernel_rfl) (kr32 _ _ _ ?_);refine kh31 ?_;refine zr ?_;refine zr2 rfl rfl rfl ?_;refine ⟨⟨_, _, rfl, ?_⟩, hch⟩;unfold atR;rw [← hpl, hi, hr, if_neg hq, if_neg h3, if_pos h4];exact hM
     ·
      (try simp only [qs] at hc5);have h4 : ¬ rule = 4 := by simpa using hc5
      refine zkk ?_;refine kh14 (zc fun _ kh33 => ?_);refine CW.seqM 101 (decide (2 * r < den ∨ (2 * r = den ∧ i % 2 = 0))) ?_ ?_
      ·
       refine zR fun _ kr34 => ?_;refine zm rfl ?_;refine WL.ev (Ev.mulIn rfl rfl (by omega)) rfl ?_;refine zm rfl ?_;refine WL.ev (Ev.lss rfl rfl) rfl ?_;refine zm rfl ?_;refine zb (fun hg6 => ?_) fun hg6 => ?_
       ·
        (try simp only [qs] at hg6);refine zv rfl (zv rfl (zv rfl (zv rfl (zv rfl (zu rfl (zu rfl (zu rfl (zv rfl (zt rfl rfl ?_)))))))));refine WL.nil (kr34 _ _ _ ?_);refine ⟨rfl, rfl, Subs.consB rfl ?_ ?_⟩
        ·
         first | exact (decide_eq_true (by omega)).symm | exact (decide_eq_false (by omega)).symm | exact decide_eq_decide.2 (by omega)
        ·
         exact SMg
       ·
        (try simp only [qs] at hg6);refine zw rfl (zm rfl (zw rfl ?_));refine WL.ev (Ev.mulIn rfl rfl (by omega)) rfl ?_
        refine zw rfl (zm rfl (zw rfl (zq rfl rfl (zw rfl (zm rfl ?_)))));refine zb (fun hg7 => ?_) fun hg7 => ?_
        ·
         (try simp only [qs] at hg7);refine zw rfl (zm rfl (zw rfl ?_));refine WL.ev (Ev.remIn rfl rfl (by omega) (by omega)) rfl ?_
         refine zw rfl (zq rfl rfl (zw rfl (zt rfl rfl (ze rfl rfl ?_))));refine WL.nil (kr34 _ _ _ ?_);refine ⟨rfl, rfl, Subs.consB rfl ?_ ?_⟩
         ·
          first | exact (decide_eq_true (by omega)).symm | exact (decide_eq_false (by omega)).symm | exact decide_eq_decide.2 (by omega)
         ·
          exact SMg
        ·
         (try simp only [qs] at hg7);refine zv rfl (zv rfl (zv rfl (zw rfl (ze rfl rfl (ze rfl rfl ?_)))));refine WL.nil (kr34 _ _ _ ?_);refine ⟨rfl, rfl, Subs.consB rfl ?_ ?_⟩
         ·
          first | exact (decide_eq_true (by omega)).symm | exact (decide_eq_false (by omega)).symm | exact decide_eq_decide.2 (by omega)
         ·
          exact SMg
      ·
       refine zy rfl (fun hc8 => ?_) fun hc8 => ?_
       ·
        (try simp only [qs] at hc8);have hn : 2 * r < den ∨ (2 * r = den ∧ i % 2 = 0) := hc8
        refine Sr fun _ kh35 => zm rfl (zm rfl ?_);refine WL.ev (Ev.ixR (i) rfl rfl (hrl.keep0 hch) (by omega) (by omega) (by simp; omega)) rfl ?_;refine WL.ev (Ev.load rfl rfl ((hrl.keep0 hch).f64 (by first | omega | (simp; omega)))) rfl ?_;refine WL.call hasF55 rfl rfl (r16one_spec _ _) fun v w6 h' => ?_;obtain ⟨rfl, rfl⟩ := h';refine zx rfl rfl (zx rfl rfl (za rfl (za rfl (zz (kh35 ?_)))));refine zr ?_;refine zr2 rfl rfl rfl ?_;refine ⟨⟨_, _, rfl, ?_⟩, hch⟩;unfold atR;rw [← hpl, hi, hr, if_neg hq, if_neg h3, if_neg h4, if_pos ⟨by omega, hn⟩];exact ⟨rfl, rfl⟩
       ·
        (try simp only [qs] at hc8);have hn : ¬ (2 * r < den ∨ (2 * r = den ∧ i % 2 = 0)) := hc8
        refine zkk ?_;refine kh33 (Sr fun _ kh37 => zm rfl (zm rfl ?_));(first | refine zi rfl rfl ?_ | refine zo rfl rfl ?_);refine WL.ev (Ev.ixR ((i + 1)) rfl rfl (hrl.keep0 hch) (by omega) (by omega) (by simp; omega)) rfl ?_;refine WL.ev (Ev.load rfl rfl ((hrl.keep0 hch).f64 (by first | omega | (simp; omega)))) rfl ?_;refine WL.call hasF55 rfl rfl (r16one_spec _ _) fun v w7 h' => ?_;obtain ⟨rfl, rfl⟩ := h';refine zx rfl rfl (zx rfl rfl (za rfl (za rfl (zz (kh37 ?_)))));refine zr ?_;refine zr2 rfl rfl rfl ?_;refine ⟨⟨_, _, rfl, ?_⟩, hch⟩;unfold atR;rw [← hpl, hi, hr, if_neg hq, if_neg h3, if_neg h4, if_neg (fun z => hn z.2)];exact ⟨rfl, rfl⟩

end

/- Reference of layer 16: Quantile, Several. No condition. -/
section
open Go Sx Wd Fl

theorem r16Quantile_spec (v : Value) (l : List Nat) (num den rule mode : Int) (w : World) (hv : NF w v l) : Ret Tryz.prog 17 [v, .int .i64 num, .int .i64 den, .int .i64 rule, .int .i64 mode] w fun u w' => (∃ bits e, u = .tuple [.float .f64 bits, .int .i64 e].toArray ∧ quantR l num den rule mode bits e) ∧ Chg [] w w' := by
 have hWl := hv.hw;have hll := hv.len;have hov := hv.one;have hch : Chg [] w w := Chg.refl _ _;refine Ret.enter Tryz.func17 rfl rfl ?_;simp only [args0, Nat.zero_add, Nat.reduceAdd];refine Sr fun _ kh1 => za rfl (za rfl (zz (kh1 (zc fun _ kh3 => ?_))));refine CW.seqM 43 (decide (¬ askQ num den rule mode)) ?_ ?_
 ·
  refine zR fun _ kr4 => ?_;refine zm rfl ?_;refine WL.ev (Ev.lss rfl rfl) rfl ?_;refine zm rfl ?_;refine zb (fun hg1 => ?_) fun hg1 => ?_
  ·
   (try simp only [qs] at hg1);refine zv rfl (zv rfl (zt rfl rfl (zm rfl (zv rfl (zv rfl (zt rfl rfl (zm rfl (zv rfl (zv rfl (zt rfl rfl (zm rfl (zv rfl (zv rfl (zt rfl rfl (zm rfl (zv rfl (zv rfl (zv rfl (zt rfl rfl (zm rfl (zv rfl (zv rfl (zt rfl rfl ?_)))))))))))))))))))))));refine zm rfl (zv rfl (zv rfl (zt rfl rfl ?_)));refine WL.nil (kr4 _ _ _ ?_);refine ⟨rfl, rfl, Subs.consB rfl ?_ ?_⟩
   ·
    first | exact (decide_eq_true (by unfold askQ; omega)).symm | exact (decide_eq_false (by unfold askQ; omega)).symm | exact decide_eq_decide.2 (by unfold askQ; omega)
   ·
    exact SMg
  ·
   (try simp only [qs] at hg1);refine zw rfl (zm rfl (zw rfl ?_));refine WL.ev (Ev.gtr rfl rfl) rfl ?_
   refine ze rfl rfl (zm rfl ?_);refine zb (fun hg2 => ?_) fun hg2 => ?_
   ·
    (try simp only [qs] at hg2);refine zv rfl (zv rfl (zt rfl rfl (zm rfl (zv rfl (zv rfl (zt rfl rfl (zm rfl (zv rfl (zv rfl (zt rfl rfl (zm rfl (zv rfl (zv rfl (zv rfl (zt rfl rfl (zm rfl (zv rfl (zv rfl (zt rfl rfl (zm rfl (zv rfl (zv rfl (zt rfl rfl ?_)))))))))))))))))))))));refine WL.nil (kr4 _ _ _ ?_);refine ⟨rfl, rfl, Subs.consB rfl ?_ ?_⟩
    ·
     first | exact (decide_eq_true (by unfold askQ; omega)).symm | exact (decide_eq_false (by unfold askQ; omega)).symm | exact decide_eq_decide.2 (by unfold askQ; omega)
    ·
     exact SMg
   ·
    (try simp only [qs] at hg2);refine zw rfl (zm rfl (zw rfl ?_));refine WL.ev (Ev.lss rfl rfl) rfl ?_
    refine ze rfl rfl (zm rfl ?_);refine zb (fun hg3 => ?_) fun hg3 => ?_
    ·
     (try simp only [qs] at hg3);refine zv rfl (zv rfl (zt rfl rfl (zm rfl (zv rfl (zv rfl (zt rfl rfl (zm rfl (zv rfl (zv rfl (zv rfl (zt rfl rfl (zm rfl (zv rfl (zv rfl (zt rfl rfl (zm rfl (zv rfl (zv rfl (zt rfl rfl ?_)))))))))))))))))));refine WL.nil (kr4 _ _ _ ?_);refine ⟨rfl, rfl, Subs.consB rfl ?_ ?_⟩
     ·
      first | exact (decide_eq_true (by unfold askQ; omega)).symm | exact (decide_eq_false (by unfold askQ; omega)).symm | exact decide_eq_decide.2 (by unfold askQ; omega)
     ·
      exact SMg
    ·
     (try simp only [qs] at hg3);refine zw rfl (zm rfl (zw rfl ?_));refine WL.ev (Ev.gtr rfl rfl) rfl ?_
     refine ze rfl rfl (zm rfl ?_);refine zb (fun hg4 => ?_) fun hg4 => ?_
     ·
      (try simp only [qs] at hg4);refine zv rfl (zv rfl (zt rfl rfl (zm rfl (zv rfl (zv rfl (zv rfl (zt rfl rfl (zm rfl (zv rfl (zv rfl (zt rfl rfl (zm rfl (zv rfl (zv rfl (zt rfl rfl ?_)))))))))))))));refine WL.nil (kr4 _ _ _ ?_);refine ⟨rfl, rfl, Subs.consB rfl ?_ ?_⟩
      ·
       first | exact (decide_eq_true (by unfold askQ; omega)).symm | exact (decide_eq_false (by unfold askQ; omega)).symm | exact decide_eq_decide.2 (by unfold askQ; omega)
      ·
       exact SMg
     ·
      (try simp only [qs] at hg4);refine zw rfl (zm rfl (zw rfl ?_));refine WL.ev (Ev.lss rfl rfl) rfl ?_
      refine ze rfl rfl (zm rfl ?_);refine zb (fun hg5 => ?_) fun hg5 => ?_
      ·
       (try simp only [qs] at hg5);refine zv rfl (zv rfl (zv rfl (zt rfl rfl (zm rfl (zv rfl (zv rfl (zt rfl rfl (zm rfl (zv rfl (zv rfl (zt rfl rfl ?_)))))))))));refine WL.nil (kr4 _ _ _ ?_);refine ⟨rfl, rfl, Subs.consB rfl ?_ ?_⟩
       ·
        first | exact (decide_eq_true (by unfold askQ; omega)).symm | exact (decide_eq_false (by unfold askQ; omega)).symm | exact decide_eq_decide.2 (by unfold askQ; omega)
       ·
        exact SMg
      ·
       (try simp only [qs] at hg5);refine zw rfl (zm rfl (zw rfl (zm rfl (zw rfl ?_))));refine WL.ev (Ev.gtr rfl rfl) rfl ?_
       refine ze rfl rfl (zm rfl ?_);refine zb (fun hg6 => ?_) fun hg6 => ?_
       ·
        (try simp only [qs] at hg6);refine zv rfl (zv rfl (zt rfl rfl (zm rfl (zv rfl (zv rfl (zt rfl rfl ?_))))));refine WL.nil (kr4 _ _ _ ?_);refine ⟨rfl, rfl, Subs.consB rfl ?_ ?_⟩
        ·
         first | exact (decide_eq_true (by unfold askQ; omega)).symm | exact (decide_eq_false (by unfold askQ; omega)).symm | exact decide_eq_decide.2 (by unfold askQ; omega)
        ·
         exact SMg
       ·
        (try simp only [qs] at hg6);refine zw rfl (zm rfl (zw rfl ?_));refine WL.ev (Ev.lss rfl rfl) rfl ?_
        refine ze rfl rfl (zm rfl ?_);refine zb (fun hg7 => ?_) fun hg7 => ?_
        ·
         (try simp only [qs] at hg7);refine zv rfl (zv rfl (zt rfl rfl ?_));refine WL.nil (kr4 _ _ _ ?_);refine ⟨rfl, rfl, Subs.consB rfl ?_ ?_⟩
         ·
          first | exact (decide_eq_true (by unfold askQ; omega)).symm | exact (decide_eq_false (by unfold askQ; omega)).symm | exact decide_eq_decide.2 (by unfold askQ; omega)
         ·
          exact SMg
        ·
         (try simp only [qs] at hg7);refine zw rfl (zm rfl (zw rfl ?_));refine WL.ev (Ev.gtr rfl rfl) rfl ?_
         refine ze rfl rfl ?_;refine WL.nil (kr4 _ _ _ ?_);refine ⟨rfl, rfl, Subs.consB rfl ?_ ?_⟩
         ·
          first | exact (decide_eq_true (by unfold askQ; omega)).symm | exact (decide_eq_false (by unfold askQ; omega)).symm | exact decide_eq_decide.2 (by unfold askQ; omega)
         ·
          exact SMg
 ·
  refine zy rfl (fun hc8 => ?_) fun hc8 => ?_
  ·
   (try simp only [qs] at hc8);have hq : ¬ askQ num den rule mode := hc8
   refine Sr fun _ kh5 => ?_;refine WL.call hasF31 rfl rfl (r1Of_spec 0 _ (by omega)) fun v w1 h' => ?_;obtain ⟨rfl, rfl⟩ := h';refine za rfl (za rfl (zz (kh5 ?_)));refine zr ?_;refine zr2 rfl rfl rfl ?_;exact ⟨⟨_, _, rfl, .inl ⟨hq, rfl, rfl⟩⟩, hch⟩
  ·
   (try simp only [qs] at hc8);have hq : askQ num den rule mode := hc8
   obtain ⟨hm, hru, hde, hnu, hnd⟩ := id hq;obtain ⟨nn, rfl⟩ := Int.eq_ofNat_of_zero_le hnu;obtain ⟨dn, rfl⟩ := Int.eq_ofNat_of_zero_le (show 0 ≤ den by omega);refine zkk ?_;refine kh3 (Sr fun _ kh7 => zm rfl ?_);refine WL.call hasF33 rfl rfl (r16Refused_spec v l _ (hv.keep0 hch)) fun v w2 h' => ?_;obtain ⟨rfl, hC⟩ := h';have hch := hch.ta hC;refine za rfl (zz (kh7 (zc fun _ kh9 => Sr fun _ kh10 => zm rfl ?_)));refine WL.ev (Ev.neq rfl rfl) rfl ?_;refine zz (kh10 ?_);refine zy rfl (fun hc9 => ?_) fun hc9 => ?_
   ·
    (try simp only [qs] at hc9);have h0 : refuseE l ≠ 0 := hc9
    refine Sr fun _ kh12 => ?_;refine WL.call hasF31 rfl rfl (r1Of_spec 0 _ (by omega)) fun v w3 h' => ?_;obtain ⟨rfl, rfl⟩ := h';refine zm rfl (za rfl (za rfl (zz (kh12 ?_))));refine zr ?_;refine zr2 rfl rfl rfl ?_;exact ⟨⟨_, _, rfl, .inr ⟨hq, .inl ⟨h0, rfl, rfl⟩⟩⟩, hch⟩
   ·
    (try simp only [qs] at hc9);have h0 : refuseE l = 0 := hc9
    obtain ⟨hl6, hf, hne⟩ := refuse_ok h0;have hRow := Row.of hf hWl hne;have hsl := sortP_length l;have hsW := hRow.w;refine zkk ?_;refine kh9 (Sr fun _ kh14 => zm rfl ?_);refine WL.call hasF35 rfl rfl (r13Sorted_spec v l _ (by omega) (hv.keep0 hch) (finL_nums hf hWl)) fun v w4 h' => ?_;obtain ⟨hNs, hC⟩ := h';have hch := hch.ta hC;refine zm rfl (zm rfl (zm rfl (zm rfl ?_)));refine WL.call hasF34 rfl rfl (r16At_spec _ (sortP l) nn dn rule mode _ hNs hRow (by omega) (by omega) (by omega) hru) fun v w5 h' => ?_;obtain ⟨⟨bits, e, rfl, hA⟩, hC⟩ := h';have hch := hch.ta hC;refine zx rfl rfl (zx rfl rfl (za rfl (za rfl (zz (kh14 ?_)))));refine zr ?_;refine zr2 rfl rfl rfl ?_;exact ⟨⟨_, _, rfl, .inr ⟨hq, .inr ⟨h0, hA⟩⟩⟩, hch⟩

end

/- Reference of layer 1: lists that are lent. No condition. -/
section
open Go Sx Wd

theorem mark_at {l : List Nat} {i : Nat} (h1 : l.length ≤ i) (h2 : i < l.length + 8) : (l ++ List.replicate 8 4693671547643874799).getD i 0 = 4693671547643874799 := by
  rw [List.getD_eq_getElem?_getD, List.getElem?_append_right h1, List.getElem?_replicate, if_pos (by omega)]; rfl
theorem mark_in {l : List Nat} {i : Nat} (h1 : i < l.length) : (l ++ List.replicate 8 4693671547643874799).getD i 0 = l.getD i 0 := by
  rw [List.getD_eq_getElem?_getD, List.getElem?_append_left h1, ← List.getD_eq_getElem?_getD]
theorem mark_len (l : List Nat) : (l ++ List.replicate 8 4693671547643874799).length = l.length + 8 := by simp
theorem mark_lt {l : List Nat} (h : ∀ x ∈ l, x < 18446744073709551616) : ∀ x ∈ (l ++ List.replicate 8 4693671547643874799), x < 18446744073709551616 := fun x hx => by
  rcases List.mem_append.1 hx with q | q
  · exact h x q
  · rw [List.mem_replicate] at q; omega
theorem NF.lent {w : World} {b : Nat} {E : TypeId} {l R : List Nat} (h : FB w b E (l ++ R)) (hw : ∀ x ∈ l, x < 18446744073709551616) (hl : l.length ≤ 70368744177664) {c : Nat} (hc : l.length ≤ c) : NF w (.slice (some ⟨b, 0, none⟩) l.length c) l :=
  ⟨⟨_, c, rfl, hc, by have := h.row; rw [List.map_append] at this; exact this.append_left⟩, hw, hl⟩
structure KLe (l : List Nat) (b : Nat) (w0 : World) (g : Nat × List Nat) (w : World) : Prop where
  lo : l.length ≤ g.1
  hi : g.1 ≤ l.length + 8
  len : g.2.length = l.length + 8
  tk : g.2.take g.1 = (l ++ List.replicate 8 4693671547643874799).take g.1
  hB : FB w b 24 g.2
  ch : Chg [] w0 w
structure KAl (l : List Nat) (w0 : World) (i : Nat) (w : World) : Prop where
  hi : i ≤ l.length + 8
  ch : Chg [] w0 w

theorem r1Lent_spec (v : Value) (l : List Nat) (w : World) (hv : NF w v l) (hlm : l.length ≤ 17592186044415) : Ret Tryz.prog 15 [v] w fun u w' => ∃ b, u = .slice (some ⟨b, 0, none⟩) l.length (l.length + 8) ∧ FB w' b 24 (l ++ List.replicate 8 4693671547643874799) ∧ Chg [] w w' ∧ w.heap.size ≤ b := by
 obtain ⟨⟨al, cl, rfl, hcapl, hrl⟩, hWl, hll⟩ := hv;have hch : Chg [] w w := Chg.refl _ _;refine Ret.enter Tryz.func15 rfl rfl ?_;simp only [args0, Nat.zero_add, Nat.reduceAdd];refine Sr fun _ kh1 => za rfl (zz (kh1 (Sr fun _ kh3 => zm rfl (zn rfl ?_))));(first | refine zi rfl rfl ?_ | refine zo rfl rfl ?_);refine WL.makeF (((l).length + 8)) (((l).length + 8)) rfl rfl (by omega) (by omega) (by omega) (by omega) (by omega) rfl fun b8 wm8 hb8 hcm8 hge8 => ?_;have hgehch8 := Nat.le_trans hch.size hge8;have hch := hch.ta hcm8;refine za rfl (zz (kh3 (Sr fun _ kh5 => zm rfl (zm rfl ?_))));refine WL.copyF rfl rfl hb8 (hrl.keep0 hch) (by simp; try omega) (by simp; try omega) rfl fun ws20 hb8_ hcs20 => ?_;have hch := hch.s1 hcs20;have hb8 := hb8_;rw [show ((l).take (min ((l).length) (((l).length + 8))) ++ (List.replicate (((l).length + 8)) 0).drop (min ((l).length) (((l).length + 8)))) = (l ++ List.replicate 8 0) from by rw [show min l.length (l.length + 8) = l.length by omega, List.take_length, List.drop_replicate, show l.length + 8 - l.length = 8 by omega]] at hb8;refine zz (kh5 (zc fun _ kh7 => Sr fun _ kh8 => zm rfl (zn rfl (za rfl (zz (kh8 ?_))))));refine CW.block ?_;refine CW.loop (S := fun g : Nat × List Nat => [(0, .slice al l.length cl), (3, .slice (some ⟨b8, 0, none⟩) (l.length + 8) (l.length + 8)), (4, .int .i64 (g.1 : Int))]) (Inv := KLe l b8 w) (mu := fun g => l.length + 8 - g.1) ((l.length, l ++ List.replicate 8 0)) ?_ ?_ ?_
 ·
  exact ⟨Nat.le_refl _, by dsimp only; omega, by simp, by simp, hb8, hch⟩
 ·
  exact SLp
 ·
  rintro ⟨i, Lc⟩ wr ⟨hlo, hhi, hlen, htk, hb8, hch⟩;dsimp only at hlo hhi hlen htk hb8;dsimp only;refine zc fun _ kh10 => Sr fun _ kh11 => zm rfl (zm rfl (zn rfl ?_));refine WL.ev (Ev.lss rfl rfl) rfl ?_;refine zz (kh11 ?_);refine zy rfl (fun hc1 => ?_) fun hc1 => ?_
  ·
   (try simp only [qs] at hc1);refine zkk ?_
   refine kh10 (zc fun _ kh13 => ?_);refine CW.block ?_;refine zR fun _ kr14 => ?_;refine zm rfl (zm rfl ?_);refine WL.call hasF31 rfl rfl (r1Of_spec 4693671547643874799 _ (by omega)) fun v w1 h' => ?_;obtain ⟨rfl, rfl⟩ := h';refine WL.ev (Ev.ixB (i) rfl rfl (by omega) (by omega)) rfl ?_;refine WL.storeF rfl rfl hb8 (by first | omega | (simp; omega)) fun ws21 hb8_ hcs21 => ?_;have hch := hch.s1 hcs21;have hb8 := hb8_;refine WL.nil (kr14 _ _ _ (kh13 ?_));refine zR fun _ kr15 => ?_;refine zm rfl ?_;(first | refine zi rfl rfl ?_ | refine zo rfl rfl ?_);refine za rfl ?_;refine WL.nil (kr15 _ _ _ ?_);refine ⟨rfl, (i + 1, Lc.set i 4693671547643874799), ?_, ?_, ?_⟩
   ·
    exact SLp
   ·
    exact ⟨by dsimp only; omega, by dsimp only; omega, by dsimp only; rw [List.length_set, hlen], by dsimp only; rw [set_take (by omega), htk, take_step (by rw [mark_len]; omega), mark_at hlo (by omega)], hb8, hch⟩
   ·
    show l.length + 8 - (i + 1) < l.length + 8 - i; omega
  ·
   (try simp only [qs] at hc1);have hiX : i = l.length + 8 := by omega
   subst hiX;rw [← hlen, List.take_length, hlen, ← mark_len l, List.take_length] at htk;subst htk;refine CW.exit ?_;refine kh7 (Sr fun _ kh16 => zm rfl (zm rfl (zn rfl ?_)));refine WL.ev (Ev.sliceHn ((l).length) rfl rfl (by omega) (by omega)) rfl ?_;refine za rfl (zz (kh16 ?_));refine zr ?_;refine zr1 rfl rfl ?_;exact ⟨b8, rfl, hb8, hch, hgehch8⟩

theorem r1AsLentT_spec (b : Nat) (v : Value) (l T : List Nat) (w : World) (hB : FB w b 24 T) (hv : NF w v l) (hTl : T.length = l.length + 8) (hT1 : ∀ i, i < l.length → T.getD i 0 = l.getD i 0) (hT2 : ∀ i, l.length ≤ i → i < l.length + 8 → T.getD i 0 = 4693671547643874799) (hTw : ∀ i, T.getD i 0 < 18446744073709551616) : Ret Tryz.prog 16 [.slice (some ⟨b, 0, none⟩) l.length (l.length + 8), v] w fun u w' => u = .bool true ∧ Chg [] w w' := by
 obtain ⟨⟨al, cl, rfl, hcapl, hrl⟩, hWl, hll⟩ := hv;have hch : Chg [] w w := Chg.refl _ _;have hB0 := hB;refine Ret.enter Tryz.func16 rfl rfl ?_;simp only [args0, Nat.zero_add, Nat.reduceAdd];refine Sr fun _ kh1 => za rfl (zz (kh1 (Sr fun _ kh3 => zm rfl (zm rfl (zn rfl ?_)))));(first | refine zi rfl rfl ?_ | refine zo rfl rfl ?_);refine WL.ev (Ev.sliceHn (l.length + 8) rfl rfl (by omega) (by omega)) rfl ?_;refine za rfl (zz (kh3 (zc fun _ kh5 => Sr fun _ kh6 => za rfl (zz (kh6 ?_)))));refine CW.block ?_;refine CW.loop (S := fun i : Nat => [(0, .slice (some ⟨b, 0, none⟩) l.length (l.length + 8)), (1, .slice al l.length cl), (5, .slice (some ⟨b, 0, none⟩) (l.length + 8) (l.length + 8)), (6, .int .i64 (i : Int))]) (Inv := KAl l w) (mu := fun i => l.length + 8 - i) (0) ?_ ?_ ?_
 ·
  exact ⟨Nat.zero_le _, hch⟩
 ·
  exact SLp
 ·
  rintro i wr ⟨hhi, hch⟩;have hB := hB0.keep0 hch;refine zc fun _ kh8 => Sr fun _ kh9 => zm rfl (zm rfl (zn rfl ?_));refine WL.ev (Ev.lss rfl rfl) rfl ?_;refine zz (kh9 ?_);refine zy rfl (fun hc1 => ?_) fun hc1 => ?_
  ·
   (try simp only [qs] at hc1);have hmx := hTw i
   have hlx := D_getD hWl i;refine zkk ?_;refine kh8 (zc fun _ kh11 => ?_);refine CW.block ?_;refine Sr fun _ kh12 => za rfl (zz (kh12 (zc fun _ kh14 => Sr fun _ kh15 => zm rfl (zm rfl (zn rfl ?_)))));refine WL.ev (Ev.lss rfl rfl) rfl ?_;refine zz (kh15 ?_);refine zy rfl (fun hc2 => ?_) fun hc2 => ?_
   ·
    (try simp only [qs] at hc2);have hmi := hT1 i (by omega);refine zR fun _ kr17 => ?_
    refine zm rfl (zm rfl ?_);refine WL.ev (Ev.ixR (i) rfl rfl (hrl.keep0 hch) (by omega) (by omega) (by simp; omega)) rfl ?_;refine WL.ev (Ev.load rfl rfl ((hrl.keep0 hch).f64 (by first | omega | (simp; omega)))) rfl ?_;refine WL.call hasF32 rfl rfl (r1raw_spec (l.getD i 0) _ hlx) fun v w1 h' => ?_;obtain ⟨rfl, rfl⟩ := h';refine za rfl ?_;refine WL.nil (kr17 _ _ _ (kh14 ?_));refine Sr fun _ kh18 => zm rfl (zm rfl ?_);refine WL.ev (Ev.ixB (i) rfl rfl (by omega) (by omega)) rfl ?_;refine WL.ev (Ev.load rfl rfl (hB.f64 (by first | omega | (simp; omega)))) rfl ?_;refine WL.call hasF32 rfl rfl (r1raw_spec (T.getD i 0) _ hmx) fun v w2 h' => ?_;obtain ⟨rfl, rfl⟩ := h';refine zm rfl ?_;refine WL.ev (Ev.neq rfl rfl) rfl ?_;refine zz (kh18 ?_);refine zy rfl (fun hc3 => ?_) fun hc3 => ?_
    ·
     (try simp only [qs] at hc3);exact absurd (congrArg (fun q : Nat => (q : Int)) hmi) hc3
    ·
     (try simp only [qs] at hc3);refine zkk ?_
     refine kh11 ?_;refine zR fun _ kr20 => ?_;refine zm rfl ?_;(first | refine zi rfl rfl ?_ | refine zo rfl rfl ?_);refine za rfl ?_;refine WL.nil (kr20 _ _ _ ?_);refine ⟨rfl, i + 1, ?_, ?_, ?_⟩
     ·
      exact SLp
     ·
      exact ⟨by omega, hch⟩
     ·
      show l.length + 8 - (i + 1) < l.length + 8 - i; omega
   ·
    (try simp only [qs] at hc2);have hmi := hT2 i (by omega) (by omega);refine zkk ?_
    refine kh14 (Sr fun _ kh21 => zm rfl (zm rfl ?_));refine WL.ev (Ev.ixB (i) rfl rfl (by omega) (by omega)) rfl ?_;refine WL.ev (Ev.load rfl rfl (hB.f64 (by first | omega | (simp; omega)))) rfl ?_;refine WL.call hasF32 rfl rfl (r1raw_spec (T.getD i 0) _ hmx) fun v w3 h' => ?_;obtain ⟨rfl, rfl⟩ := h';refine zm rfl ?_;refine WL.ev (Ev.neq rfl rfl) rfl ?_;refine zz (kh21 ?_);refine zy rfl (fun hc4 => ?_) fun hc4 => ?_
    ·
     (try simp only [qs] at hc4);exact absurd (congrArg (fun q : Nat => (q : Int)) hmi) hc4
    ·
     (try simp only [qs] at hc4);refine zkk ?_
     refine kh11 ?_;refine zR fun _ kr23 => ?_;refine zm rfl ?_;(first | refine zi rfl rfl ?_ | refine zo rfl rfl ?_);refine za rfl ?_;refine WL.nil (kr23 _ _ _ ?_);refine ⟨rfl, i + 1, ?_, ?_, ?_⟩
     ·
      exact SLp
     ·
      exact ⟨by omega, hch⟩
     ·
      show l.length + 8 - (i + 1) < l.length + 8 - i; omega
  ·
   (try simp only [qs] at hc1);refine CW.exit ?_
   refine kh5 (Sr fun _ kh24 => zm rfl (zn rfl (zm rfl (zn rfl (zq rfl rfl (za rfl (zz (kh24 ?_))))))));refine zr ?_;refine zr1 rfl rfl ?_;exact ⟨congrArg Value.bool (decide_eq_true rfl), hch⟩

theorem r1AsLent_spec (b : Nat) (v : Value) (l : List Nat) (w : World) (hB : FB w b 24 (l ++ List.replicate 8 4693671547643874799)) (hv : NF w v l) : Ret Tryz.prog 16 [.slice (some ⟨b, 0, none⟩) l.length (l.length + 8), v] w fun u w' => u = .bool true ∧ Chg [] w w' :=
 r1AsLentT_spec b v l _ w hB hv (mark_len l) (fun i h => mark_in h) (fun i h1 h2 => mark_at h1 h2) (fun i => D_getD (mark_lt hv.hw) i)

end

/- Package steelyardlaw16: QuantAsks. No condition. -/
section
open Go Sx Wd Fl

theorem QuantAsks_spec (v : Value) (l : List Nat) (nu de ru mo : Int) (w : World) (hg : GW w) (hvl : NF w v l ∧ l.length ≤ 17592186044415) (hnu : -9223372036854775808 ≤ nu ∧ nu ≤ 9223372036854775807) (hde : -9223372036854775808 ≤ de ∧ de ≤ 9223372036854775807) (hru : -9223372036854775808 ≤ ru ∧ ru ≤ 9223372036854775807) (hmo : -9223372036854775808 ≤ mo ∧ mo ≤ 9223372036854775807) : Ret Tryz.prog 4 [v, .agg [.int .i64 nu, .int .i64 de, .int .i64 ru, .int .i64 mo].toArray] w fun u w' => u = .bool true ∧ Chg [] w w' := by
 obtain ⟨hv, hlm⟩ := hvl;have hv0 := hv;have hWl := hv.hw;have hll := hv.len;have hch : Chg [] w w := Chg.refl _ _;have hg0 := hg;refine Ret.enter Tryz.func4 rfl rfl ?_;simp only [args0, Nat.zero_add, Nat.reduceAdd];refine Sr fun _ kh1 => ?_;refine WL.boxB rfl rfl rfl fun b3 wm3 hb3 hcm3 hge3 => ?_;have hgehch3 := Nat.le_trans hch.size hge3;have hch := hch.ta hcm3;refine za rfl (zz (kh1 (Sr fun _ kh3 => ?_)));refine WL.call hasF12 rfl rfl (qlive_spec _ (hg0.keep0 hch)) fun v w1 h' => ?_;obtain ⟨rfl, hC⟩ := h';have hch := hch.ta hC;have hb3 := hb3.k0 hC;refine za rfl (zz (kh3 (Sr fun _ kh5 => zm rfl ?_)));refine WL.call hasF15 rfl rfl (r1Lent_spec _ l _ (hv0.keep0 hch) hlm) fun v w2 h' => ?_;obtain ⟨b, rfl, hB, hC, hge⟩ := h';have hch := hch.ta hC;have hb3 := hb3.k0 hC;refine za rfl (zz (kh5 (Sr fun _ kh7 => zm rfl (zf rfl (zl hb3 rfl rfl (zf rfl (zl hb3 rfl rfl (zf rfl (zl hb3 rfl rfl (zf rfl (zl hb3 rfl rfl ?_)))))))))));refine WL.call hasF13 rfl rfl (Quantile_spec _ l nu de ru mo _ (NF.lent hB hWl hll (by omega)) hnu hde (hg0.keep0 hch)) fun v w3 h' => ?_;obtain ⟨⟨bits, e, rfl, hM⟩, hC⟩ := h';have hch := hch.ta hC;have hb3 := hb3.k0 hC;have hB := hB.keep0 hC;refine zm rfl (zx rfl rfl (zx rfl rfl (za rfl (za rfl (zz (kh7 (Sr fun _ kh9 => zm rfl (zm rfl ?_))))))));refine WL.call hasF16 rfl rfl (r1AsLent_spec b _ l _ hB (hv0.keep0 hch)) fun v w4 h' => ?_;obtain ⟨rfl, hC⟩ := h';have hch := hch.ta hC;have hb3 := hb3.k0 hC;have hB := hB.keep0 hC;refine za rfl (zz (kh9 (Sr fun _ kh11 => zm rfl (zf rfl (zl hb3 rfl rfl (zf rfl (zl hb3 rfl rfl (zf rfl (zl hb3 rfl rfl (zf rfl (zl hb3 rfl rfl ?_)))))))))));refine WL.call hasF17 rfl rfl (r16Quantile_spec _ l nu de ru mo _ (hv0.keep0 hch)) fun v w5 h' => ?_;obtain ⟨⟨bits2, e2, rfl, hM2⟩, hC⟩ := h';obtain ⟨rfl, rfl⟩ := quant_unique hM hM2;have hch := hch.ta hC;have hb3 := hb3.k0 hC;have hB := hB.keep0 hC;refine zm rfl (zx rfl rfl (zx rfl rfl (za rfl (za rfl (zz (kh11 (Sr fun _ kh13 => zm rfl (zm rfl (zw rfl (zm rfl (zt rfl rfl (zm rfl (zw rfl (zm rfl (zw rfl (zm rfl (zw rfl (zq rfl rfl ?_))))))))))))))))));rw [decide_eq_true rfl];refine zt rfl rfl (zm rfl (zw rfl (zm rfl (zw rfl (zm rfl (zw rfl ?_))))));refine WL.call hasF14 rfl rfl (qexact_spec _ _ _) fun v w6 h' => ?_;obtain ⟨rfl, rfl⟩ := h';rw [decide_eq_true rfl];refine zt rfl rfl (za rfl (zz (kh13 ?_)));refine zr ?_;refine zr1 rfl rfl ?_;exact ⟨rfl, hch⟩

end

/- What came in, opened; the listed table, opened. No condition. -/
section
open Go Sx Wd
open Go.ChangeShapes Go.WideShapes Go.ChangeAt Go.WideMaps Go.WideElems Go.RowKit

theorem own : ownKnob Tryz.prog.godebug = none := by kernel_rfl
theorem laidOut : laidOutB Tryz.prog = true := by kernel_rfl
theorem door_met (os : Os) (args : Array Value) : laidMetH Tryz.prog [("math/bits.deBruijn32tab", Rows.laid_math_bits_deBruijn32tab)] ((World.doorLaid Tryz.prog 400 os).forCall (fun _ _ => 0) ⟨#[], args, []⟩).memory :=
  laidMetH_of_parts3 (fuel := 8) (laidMet_of_run' 8 (by kernel_rfl) (by kernel_rfl)) (by kernel_rfl) (by kernel_rfl)
theorem gDeb : Tryz.prog.globalNamed "math/bits.deBruijn32tab" = some 1 := by kernel_rfl
theorem tDeb : (Tryz.prog.globals[1]?).map (·.type) = some 220 := by kernel_rfl
theorem deb_data {H : Type} : (Rows.laid_math_bits_deBruijn32tab : DataW H) = .agg (deb.map fun n : Nat => .lit (.int .u8 (n : Int))) := rfl
theorem gw_of_laid {W : World} (h : laidMetH Tryz.prog [("math/bits.deBruijn32tab", Rows.laid_math_bits_deBruijn32tab)] W) : GW W := by
  rw [MakeChecks.laidMetH_plain _ _ _ (by kernel_rfl)] at h
  obtain ⟨ps, ⟨g0, t0, cs0, f0, p0, q0, hg0, ht0, hv0, hd0, _, _⟩, _, _⟩ := h
  obtain rfl := Option.some.inj (gDeb.symm.trans hg0)
  obtain rfl := Option.some.inj (tDeb.symm.trans ht0)
  obtain ⟨xs, m1, rfl, hx1, hlen, hn3, hel⟩ := DataW.trod_array Tryz.underlying220 hd0
  have c8 : Tryz.prog.cellsOf 5 = 1 := by kernel_rfl
  simp only [Prod.mk.injEq] at hx1
  intro i hi
  have hi' := hel i hi
  rw [c8, Nat.mul_one] at hi'
  have hxi : xs[i]? = some (xs[i]'(by omega)) := List.getElem?_eq_getElem (by omega)
  rw [hxi] at hi'
  obtain ⟨k, e1, e2, _⟩ := DataW.trod_int Tryz.underlying5 hi'
  have hxs : (deb.map fun n : Nat => (DataW.lit (.int .u8 (n : Int)) : DataW Unit)) = xs.map (·.1) := by
    have := hx1.1
    rw [deb_data] at this
    exact DataW.agg.inj this
  have hdat : (deb.map fun n : Nat => (DataW.lit (.int .u8 (n : Int)) : DataW Unit))[i]? = some (.lit (.int .u8 ((deb.getD i 0 : Nat) : Int))) := by
    rw [List.getElem?_map, List.getElem?_eq_getElem (show i < deb.length from hi), List.getD_eq_getElem?_getD, List.getElem?_eq_getElem (show i < deb.length from hi)]; rfl
  rw [hxs, List.getElem?_map, hxi] at hdat
  simp only [Option.map_some] at hdat
  rw [e2] at hdat
  have hk : k = ((deb.getD i 0 : Nat) : Int) := by
    have := Option.some.inj hdat
    simp only [DataW.lit.injEq, Lit.int.injEq, true_and] at this
    exact this
  subst hk
  have hc : cs0[i]? = some (.int .u8 ((deb.getD i 0 : Nat) : Int)) := by
    have h3 : (cs0.toList.drop i)[0]? = some (.int .u8 ((deb.getD i 0 : Nat) : Int)) := by
      have := congrArg (fun l : List Value => l[0]?) e1
      simpa using this
    simpa using h3
  have := World.var?_cell hg0 hv0 i
  rw [hc] at this
  exact this

/-- One float cell, read. -/
theorem float_cell {H : Type} {enc : TypeId × Value → H} {P : Program} {w : World} {base : Nat} {spare : Nat → Bool} {held : Bool} {n : Nat} {e : TypeId} {v : Value} {x : DataW H × List MemPlace} (he : P.underlying e = some (.float .f64)) (h : DataW.trod enc P w base spare held n e [v] = some x) : ∃ b, v = .float .f64 b ∧ b < 18446744073709551616 := by
  cases n with
  | zero => simp [DataW.trod] at h
  | succ n =>
    simp only [DataW.trod, he] at h
    cases v <;> simp_all
    rename_i k b
    cases k <;> simp_all [Lit.wf]
/-- A slice of floats that came in. -/
theorem open_nf {H : Type} {enc : TypeId × Value → H} {P : Program} {w : World} {base b0 : Nat} {spare : Nat → Bool} {held : Bool} {t e : TypeId} {v : Value} {d : DataW H} {ps : List MemPlace} (ht : P.underlying t = some (.slice e)) (he : P.underlying e = some (.float .f64)) (hc : P.cellsOf e = 1) (hb : P.bytesOf e = 8) (hval : Value.okWide P w .any b0 t v) (h : DataW.Trod enc P w base spare held t v d ps)
    (hsz : ∀ elems spare', d = .slice elems spare' → (elems.length + spare'.length) * P.bytesOf e ≤ reachBytes) : ∃ l : List Nat, NF w v l ∧ l.length ≤ 17592186044415 := by
  obtain ⟨a, len, cap, rfl⟩ := okWide_slice ht hval
  obtain ⟨fuel, hf⟩ := h
  rcases Go.Deep.open_slice1 ht hc hf with ⟨hcs, _⟩ | ⟨ad, l, c, m, n, V, D, Pl, hcs, _, hlc, hcm, hm, hx, hV⟩
  · simp [Value.cells] at hcs
    obtain ⟨rfl, rfl, rfl⟩ := hcs
    exact ⟨[], ⟨⟨none, 0, rfl, Nat.le_refl _, RW.nil⟩, fun x hx => (by cases hx), by decide⟩, by decide⟩
  · simp [Value.cells] at hcs
    obtain ⟨rfl, rfl, rfl⟩ := hcs
    have hlm : len ≤ m := by rw [hm]; split <;> omega
    simp only [Prod.mk.injEq] at hx
    have h8 := hsz _ _ hx.1
    rw [hb] at h8
    simp only [List.length_map, List.length_range] at h8
    have hr : reachBytes = 140737488351232 := by decide
    have hlen : len ≤ 17592186044415 := by omega
    obtain ⟨f, hf2⟩ := Go.Deep.choose_lt (α := Nat) (n := len) (p := fun i b => V i = .float .f64 b ∧ b < 18446744073709551616) (fun i hi => float_cell he (hV i (by omega)).2)
    refine ⟨(List.range len).map f, ⟨⟨some ad, cap, by simp, by simpa using hlc, fun i y hy => ?_⟩, fun y hy => ?_, by simp; omega⟩, by simpa using hlen⟩
    · have hi : i < len := by
        by_cases q : i < len
        · exact q
        · rw [List.getElem?_eq_none (by simp; omega)] at hy; cases hy
      simp [List.getElem?_range hi] at hy
      subst hy
      exact ⟨ad, rfl, by rw [(hV i (by omega)).1, (hf2 i hi).1]; rfl⟩
    · obtain ⟨i, hi, rfl⟩ := List.mem_map.1 hy
      exact (hf2 i (List.mem_range.1 hi)).2
end

/- A share, a rule and a mode that came in. No condition. -/
section
open Go Sx Wd
open Go.ChangeShapes Go.WideShapes Go.ChangeAt Go.WideMaps Go.WideElems Go.RowKit

theorem trod_four {H : Type} {enc : TypeId × Value → H} {P : Program} {w : World} {base : Nat} {spare : Nat → Bool} {held : Bool} {t : TypeId} {f0 f1 f2 f3 : Field} {fuel : Nat} {cs : List Value} {x : DataW H × List MemPlace} (ht : P.underlying t = some (.struct #[f0, f1, f2, f3])) (h : DataW.trod enc P w base spare held fuel t cs = some x) :
    ∃ y0 y1 y2 y3 n, DataW.trod enc P w base spare held n f0.type ((cs.drop f0.offset).take (P.cellsOf f0.type)) = some y0 ∧ DataW.trod enc P w base spare held n f1.type ((cs.drop f1.offset).take (P.cellsOf f1.type)) = some y1 ∧
      DataW.trod enc P w base spare held n f2.type ((cs.drop f2.offset).take (P.cellsOf f2.type)) = some y2 ∧ DataW.trod enc P w base spare held n f3.type ((cs.drop f3.offset).take (P.cellsOf f3.type)) = some y3 := by
  obtain ⟨xs, n, _, rfl, hl, hlen, hf⟩ := DataW.trod_struct ht h
  match xs, hlen with
  | [y0, y1, y2, y3], _ => exact ⟨y0, y1, y2, y3, n, by simpa using hf 0 f0 rfl, by simpa using hf 1 f1 rfl, by simpa using hf 2 f2 rfl, by simpa using hf 3 f3 rfl⟩
theorem cell_i64 {H : Type} {enc : TypeId × Value → H} {P : Program} {w : World} {base : Nat} {spare : Nat → Bool} {held : Bool} {n : Nat} {e : TypeId} {v : Value} {x : DataW H × List MemPlace} (he : P.underlying e = some (.int .i64)) (h : DataW.trod enc P w base spare held n e [v] = some x) : ∃ z, v = .int .i64 z ∧ (-9223372036854775808 ≤ z ∧ z ≤ 9223372036854775807) := by
  obtain ⟨z, e1, _, e3⟩ := DataW.trod_int he h
  exact ⟨z, by simpa using e1, bounds_i64 e3⟩
theorem open_ask {H : Type} {enc : TypeId × Value → H} {w : World} {base b0 : Nat} {spare : Nat → Bool} {held : Bool} {v : Value} {d : DataW H} {ps : List MemPlace} (hval : Value.okWide Tryz.prog w .any b0 30 v) (h : DataW.Trod enc Tryz.prog w base spare held 30 v d ps) :
    ∃ p q r s : Int, v = .agg [.int .i64 p, .int .i64 q, .int .i64 r, .int .i64 s].toArray ∧ (-9223372036854775808 ≤ p ∧ p ≤ 9223372036854775807) ∧ (-9223372036854775808 ≤ q ∧ q ≤ 9223372036854775807) ∧ (-9223372036854775808 ≤ r ∧ r ≤ 9223372036854775807) ∧ (-9223372036854775808 ≤ s ∧ s ≤ 9223372036854775807) := by
  obtain ⟨fuel, hf⟩ := h
  have hu := Tryz.underlying30
  simp only [Value.okWide, hu] at hval
  obtain ⟨cs, rfl, hsz, _⟩ := hval
  have hc4 : Tryz.prog.cellsOf 30 = 4 := by kernel_rfl
  rw [hc4] at hsz
  obtain ⟨y0, y1, y2, y3, m, h0, h1, h2, h3⟩ := trod_four hu hf
  have c1 : Tryz.prog.cellsOf 3 = 1 := by kernel_rfl
  obtain ⟨l⟩ := cs
  match l, hsz with
  | [a, b, c, d], _ =>
    simp only [Value.cells] at h0 h1 h2 h3
    rw [c1] at h0 h1 h2 h3
    obtain ⟨p, rfl, hp⟩ := cell_i64 Tryz.underlying3 (show DataW.trod enc Tryz.prog w base spare held m 3 [a] = some y0 from by simpa using h0)
    obtain ⟨q, rfl, hq⟩ := cell_i64 Tryz.underlying3 (show DataW.trod enc Tryz.prog w base spare held m 3 [b] = some y1 from by simpa using h1)
    obtain ⟨r, rfl, hr⟩ := cell_i64 Tryz.underlying3 (show DataW.trod enc Tryz.prog w base spare held m 3 [c] = some y2 from by simpa using h2)
    obtain ⟨s, rfl, hs⟩ := cell_i64 Tryz.underlying3 (show DataW.trod enc Tryz.prog w base spare held m 3 [d] = some y3 from by simpa using h3)
    exact ⟨p, q, r, s, rfl, hp, hq, hr, hs⟩
end

end Go.Proofs.YtbdkecpalhpmdaaGreatDoor