/- Part 5 of what the proof rests on. No condition. -/
import Derived.Test.YtnbipejaidbihaaGreatDoorZl4
import Derived.Laws.StructEq
import Derived.ArgAppend
import Derived.Lib.AppendStr
import Derived.Laws.BytesString
set_option linter.unusedVariables false
set_option linter.unusedSimpArgs false
set_option maxRecDepth 100000
set_option maxHeartbeats 4000000
namespace Go.Proofs.YtnbipejaidbihaaGreatDoor
/- Package moment: Of; Shards: Var. No condition. -/
section
open Go Sx Wd Fl

theorem getD_v {x y v : Dy} (hx : x.ok) (hy : y.ok) (h : both2 addD (.some x) (formD (!y.neg) y.m y.e) = .some v) : v.ok := by
  cases hf : formD (!y.neg) y.m y.e with
  | none => rw [hf] at h; cases h
  | some z => rw [hf] at h; exact addD_ok hx (formD_ok hf) h
def carSh (s : SP) (pn pi : Int) : Prop := (0 < s.na ∧ pn = 0) ∨ (0 < s.up + s.dn ∧ pi = 0)
instance (s : SP) (pn pi : Int) : Decidable (carSh s pn pi) := by unfold carSh; exact inferInstance
def varShR (S : Sh) (less mode pn pi : Int) (b : Nat) (e : Int) : Prop :=
  (¬ (less = 0 ∨ less = 1) ∧ b = 0 ∧ e = 1) ∨ ((less = 0 ∨ less = 1) ∧ ((shE S.s mode pn pi ≠ 0 ∧ b = 0 ∧ e = shE S.s mode pn pi) ∨ (shE S.s mode pn pi = 0 ∧
    ((carSh S.s pn pi ∧ b = 9221120237041090560 ∧ e = 0) ∨ (¬ carSh S.s pn pi ∧ ((S.fin ≤ less ∧ b = 0 ∧ e = 3) ∨ (less < S.fin ∧ momR S.fin S.V S.Q less mode b e)))))))

theorem momOf_spec (V Q : Dy) (rv rq : Value) (n less mode : Int) (w : World) (hNv : NU w rv (wd V.m)) (hNq : NU w rq (wd Q.m)) (hokV : V.ok) (hokQ : Q.ok) (hg : GW w) : Ret Tryz.prog 98 [.int .i64 n, .agg [.bool V.neg, rv, .int .i64 V.e].toArray, .agg [.bool Q.neg, rq, .int .i64 Q.e].toArray, .int .i64 less, .int .i64 mode] w fun u w' => (∃ x e, u = .tuple [.float .f64 x, .int .i64 e].toArray ∧ momR n V Q less mode x e) ∧ Chg [] w w' := by
 have hch := crf w;have hg0 := hg;have hov := hNv.one;have hoq := hNq.one;refine zE5 Tryz.func98 rfl ?_;refine Sr fun _ kh1 => ?_;refine zBh rfl rfl rfl hch fun b6 wm6 hb6 hcm6 hge6 hgehch6 hch => ?_;have hNv := hNv.keep0 hcm6;have hNq := hNq.keep0 hcm6;refine zBh rfl rfl rfl hch fun b7 wm7 hb7 hcm7 hge7 hgehch7 hch => ?_;have hNv := hNv.keep0 hcm7;have hNq := hNq.keep0 hcm7;have hneb67 := zdd hb6.lt hge7;have hb6 := hb6.k0 hcm7;refine za rfl (za rfl (zz (kh1 (zc fun _ kh3 => ?_))));refine CW.seqMC 28 (decide (¬ ((0 ≤ mode ∧ mode ≤ 4) ∧ (less = 0 ∨ less = 1) ∧ 1 ≤ n ∧ n ≤ 1099511627776))) ?_ ?_
 ·intro hcM;refine zS fun _ kr4 => zm rfl (zm rfl ?_);refine WL.call hasF188 rfl rfl (momMay_spec mode less _) fun v w1 h' => ?_;obtain ⟨rfl, rfl⟩ := h';refine zT rfl (zm rfl ?_);refine zb ?_ ?_<;>intro hg1<;>try simp only [qs] at hg1
  ·refine zv rfl (zv rfl (zt rfl rfl (zm rfl (zv rfl (zv rfl (zt rfl rfl (zz (kr4 ?_))))))));refine ⟨rfl, hcM, Subs.consB rfl ?_ ?_⟩
   ·first | (simp_all; done) | (simp; omega) | (refine decide_eq_decide.2 ?_; omega) | (simp_all; omega)
   exact SMg
  refine zw rfl (zm rfl (zw rfl (zL rfl rfl (ze rfl rfl (zm rfl ?_)))));refine zb ?_ ?_<;>intro hg2<;>try simp only [qs] at hg2
  ·refine zv rfl (zv rfl (zt rfl rfl (zz (kr4 ?_))));refine ⟨rfl, hcM, Subs.consB rfl ?_ ?_⟩
   ·first | (simp_all; done) | (simp; omega) | (refine decide_eq_decide.2 ?_; omega) | (simp_all; omega)
   exact SMg
  refine zw rfl (zm rfl (zw rfl (zG rfl rfl (ze rfl rfl (zz (kr4 ?_))))));refine ⟨rfl, hcM, Subs.consB rfl ?_ ?_⟩
  ·first | (simp_all; done) | (simp; omega) | (refine decide_eq_decide.2 ?_; omega) | (simp_all; omega)
  exact SMg
 intro wM hcM;have hch := hch.ta hcM;have hb6 := hb6.k0 hcM;have hb7 := hb7.k0 hcM;have hNv := hNv.keep0 hcM;have hNq := hNq.keep0 hcM;refine zy rfl ?_ ?_<;>intro hc3<;>try simp only [qs] at hc3
 ·have hq : ¬ ((0 ≤ mode ∧ mode ≤ 4) ∧ (less = 0 ∨ less = 1) ∧ 1 ≤ n ∧ n ≤ 1099511627776) := hc3
  refine Sr fun _ kh5 => za rfl (za rfl (zz (kh5 ?_)));refine zr (zr2 rfl rfl rfl ?_);refine ⟨⟨_, _, rfl, ?_⟩, hch⟩;exact .inl ⟨hq, rfl, rfl⟩
 have hq : (0 ≤ mode ∧ mode ≤ 4) ∧ (less = 0 ∨ less = 1) ∧ 1 ≤ n ∧ n ≤ 1099511627776 := hc3;obtain ⟨hq1, hq2, hq3, hq4⟩ := id hq;refine zkk (kh3 (zc fun _ kh7 => ?_));refine CW.regionHC 10 rfl hmix fun kR8 kr8 hS hdr => ?_;have hch := hch.ta hdr;have hb6 := hb6.k0 hdr;have hb7 := hb7.k0 hdr;have hNv := hNv.keep0 hdr;have hNq := hNq.keep0 hdr;have hb7_r := hb7;refine wh 0 rfl hS (eM rfl) (wh 2 rfl hS (fun _ hw' => Ev.loadA rfl rfl (hb7_r.keep0 hw') rfl) ?_);refine WH.all2 1 7 (by kernel_rfl) ?_ ?_
 ·refine WHat.call 1 rfl hasF179 rfl rfl (Int_spec n _ (hg0.keep0 hch) (by omega)) fun v w2 h' => ?_;obtain ⟨⟨ri, rfl, hNi⟩, hC⟩ := h';have hoi := hNi.one;have hokn : (intD n).ok := intD_ok (by omega);have hch := hch.ta hC;have hb6 := hb6.k0 hC;have hNv := hNv.keep0 hC;have hNq := hNq.keep0 hC;have hS := hS.trans hC;refine ⟨hS, ?_⟩;refine WH.all2 3 7 (by kernel_rfl) ?_ ?_
  ·refine WHat.call 3 rfl hasF132 rfl rfl (Mul_dspec _ _ _ _ _ _ _ _ _ hNi hNq (hg0.keep0 hch) (ok_i64 hokn) (ok_i64 hokQ)) fun v w3 h' => ?_;obtain ⟨hD, hC⟩ := h';rw [both_ok hokn hokQ] at hD;obtain ⟨rx, k1, rfl, hRx, hk1⟩ := hD.cellsK;have hox := hRx.one;have hch := hch.ta hC;have hb6 := hb6.k0 hC;have hNv := hNv.keep0 hC;have hS := hS.trans hC;refine ⟨hS, ?_⟩;refine wh 4 rfl hS (eM rfl) (wh 5 rfl hS (eX rfl rfl) (wh 6 rfl hS (eX rfl rfl) ?_));refine WH.allocC (l := [.bool false, .slice none 0 0, .int .i64 0]) 7 rfl (by kernel_rfl) hS rfl rfl fun b12 wm12 hb12 hcm12 hge12 hS1 => ?_;have hgeS12 := Nat.le_trans hS.size hge12;have hS := hS1;have hgehch12 := Nat.le_trans hch.size hge12;have hch := hch.ta hcm12;have hNv := hNv.keep0 hcm12;have hRx := hRx.keep0 hcm12;have hneb612 := zdd hb6.lt hge12;have hb6 := hb6.k0 hcm12;refine WH.storeBN 8 rfl (by kernel_rfl) hS hgeS12 rfl rfl rfl ao hb12 (by simp) rfl fun ws28 hb12_ hcs28 hS => ?_;(try simp only [Sx.splice, qt] at hb12_);have hch := hch.s1 hcs28;have hb6 := hb6.kq hcs28;have hNv := hNv.keepBK hb12 hcs28 an;have hRx := hRx.keepBK hb12 hcs28 an;have hb12 := hb12_;refine wh 9 rfl hS (eA rfl) ?_;refine WH.done (by kernel_rfl) (kr8 _ _ _ ?_);refine kh7 (Sr fun _ kh9 => zg hb6 rfl (zg hb6 rfl ?_));refine WL.call hasF132 rfl rfl (Mul_dspec _ _ _ _ _ _ _ _ _ hNv hNv (hg0.keep0 hch) (ok_i64 hokV) (ok_i64 hokV)) fun v w4 h' => ?_;obtain ⟨hD, hC⟩ := h';rw [both_ok hokV hokV] at hD;obtain ⟨ry, k2, rfl, hRy, hk2⟩ := hD.cellsK;have hoy := hRy.one;have hch := hch.ta hC;have hb12 := hb12.k0 hC;have hRx := hRx.keep0 hC;refine zm rfl (zx rfl rfl (zx rfl rfl ?_));refine zAh rfl rfl hch fun b14 wm14 hb14 hcm14 hge14 hgehch14 hch => ?_;have hRx := hRx.keep0 hcm14;have hRy := hRy.keep0 hcm14;have hneb1214 := zdd hb12.lt hge14;have hb12 := hb12.k0 hcm14;refine zss rfl rfl ao hb14 rfl fun ws29 hb14_ hcs29 => ?_;(try simp only [Sx.splice, qt] at hb14_);have hch := hch.s1 hcs29;have hb12 := hb12.kq hcs29;have hRx := hRx.keepBK hb14 hcs29 an;have hRy := hRy.keepBK hb14 hcs29 an
   have hb14 := hb14_;refine za rfl (zz (kh9 (zc fun _ kh11 => ?_)));refine CW.seqM 47 (decide (k1 ≠ 0 ∨ k2 ≠ 0)) ?_ ?_
   ·refine zS fun _ kr12 => zm rfl (zN rfl rfl (zm rfl ?_));refine zb ?_ ?_<;>intro hg4<;>try simp only [qs] at hg4
    ·refine zv rfl (zv rfl (zt rfl rfl (zz (kr12 ?_))));refine ⟨rfl, rfl, Subs.consB rfl ?_ ?_⟩
     ·first | (simp_all; done) | (simp; omega) | (refine decide_eq_decide.2 ?_; omega)
     exact SMg
    refine zw rfl (zm rfl (zw rfl (zN rfl rfl (ze rfl rfl (zz (kr12 ?_))))));refine ⟨rfl, rfl, Subs.consB rfl ?_ ?_⟩
    ·first | (simp_all; done) | (simp; omega) | (refine decide_eq_decide.2 ?_; omega)
    exact SMg
   refine zy rfl ?_ ?_<;>intro hc5<;>try simp only [qs] at hc5
   ·have hk : k1 ≠ 0 ∨ k2 ≠ 0 := hc5
    refine Sr fun _ kh13 => za rfl (za rfl (zz (kh13 ?_)));refine zr (zr2 rfl rfl rfl ?_);refine ⟨⟨_, _, rfl, ?_⟩, hch⟩;exact .inr ⟨hq, .inl ⟨hk.imp (fun q => (hk1.resolve_left (fun z => q z.1)).2) (fun q => (hk2.resolve_left (fun z => q z.1)).2), rfl, rfl⟩⟩
   have hk : ¬ (k1 ≠ 0 ∨ k2 ≠ 0) := hc5;obtain ⟨-, x, hx⟩ := hk1.resolve_right (fun q => hk (.inl (by omega)));obtain ⟨-, y, hy⟩ := hk2.resolve_right (fun q => hk (.inr (by omega)));have hokx := mulD_ok hx;have hoky := mulD_ok hy;rw [hx, Option.getD_some] at hRx;rw [hy, Option.getD_some] at hRy;rw [hx, Option.getD_some] at hb12;rw [hy, Option.getD_some] at hb14;refine zkk (kh11 (Sr fun _ kh15 => zg hb12 rfl (zg hb14 rfl ?_)));refine WL.call hasF189 rfl rfl (Sub_dspec _ _ _ _ _ _ _ _ _ hRx hRy (hg0.keep0 hch) (ok_i64 hokx) (ok_i64 hoky)) fun v w5 h' => ?_;obtain ⟨hD, hC⟩ := h';rw [val_wd, val_wd, formD_self hokx] at hD;obtain ⟨rz, k3, rfl, hRz, hk3⟩ := hD.cellsK;have hoz := hRz.one;have hch := hch.ta hC;refine zm rfl (zx rfl rfl (zx rfl rfl ?_));refine zAh rfl rfl hch fun b16 wm16 hb16 hcm16 hge16 hgehch16 hch => ?_;have hRz := hRz.keep0 hcm16;refine zss rfl rfl ao hb16 rfl fun ws30 hb16_ hcs30 => ?_;(try simp only [Sx.splice, qt] at hb16_);have hch := hch.s1 hcs30;have hRz := hRz.keepBK hb16 hcs30 an;have hb16 := hb16_;refine za rfl (zz (kh15 (zc fun _ kh17 => CW.block (Sr fun _ kh18 => zm rfl (zN rfl rfl (za rfl (zz (kh18 ?_))))))));refine zy rfl ?_ ?_<;>intro hc6<;>try simp only [qs] at hc6
   ·have h3 : k3 ≠ 0 := hc6
    obtain ⟨rfl, h3n⟩ := hk3.resolve_left (fun z => h3 z.1);refine Sr fun _ kh20 => zm rfl (za rfl (za rfl (zz (kh20 ?_))));refine zr (zr2 rfl rfl rfl ?_);refine ⟨⟨_, _, rfl, ?_⟩, hch⟩;exact .inr ⟨hq, .inr ⟨x, y, hx, hy, .inl ⟨h3n, rfl, rfl⟩⟩⟩
   have h3 : k3 = 0 := by have := hc6; omega
   obtain ⟨-, v, hv⟩ := hk3.resolve_right (fun q => by omega);have hokv : v.ok := getD_v hokx hoky hv;rw [hv, Option.getD_some] at hRz;rw [hv, Option.getD_some] at hb16;refine Sr fun _ kh22 => zm rfl (zm rfl (zQ rfl rfl (za rfl (zz (kh22 ?_)))));refine zy rfl ?_ ?_<;>intro hc7<;>try simp only [qs] at hc7
   ·have hnl : n ≤ less := hc7
    refine Sr fun _ kh24 => za rfl (za rfl (zz (kh24 ?_)));refine zr (zr2 rfl rfl rfl ?_);refine ⟨⟨_, _, rfl, ?_⟩, hch⟩;exact .inr ⟨hq, .inr ⟨x, y, hx, hy, .inr ⟨v, hv, .inl ⟨hnl, rfl, rfl⟩⟩⟩⟩
   have hnl : less < n := by have := hc7; omega
   refine zkk (kh17 (Sr fun _ kh26 => zg hb16 rfl (zm rfl (zm rfl ?_))));refine WL.call hasF190 rfl rfl (by_spec v rz n less _ hRz hokv (by omega) (by omega) (hg0.keep0 hch)) fun v w6 h' => ?_;obtain ⟨⟨rd, rfl, hNd, hNz⟩, hC⟩ := h';have hch := hch.ta hC;have hRz := hRz.keep0 hC;refine zm rfl ?_;refine WL.call hasF110 rfl rfl (Quot_spec _ _ _ _ _ _ _ _ mode _ hRz hNd (hg0.keep0 hch) (ok_i64 hokv) (ok_i64 (accD_ok _ _ 2))) fun v w7 h' => ?_;obtain ⟨⟨xb, xe, rfl, hR⟩, hC⟩ := h';rw [val_wd, val_wd] at hR;have hch := hch.ta hC;refine zx rfl rfl (zx rfl rfl (za rfl (za rfl (zz (kh26 ?_)))));refine zr (zr2 rfl rfl rfl ?_);refine ⟨⟨_, _, rfl, ?_⟩, hch⟩;exact .inr ⟨hq, .inr ⟨x, y, hx, hy, .inr ⟨v, hv, .inr ⟨hnl, hR⟩⟩⟩⟩
  refine WHat.allocC (l := [.bool false, .slice none 0 0, .int .i64 0]) 7 rfl hS rfl rfl fun b12 wm12 hb12 hcm12 hge12 hS1 => ?_;have hgeS12 := Nat.le_trans hS.size hge12;have hS := hS1;have hgehch12 := Nat.le_trans hch.size hge12;have hch := hch.ta hcm12;have hNv := hNv.keep0 hcm12;have hNq := hNq.keep0 hcm12;have hNi := hNi.keep0 hcm12;have hneb612 := zdd hb6.lt hge12;have hb6 := hb6.k0 hcm12;refine WH.oneCall 3 rfl (by kernel_rfl) hasF132 rfl rfl (Mul_dspec _ _ _ _ _ _ _ _ _ hNi hNq (hg0.keep0 hch) (ok_i64 hokn) (ok_i64 hokQ)) fun v w8 h' => ?_;obtain ⟨hD, hC⟩ := h';rw [both_ok hokn hokQ] at hD;obtain ⟨rx, k1, rfl, hRx, hk1⟩ := hD.cellsK;have hox := hRx.one;have hch := hch.ta hC;have hb6 := hb6.k0 hC;have hb12 := hb12.k0 hC;have hNv := hNv.keep0 hC;have hS := hS.trans hC;refine ⟨hS, ?_⟩;refine wh 4 rfl hS (eM rfl) (wh 5 rfl hS (eX rfl rfl) (wh 6 rfl hS (eX rfl rfl) ?_));refine WH.storeBN 8 rfl (by kernel_rfl) hS hgeS12 rfl rfl rfl ao hb12 (by simp) rfl fun ws31 hb12_ hcs31 hS => ?_;(try simp only [Sx.splice, qt] at hb12_);have hch := hch.s1 hcs31;have hb6 := hb6.kq hcs31;have hNv := hNv.keepBK hb12 hcs31 an;have hRx := hRx.keepBK hb12 hcs31 an;have hb12 := hb12_;refine wh 9 rfl hS (eA rfl) ?_;refine WH.done (by kernel_rfl) (kr8 _ _ _ ?_);refine kh7 (Sr fun _ kh28 => zg hb6 rfl (zg hb6 rfl ?_));refine WL.call hasF132 rfl rfl (Mul_dspec _ _ _ _ _ _ _ _ _ hNv hNv (hg0.keep0 hch) (ok_i64 hokV) (ok_i64 hokV)) fun v w9 h' => ?_;obtain ⟨hD, hC⟩ := h';rw [both_ok hokV hokV] at hD;obtain ⟨ry, k2, rfl, hRy, hk2⟩ := hD.cellsK;have hoy := hRy.one;have hch := hch.ta hC;have hb12 := hb12.k0 hC;have hRx := hRx.keep0 hC;refine zm rfl (zx rfl rfl (zx rfl rfl ?_));refine zAh rfl rfl hch fun b14 wm14 hb14 hcm14 hge14 hgehch14 hch => ?_;have hRx := hRx.keep0 hcm14;have hRy := hRy.keep0 hcm14;have hneb1214 := zdd hb12.lt hge14;have hb12 := hb12.k0 hcm14;refine zss rfl rfl ao hb14 rfl fun ws32 hb14_ hcs32 => ?_;(try simp only [Sx.splice, qt] at hb14_);have hch := hch.s1 hcs32;have hb12 := hb12.kq hcs32;have hRx := hRx.keepBK hb14 hcs32 an;have hRy := hRy.keepBK hb14 hcs32 an;have hb14 := hb14_;refine za rfl (zz (kh28 (zc fun _ kh30 => ?_)));refine CW.seqM 47 (decide (k1 ≠ 0 ∨ k2 ≠ 0)) ?_ ?_
  ·refine zS fun _ kr31 => zm rfl (zN rfl rfl (zm rfl ?_));refine zb ?_ ?_<;>intro hg8<;>try simp only [qs] at hg8
   ·refine zv rfl (zv rfl (zt rfl rfl (zz (kr31 ?_))));refine ⟨rfl, rfl, Subs.consB rfl ?_ ?_⟩
    ·first | (simp_all; done) | (simp; omega) | (refine decide_eq_decide.2 ?_; omega)
    exact SMg
   refine zw rfl (zm rfl (zw rfl (zN rfl rfl (ze rfl rfl (zz (kr31 ?_))))));refine ⟨rfl, rfl, Subs.consB rfl ?_ ?_⟩
   ·first | (simp_all; done) | (simp; omega) | (refine decide_eq_decide.2 ?_; omega)
   exact SMg
  refine zy rfl ?_ ?_<;>intro hc9<;>try simp only [qs] at hc9
  ·have hk : k1 ≠ 0 ∨ k2 ≠ 0 := hc9
   refine Sr fun _ kh32 => za rfl (za rfl (zz (kh32 ?_)));refine zr (zr2 rfl rfl rfl ?_);refine ⟨⟨_, _, rfl, ?_⟩, hch⟩;exact .inr ⟨hq, .inl ⟨hk.imp (fun q => (hk1.resolve_left (fun z => q z.1)).2) (fun q => (hk2.resolve_left (fun z => q z.1)).2), rfl, rfl⟩⟩
  have hk : ¬ (k1 ≠ 0 ∨ k2 ≠ 0) := hc9;obtain ⟨-, x, hx⟩ := hk1.resolve_right (fun q => hk (.inl (by omega)));obtain ⟨-, y, hy⟩ := hk2.resolve_right (fun q => hk (.inr (by omega)));have hokx := mulD_ok hx;have hoky := mulD_ok hy;rw [hx, Option.getD_some] at hRx;rw [hy, Option.getD_some] at hRy;rw [hx, Option.getD_some] at hb12;rw [hy, Option.getD_some] at hb14;refine zkk (kh30 (Sr fun _ kh34 => zg hb12 rfl (zg hb14 rfl ?_)));refine WL.call hasF189 rfl rfl (Sub_dspec _ _ _ _ _ _ _ _ _ hRx hRy (hg0.keep0 hch) (ok_i64 hokx) (ok_i64 hoky)) fun v w10 h' => ?_;obtain ⟨hD, hC⟩ := h';rw [val_wd, val_wd, formD_self hokx] at hD;obtain ⟨rz, k3, rfl, hRz, hk3⟩ := hD.cellsK;have hoz := hRz.one;have hch := hch.ta hC;refine zm rfl (zx rfl rfl (zx rfl rfl ?_));refine zAh rfl rfl hch fun b16 wm16 hb16 hcm16 hge16 hgehch16 hch => ?_;have hRz := hRz.keep0 hcm16;refine zss rfl rfl ao hb16 rfl fun ws33 hb16_ hcs33 => ?_;(try simp only [Sx.splice, qt] at hb16_);have hch := hch.s1 hcs33;have hRz := hRz.keepBK hb16 hcs33 an;have hb16 := hb16_;refine za rfl (zz (kh34 (zc fun _ kh36 => CW.block (Sr fun _ kh37 => zm rfl (zN rfl rfl (za rfl (zz (kh37 ?_))))))));refine zy rfl ?_ ?_<;>intro hc10<;>try simp only [qs] at hc10
  ·have h3 : k3 ≠ 0 := hc10
   obtain ⟨rfl, h3n⟩ := hk3.resolve_left (fun z => h3 z.1);refine Sr fun _ kh39 => zm rfl (za rfl (za rfl (zz (kh39 ?_))));refine zr (zr2 rfl rfl rfl ?_);refine ⟨⟨_, _, rfl, ?_⟩, hch⟩;exact .inr ⟨hq, .inr ⟨x, y, hx, hy, .inl ⟨h3n, rfl, rfl⟩⟩⟩
  have h3 : k3 = 0 := by have := hc10; omega
  obtain ⟨-, v, hv⟩ := hk3.resolve_right (fun q => by omega);have hokv : v.ok := getD_v hokx hoky hv;rw [hv, Option.getD_some] at hRz;rw [hv, Option.getD_some] at hb16;refine Sr fun _ kh41 => zm rfl (zm rfl (zQ rfl rfl (za rfl (zz (kh41 ?_)))));refine zy rfl ?_ ?_<;>intro hc11<;>try simp only [qs] at hc11
  ·have hnl : n ≤ less := hc11
   refine Sr fun _ kh43 => za rfl (za rfl (zz (kh43 ?_)));refine zr (zr2 rfl rfl rfl ?_);refine ⟨⟨_, _, rfl, ?_⟩, hch⟩;exact .inr ⟨hq, .inr ⟨x, y, hx, hy, .inr ⟨v, hv, .inl ⟨hnl, rfl, rfl⟩⟩⟩⟩
  have hnl : less < n := by have := hc11; omega
  refine zkk (kh36 (Sr fun _ kh45 => zg hb16 rfl (zm rfl (zm rfl ?_))));refine WL.call hasF190 rfl rfl (by_spec v rz n less _ hRz hokv (by omega) (by omega) (hg0.keep0 hch)) fun v w11 h' => ?_;obtain ⟨⟨rd, rfl, hNd, hNz⟩, hC⟩ := h';have hch := hch.ta hC;have hRz := hRz.keep0 hC;refine zm rfl ?_;refine WL.call hasF110 rfl rfl (Quot_spec _ _ _ _ _ _ _ _ mode _ hRz hNd (hg0.keep0 hch) (ok_i64 hokv) (ok_i64 (accD_ok _ _ 2))) fun v w12 h' => ?_;obtain ⟨⟨xb, xe, rfl, hR⟩, hC⟩ := h';rw [val_wd, val_wd] at hR;have hch := hch.ta hC;refine zx rfl rfl (zx rfl rfl (za rfl (za rfl (zz (kh45 ?_)))));refine zr (zr2 rfl rfl rfl ?_);refine ⟨⟨_, _, rfl, ?_⟩, hch⟩;exact .inr ⟨hq, .inr ⟨x, y, hx, hy, .inr ⟨v, hv, .inr ⟨hnl, hR⟩⟩⟩⟩
 refine WHat.allocC (l := [.bool false, .slice none 0 0, .int .i64 0]) 7 rfl hS rfl rfl fun b12 wm12 hb12 hcm12 hge12 hS1 => ?_;have hgeS12 := Nat.le_trans hS.size hge12;have hS := hS1;have hgehch12 := Nat.le_trans hch.size hge12;have hch := hch.ta hcm12;have hNv := hNv.keep0 hcm12;have hNq := hNq.keep0 hcm12;have hneb612 := zdd hb6.lt hge12;have hb6 := hb6.k0 hcm12;refine WH.oneCall 1 rfl (by kernel_rfl) hasF179 rfl rfl (Int_spec n _ (hg0.keep0 hch) (by omega)) fun v w13 h' => ?_;obtain ⟨⟨ri, rfl, hNi⟩, hC⟩ := h';have hoi := hNi.one;have hokn : (intD n).ok := intD_ok (by omega);have hch := hch.ta hC;have hb6 := hb6.k0 hC;have hb12 := hb12.k0 hC;have hNv := hNv.keep0 hC;have hNq := hNq.keep0 hC;have hS := hS.trans hC;refine ⟨hS, ?_⟩;refine WH.oneCall 3 rfl (by kernel_rfl) hasF132 rfl rfl (Mul_dspec _ _ _ _ _ _ _ _ _ hNi hNq (hg0.keep0 hch) (ok_i64 hokn) (ok_i64 hokQ)) fun v w14 h' => ?_;obtain ⟨hD, hC⟩ := h';rw [both_ok hokn hokQ] at hD;obtain ⟨rx, k1, rfl, hRx, hk1⟩ := hD.cellsK;have hox := hRx.one;have hch := hch.ta hC;have hb6 := hb6.k0 hC;have hb12 := hb12.k0 hC;have hNv := hNv.keep0 hC;have hS := hS.trans hC;refine ⟨hS, ?_⟩;refine wh 4 rfl hS (eM rfl) (wh 5 rfl hS (eX rfl rfl) (wh 6 rfl hS (eX rfl rfl) ?_));refine WH.storeBN 8 rfl (by kernel_rfl) hS hgeS12 rfl rfl rfl ao hb12 (by simp) rfl fun ws34 hb12_ hcs34 hS => ?_;(try simp only [Sx.splice, qt] at hb12_);have hch := hch.s1 hcs34;have hb6 := hb6.kq hcs34;have hNv := hNv.keepBK hb12 hcs34 an;have hRx := hRx.keepBK hb12 hcs34 an;have hb12 := hb12_;refine wh 9 rfl hS (eA rfl) ?_;refine WH.done (by kernel_rfl) (kr8 _ _ _ ?_);refine kh7 (Sr fun _ kh47 => zg hb6 rfl (zg hb6 rfl ?_));refine WL.call hasF132 rfl rfl (Mul_dspec _ _ _ _ _ _ _ _ _ hNv hNv (hg0.keep0 hch) (ok_i64 hokV) (ok_i64 hokV)) fun v w15 h' => ?_;obtain ⟨hD, hC⟩ := h';rw [both_ok hokV hokV] at hD;obtain ⟨ry, k2, rfl, hRy, hk2⟩ := hD.cellsK;have hoy := hRy.one;have hch := hch.ta hC;have hb12 := hb12.k0 hC;have hRx := hRx.keep0 hC;refine zm rfl (zx rfl rfl (zx rfl rfl ?_));refine zAh rfl rfl hch fun b14 wm14 hb14 hcm14 hge14 hgehch14 hch => ?_;have hRx := hRx.keep0 hcm14;have hRy := hRy.keep0 hcm14;have hneb1214 := zdd hb12.lt hge14;have hb12 := hb12.k0 hcm14;refine zss rfl rfl ao hb14 rfl fun ws35 hb14_ hcs35 => ?_;(try simp only [Sx.splice, qt] at hb14_);have hch := hch.s1 hcs35;have hb12 := hb12.kq hcs35;have hRx := hRx.keepBK hb14 hcs35 an;have hRy := hRy.keepBK hb14 hcs35 an;have hb14 := hb14_;refine za rfl (zz (kh47 (zc fun _ kh49 => ?_)));refine CW.seqM 47 (decide (k1 ≠ 0 ∨ k2 ≠ 0)) ?_ ?_
 ·refine zS fun _ kr50 => zm rfl (zN rfl rfl (zm rfl ?_));refine zb ?_ ?_<;>intro hg12<;>try simp only [qs] at hg12
  ·refine zv rfl (zv rfl (zt rfl rfl (zz (kr50 ?_))));refine ⟨rfl, rfl, Subs.consB rfl ?_ ?_⟩
   ·first | (simp_all; done) | (simp; omega) | (refine decide_eq_decide.2 ?_; omega)
   exact SMg
  refine zw rfl (zm rfl (zw rfl (zN rfl rfl (ze rfl rfl (zz (kr50 ?_))))));refine ⟨rfl, rfl, Subs.consB rfl ?_ ?_⟩
  ·first | (simp_all; done) | (simp; omega) | (refine decide_eq_decide.2 ?_; omega)
  exact SMg
 refine zy rfl ?_ ?_<;>intro hc13<;>try simp only [qs] at hc13
 ·have hk : k1 ≠ 0 ∨ k2 ≠ 0 := hc13
  refine Sr fun _ kh51 => za rfl (za rfl (zz (kh51 ?_)));refine zr (zr2 rfl rfl rfl ?_);refine ⟨⟨_, _, rfl, ?_⟩, hch⟩;exact .inr ⟨hq, .inl ⟨hk.imp (fun q => (hk1.resolve_left (fun z => q z.1)).2) (fun q => (hk2.resolve_left (fun z => q z.1)).2), rfl, rfl⟩⟩
 have hk : ¬ (k1 ≠ 0 ∨ k2 ≠ 0) := hc13;obtain ⟨-, x, hx⟩ := hk1.resolve_right (fun q => hk (.inl (by omega)));obtain ⟨-, y, hy⟩ := hk2.resolve_right (fun q => hk (.inr (by omega)));have hokx := mulD_ok hx;have hoky := mulD_ok hy;rw [hx, Option.getD_some] at hRx;rw [hy, Option.getD_some] at hRy;rw [hx, Option.getD_some] at hb12;rw [hy, Option.getD_some] at hb14;refine zkk (kh49 (Sr fun _ kh53 => zg hb12 rfl (zg hb14 rfl ?_)));refine WL.call hasF189 rfl rfl (Sub_dspec _ _ _ _ _ _ _ _ _ hRx hRy (hg0.keep0 hch) (ok_i64 hokx) (ok_i64 hoky)) fun v w16 h' => ?_;obtain ⟨hD, hC⟩ := h';rw [val_wd, val_wd, formD_self hokx] at hD;obtain ⟨rz, k3, rfl, hRz, hk3⟩ := hD.cellsK;have hoz := hRz.one;have hch := hch.ta hC;refine zm rfl (zx rfl rfl (zx rfl rfl ?_));refine zAh rfl rfl hch fun b16 wm16 hb16 hcm16 hge16 hgehch16 hch => ?_;have hRz := hRz.keep0 hcm16;refine zss rfl rfl ao hb16 rfl fun ws36 hb16_ hcs36 => ?_;(try simp only [Sx.splice, qt] at hb16_);have hch := hch.s1 hcs36;have hRz := hRz.keepBK hb16 hcs36 an;have hb16 := hb16_;refine za rfl (zz (kh53 (zc fun _ kh55 => CW.block (Sr fun _ kh56 => zm rfl (zN rfl rfl (za rfl (zz (kh56 ?_))))))));refine zy rfl ?_ ?_<;>intro hc14<;>try simp only [qs] at hc14
 ·have h3 : k3 ≠ 0 := hc14
  obtain ⟨rfl, h3n⟩ := hk3.resolve_left (fun z => h3 z.1);refine Sr fun _ kh58 => zm rfl (za rfl (za rfl (zz (kh58 ?_))));refine zr (zr2 rfl rfl rfl ?_);refine ⟨⟨_, _, rfl, ?_⟩, hch⟩;exact .inr ⟨hq, .inr ⟨x, y, hx, hy, .inl ⟨h3n, rfl, rfl⟩⟩⟩
 have h3 : k3 = 0 := by have := hc14; omega
 obtain ⟨-, v, hv⟩ := hk3.resolve_right (fun q => by omega);have hokv : v.ok := getD_v hokx hoky hv;rw [hv, Option.getD_some] at hRz;rw [hv, Option.getD_some] at hb16;refine Sr fun _ kh60 => zm rfl (zm rfl (zQ rfl rfl (za rfl (zz (kh60 ?_)))));refine zy rfl ?_ ?_<;>intro hc15<;>try simp only [qs] at hc15
 ·have hnl : n ≤ less := hc15
  refine Sr fun _ kh62 => za rfl (za rfl (zz (kh62 ?_)));refine zr (zr2 rfl rfl rfl ?_);refine ⟨⟨_, _, rfl, ?_⟩, hch⟩;exact .inr ⟨hq, .inr ⟨x, y, hx, hy, .inr ⟨v, hv, .inl ⟨hnl, rfl, rfl⟩⟩⟩⟩
 have hnl : less < n := by have := hc15; omega
 refine zkk (kh55 (Sr fun _ kh64 => zg hb16 rfl (zm rfl (zm rfl ?_))));refine WL.call hasF190 rfl rfl (by_spec v rz n less _ hRz hokv (by omega) (by omega) (hg0.keep0 hch)) fun v w17 h' => ?_;obtain ⟨⟨rd, rfl, hNd, hNz⟩, hC⟩ := h';have hch := hch.ta hC;have hRz := hRz.keep0 hC;refine zm rfl ?_;refine WL.call hasF110 rfl rfl (Quot_spec _ _ _ _ _ _ _ _ mode _ hRz hNd (hg0.keep0 hch) (ok_i64 hokv) (ok_i64 (accD_ok _ _ 2))) fun v w18 h' => ?_;obtain ⟨⟨xb, xe, rfl, hR⟩, hC⟩ := h';rw [val_wd, val_wd] at hR;have hch := hch.ta hC;refine zx rfl rfl (zx rfl rfl (za rfl (za rfl (zz (kh64 ?_)))));refine zr (zr2 rfl rfl rfl ?_);refine ⟨⟨_, _, rfl, ?_⟩, hch⟩;exact .inr ⟨hq, .inr ⟨x, y, hx, hy, .inr ⟨v, hv, .inr ⟨hnl, hR⟩⟩⟩⟩

theorem shVar_spec (b : Nat) (S : Sh) (less mode pn pi : Int) (w : World) (hS : ShM 109 w b S) (hwf : S.wf) (hg : GW w) : Ret Tryz.prog 29 [.pointer (some ⟨b, 0, none⟩), .int .i64 less, .int .i64 mode, .agg [.int .i64 pn, .int .i64 pi].toArray] w fun u w' => (∃ x e, u = .tuple [.float .f64 x, .int .i64 e].toArray ∧ varShR S less mode pn pi x e) ∧ Chg [] w w' := by
 obtain ⟨rv, rq, hb, hNv, hNq⟩ := hS;obtain ⟨hle, hokV, hokQ, hloS, hhiS⟩ := hwf;obtain ⟨hs1, hs2, hs3, hs4, hs5, hs6⟩ := hle;have hch := crf w;have hg0 := hg;refine zE4 Tryz.func29 rfl ?_;refine Sr fun _ kh1 => ?_;refine zBh rfl rfl rfl hch fun b7 wm7 hb7 hcm7 hge7 hgehch7 hch => ?_;have hNv := hNv.keep0 hcm7;have hNq := hNq.keep0 hcm7;have hneb7 : b ≠ b7 := by have := hb.lt; omega
 have hb := hb.keep0 hcm7;refine za rfl (za rfl (zz (kh1 (zc fun _ kh3 => ?_))));refine CW.seqM 16 (decide (¬ (less = 0 ∨ less = 1))) ?_ ?_
 ·refine zS fun _ kr4 => zm rfl (zN rfl rfl (zm rfl ?_));refine zb ?_ ?_<;>intro hg1<;>try simp only [qs] at hg1
  ·refine zw rfl (zm rfl (zw rfl (zN rfl rfl (zt rfl rfl (zz (kr4 ?_))))));refine ⟨rfl, rfl, Subs.consB rfl ?_ ?_⟩
   ·first | (simp_all; done) | (simp; omega) | (refine decide_eq_decide.2 ?_; omega)
   exact SMg
  refine zv rfl (zv rfl (ze rfl rfl (zz (kr4 ?_))));refine ⟨rfl, rfl, Subs.consB rfl ?_ ?_⟩
  ·first | (simp_all; done) | (simp; omega) | (refine decide_eq_decide.2 ?_; omega)
  exact SMg
 refine zy rfl ?_ ?_<;>intro hc2<;>try simp only [qs] at hc2
 ·have hl : ¬ (less = 0 ∨ less = 1) := hc2
  refine Sr fun _ kh5 => za rfl (za rfl (zz (kh5 ?_)));refine zr (zr2 rfl rfl rfl ?_);refine ⟨⟨_, _, rfl, ?_⟩, hch⟩;exact .inl ⟨hl, rfl, rfl⟩
 have hl : less = 0 ∨ less = 1 := hc2;refine zkk (kh3 (zc fun _ kh7 => Sr fun _ kh8 => zm rfl (zm rfl (zg hb7 rfl ?_))));refine WL.call hasF91 rfl rfl (refusedSh_spec b S mode pn pi _ ⟨rv, rq, hb, hNv, hNq⟩ ⟨⟨hs1, hs2, hs3, hs4, hs5, hs6⟩, hokV, hokQ, hloS, hhiS⟩ (hg0.keep0 hch)) fun v w1 h' => ?_;obtain ⟨rfl, hC⟩ := h';have hch := hch.ta hC;have hb := hb.keep0 hC;have hb7 := hb7.k0 hC;have hNv := hNv.keep0 hC;have hNq := hNq.keep0 hC;refine za rfl (zz (kh8 (Sr fun _ kh10 => zm rfl (zN rfl rfl (zz (kh10 ?_))))));refine zy rfl ?_ ?_<;>intro hc3<;>try simp only [qs] at hc3
 ·have h0 : shE S.s mode pn pi ≠ 0 := hc3
  refine Sr fun _ kh12 => zm rfl (za rfl (za rfl (zz (kh12 ?_))));refine zr (zr2 rfl rfl rfl ?_);refine ⟨⟨_, _, rfl, ?_⟩, hch⟩;exact .inr ⟨hl, .inl ⟨h0, rfl, rfl⟩⟩
 have h0 : shE S.s mode pn pi = 0 := by have := hc3; omega
 refine zkk (kh7 (zc fun _ kh14 => CW.block ?_));refine CW.seqJ (fun D s' w' => D = [] ∧ BK w' b 109 [.int .i64 (S.s.na : Int), .int .i64 (S.s.up : Int), .int .i64 (S.s.dn : Int), .int .i64 (S.s.mi : Int), .int .i64 (S.s.pl : Int), .int .i64 (S.s.al : Int), .bool S.V.neg, rv, .int .i64 S.V.e, .bool S.Q.neg, rq, .int .i64 S.Q.e, .float .f64 S.lo, .float .f64 S.hi] ∧ NU w' rv (wd S.V.m) ∧ NU w' rq (wd S.Q.m) ∧ BK w' b7 34 [.int .i64 pn, .int .i64 pi] ∧ Chg [] w w' ∧ Subs [(24, .bool (decide (carSh S.s pn pi))), (0, .pointer (some ⟨b, 0, none⟩)), (1, .int .i64 less), (2, .int .i64 mode), (7, .pointer (some ⟨b7, 0, none⟩))] s') ?_ ?_
 ·refine CW.seqM 24 (decide (0 < S.s.na ∧ pn = 0)) ?_ ?_
  ·refine zS fun _ kr16 => zm rfl (zP rfl (zf rfl (zf rfl (zl hb rfl rfl (zG rfl rfl (zm rfl ?_))))));refine zb ?_ ?_<;>intro hg4<;>try simp only [qs] at hg4
   ·refine zw rfl (zf rfl (zw rfl (zl hb7 rfl rfl (zw rfl (zq rfl rfl (zt rfl rfl (za rfl (zz (kr16 ?_)))))))));refine ⟨rfl, rfl, Subs.consB rfl ?_ ?_⟩
    ·first | (simp_all; done) | (simp; omega) | (refine decide_eq_decide.2 ?_; omega)
    exact SMg
   refine zv rfl (zv rfl (zv rfl (ze rfl rfl (za rfl (zz (kr16 ?_))))));refine ⟨rfl, rfl, Subs.consB rfl ?_ ?_⟩
   ·first | (simp_all; done) | (simp; omega) | (refine decide_eq_decide.2 ?_; omega)
   exact SMg
  refine zy rfl ?_ ?_<;>intro hc5<;>try simp only [qs] at hc5
  ·have h1 : 0 < S.s.na ∧ pn = 0 := hc5
   refine zkk ?_;refine ⟨rfl, hb, hNv, hNq, hb7, hch, Subs.consB rfl ?_ ?_⟩
   · first | exact (decide_eq_true (.inl h1)).symm | (unfold carSh; first | exact (decide_eq_false (by omega)).symm | exact (decide_eq_true (by omega)).symm | (simp_all; done) | (simp; omega) | (refine decide_eq_decide.2 ?_; omega) | (simp_all; omega))
   first | ((repeat (first | exact Subs.refl | refine Subs.drop1 (by rfl) ?_)); done) | ((repeat (first | exact Subs.nil | refine Subs.cons rfl ?_)); done)
  have h1 : ¬ (0 < S.s.na ∧ pn = 0) := hc5;refine CW.regionSC hmix (by kernel_rfl) fun kR17 kr17 hdr => ?_;have hch := hch.ta hdr;have hb := hb.keep0 hdr;have hb7 := hb7.k0 hdr;have hNv := hNv.keep0 hdr;have hNq := hNq.keep0 hdr;refine ym rfl (yP rfl (yf rfl (yf rfl ?_)));refine WS.ev (Ev.load rfl rfl (hb.at_ rfl)) rfl ?_;refine ym rfl (yP rfl (yf rfl (yf rfl ?_)));refine WS.ev (Ev.load rfl rfl (hb.at_ rfl)) rfl ?_
  first | refine WS.ev (Ev.addIn rfl rfl (by omega)) rfl ?_ | refine WS.ev (Ev.add rfl rfl) rfl ?_
  refine WS.ev (Ev.gtr rfl rfl) rfl ?_;refine ym rfl ?_;refine WS.boolCase (fun hg6 => ?_) (fun hg6 => ?_)
  ·(try simp only [qs] at hg6);refine yw rfl (yf rfl (yw rfl ?_));refine WS.ev (Ev.load rfl rfl (hb7.at_ rfl)) rfl ?_
   refine yw rfl ?_;refine WS.ev (Ev.eql rfl rfl) rfl ?_;refine yt rfl rfl (ya rfl ?_);refine WS.nil (kr17 _ _ ?_);refine ⟨rfl, hb, hNv, hNq, hb7, hch, Subs.consB rfl ?_ ?_⟩
   · first | exact (decide_eq_true (.inl h1)).symm | (unfold carSh; first | exact (decide_eq_false (by omega)).symm | exact (decide_eq_true (by omega)).symm | (simp_all; done) | (simp; omega) | (refine decide_eq_decide.2 ?_; omega) | (simp_all; omega))
   first | ((repeat (first | exact Subs.refl | refine Subs.drop1 (by rfl) ?_)); done) | ((repeat (first | exact Subs.nil | refine Subs.cons rfl ?_)); done)
  (try simp only [qs] at hg6);refine yv rfl (yv rfl (yv rfl (ye rfl rfl (ya rfl ?_))));refine WS.nil (kr17 _ _ ?_);refine ⟨rfl, hb, hNv, hNq, hb7, hch, Subs.consB rfl ?_ ?_⟩
  · first | exact (decide_eq_true (.inl h1)).symm | (unfold carSh; first | exact (decide_eq_false (by omega)).symm | exact (decide_eq_true (by omega)).symm | (simp_all; done) | (simp; omega) | (refine decide_eq_decide.2 ?_; omega) | (simp_all; omega))
  first | ((repeat (first | exact Subs.refl | refine Subs.drop1 (by rfl) ?_)); done) | ((repeat (first | exact Subs.nil | refine Subs.cons rfl ?_)); done)
 rintro _ s' wJ ⟨rfl, hb, hNv, hNq, hb7, hch, hsub⟩;refine CW.sub hsub ?_;refine zy rfl ?_ ?_<;>intro hc7<;>try simp only [qs] at hc7
 ·have hcar : carSh S.s pn pi := hc7
  refine Sr fun _ kh18 => ?_;refine WL.call hasF97 rfl rfl (bits_NaN_spec _) fun v w2 h' => ?_;obtain ⟨rfl, rfl⟩ := h';refine za rfl (za rfl (zz (kh18 ?_)));refine zr (zr2 rfl rfl rfl ?_);refine ⟨⟨_, _, rfl, ?_⟩, hch⟩;exact .inr ⟨hl, .inr ⟨h0, .inl ⟨hcar, rfl, rfl⟩⟩⟩
 have hcn : ¬ carSh S.s pn pi := hc7;refine Sr fun _ kh20 => zm rfl ?_;refine WL.call hasF85 rfl rfl (finite_spec b S _ ⟨rv, rq, hb, hNv, hNq⟩ ⟨hs1, hs2, hs3, hs4, hs5, hs6⟩) fun v w3 h' => ?_;obtain ⟨rfl, hC⟩ := h';have hch := hch.ta hC;have hb := hb.keep0 hC;have hNv := hNv.keep0 hC;have hNq := hNq.keep0 hC;refine zm rfl (zQ rfl rfl (za rfl (zz (kh20 ?_))));refine zy rfl ?_ ?_<;>intro hc8<;>try simp only [qs] at hc8
 ·have hf : S.fin ≤ less := hc8
  refine Sr fun _ kh22 => za rfl (za rfl (zz (kh22 ?_)));refine zr (zr2 rfl rfl rfl ?_);refine ⟨⟨_, _, rfl, ?_⟩, hch⟩;exact .inr ⟨hl, .inr ⟨h0, .inr ⟨hcn, .inl ⟨hf, rfl, rfl⟩⟩⟩⟩
 have hf : less < S.fin := by have := hc8; omega
 refine zkk (kh14 (zc fun _ kh24 => ?_));refine CW.regionHC 17 rfl hmix fun kR25 kr25 hS hdr => ?_;have hch := hch.ta hdr;have hb := hb.keep0 hdr;have hNv := hNv.keep0 hdr;have hNq := hNq.keep0 hdr;have hb_r := hb;refine wh 0 rfl hS (eM rfl) (wh 2 rfl hS (eM rfl) (wh 3 rfl hS (eP rfl) (wh 4 rfl hS (eF rfl) (wh 5 rfl hS (fun _ hw' => Ev.loadB rfl rfl (hb_r.keep0 hw') rfl rfl) ?_))))
 try simp only [List.drop_succ_cons, List.drop_zero, List.take_succ_cons, List.take_zero]
 refine wh 6 rfl hS (eM rfl) (wh 7 rfl hS (eP rfl) (wh 8 rfl hS (eF rfl) (wh 9 rfl hS (fun _ hw' => Ev.loadB rfl rfl (hb_r.keep0 hw') rfl rfl) ?_)))
 try simp only [List.drop_succ_cons, List.drop_zero, List.take_succ_cons, List.take_zero]
 refine wh 10 rfl hS (eM rfl) (wh 11 rfl hS (eM rfl) ?_);refine WH.oneCall 1 rfl (by kernel_rfl) hasF85 rfl rfl (finite_spec b S _ ⟨rv, rq, hb, hNv, hNq⟩ ⟨hs1, hs2, hs3, hs4, hs5, hs6⟩) fun v w4 h' => ?_;obtain ⟨rfl, hC⟩ := h';have hch := hch.ta hC;have hNv := hNv.keep0 hC;have hNq := hNq.keep0 hC;have hS := hS.trans hC;refine ⟨hS, ?_⟩;refine WH.oneCall 12 rfl (by kernel_rfl) hasF98 rfl rfl (momOf_spec S.V S.Q rv rq S.fin less mode _ hNv hNq hokV hokQ (hg0.keep0 hch)) fun v w5 h' => ?_;obtain ⟨⟨xb, xe, rfl, hR⟩, hC⟩ := h';have hch := hch.ta hC;have hS := hS.trans hC;refine ⟨hS, ?_⟩;refine wh 13 rfl hS (eX rfl rfl) (wh 14 rfl hS (eX rfl rfl) (wh 15 rfl hS (eA rfl) (wh 16 rfl hS (eA rfl) ?_)));refine WH.done (by kernel_rfl) (kr25 _ _ _ ?_);refine kh24 ?_;refine zr (zr2 rfl rfl rfl ?_);refine ⟨⟨_, _, rfl, ?_⟩, hch⟩;exact .inr ⟨hl, .inr ⟨h0, .inr ⟨hcn, .inr ⟨hf, hR⟩⟩⟩⟩

end

/- Equality of numbers' parts. No condition. -/
section
open Go Sx

theorem fieldsOf_of {P : Program} {t : TypeId} {fs : Array Field} (h : P.underlying t = some (.struct fs)) : P.fieldsOf t = fs := by unfold Program.fieldsOf; rw [h]
theorem run_eqParts (n1 n2 : Bool) (c1 c2 e1 e2 f1 f2 : Int) (w : World) : (Op.equalIn 10000 276 (.agg [.bool n1, .int .i64 c1, .int .i64 e1, .int .u64 f1].toArray) (.agg [.bool n2, .int .i64 c2, .int .i64 e2, .int .u64 f2].toArray)).run Tryz.prog w = .ok (n1 == n2 && (c1 == c2 && (e1 == e2 && f1 == f2))) w := by
  have hu := Tryz.underlying276
  have hf := fieldsOf_of hu
  have ht : Tryz.prog.underlying 276 = some (.struct (Program.fieldsOf Tryz.prog 276)) := by rw [hf]; exact hu
  rw [run_equalIn_struct w 9999 _ _ _ ht (by kernel_rfl), hf]
  have b1 : (isAgg 4).run Tryz.prog w = .ok false w := (inferInstance : HasT Tryz.prog 4 _ _ _ _).isAgg
  have b2 : (isAgg 3).run Tryz.prog w = .ok false w := (inferInstance : HasT Tryz.prog 3 _ _ _ _).isAgg
  have b3 : (isAgg 112).run Tryz.prog w = .ok false w := (inferInstance : HasT Tryz.prog 112 _ _ _ _).isAgg
  have q1 : ∀ a b : Bool, (Op.equalIn 9999 4 (.bool a) (.bool b)).run Tryz.prog w = .ok (a == b) w := fun a b => run_equalIn_bool' w 9998 _ a b Tryz.underlying4
  have q2 : ∀ a b : Int, (Op.equalIn 9999 3 (.int .i64 a) (.int .i64 b)).run Tryz.prog w = .ok (a == b) w := fun a b => run_equalIn_int w 9998 _ .i64 .i64 a b Tryz.underlying3
  have q3 : ∀ a b : Int, (Op.equalIn 9999 112 (.int .u64 a) (.int .u64 b)).run Tryz.prog w = .ok (a == b) w := fun a b => run_equalIn_int w 9998 _ .u64 .u64 a b Tryz.underlying112
  cases h1 : (n1 == n2) <;> cases h2 : (c1 == c2) <;> cases h3 : (e1 == e2) <;> cases h4 : (f1 == f2) <;> simp [Op.eqFields, part, b1, b2, b3, q1, q2, q3, h1, h2, h3, h4]
theorem Ev.eqlParts {s : Sl} {w : World} {ty t' : TypeId} {x y : Operand} {n1 n2 : Bool} {c1 c2 e1 e2 f1 f2 : Int} (hx : opnd s x = some (.agg [.bool n1, .int .i64 c1, .int .i64 e1, .int .u64 f1].toArray)) (hy : opnd s y = some (.agg [.bool n2, .int .i64 c2, .int .i64 e2, .int .u64 f2].toArray)) :
    Ev Tryz.prog s (.binOp .eql 276 x y t') ty w (.bool (n1 == n2 && (c1 == c2 && (e1 == e2 && f1 == f2)))) w :=
  run_bin hx hy (fun _ _ => run_eqGuard_agg _ _ _ _ _ _ _ (by kernel_rfl)) (by rw [run_eql_struct, run_eqParts]; rfl)
end

/- Package dyad: Of. No condition. -/
section
open Go Sx Wd Fl

theorem parts_eq (n b : Bool) (c f : Nat) (e : Int) : (n == b && ((c : Int) == 0 && (e == e && (f : Int) == 0))) = ((n == b) && decide (c = 0 ∧ f = 0)) := by
  have h1 : ((c : Int) == 0) = decide (c = 0) := by rw [Bool.eq_iff_iff]; simp
  have h2 : ((f : Int) == 0) = decide (f = 0) := by rw [Bool.eq_iff_iff]; simp
  rw [h1, h2, beq_self_eq_true, Bool.true_and, Bool.decide_and]
theorem cls0_frac {x : Nat} : (splitP x).cls = 0 → (splitP x).frac = 0 := by
  unfold splitP
  by_cases a : x / 4503599627370496 % 2048 = 2047 ∧ x % 4503599627370496 ≠ 0
  · rw [if_pos a]; simp
  · rw [if_neg a]
    by_cases b : x / 4503599627370496 % 2048 = 2047
    · rw [if_pos b]; simp
    · rw [if_neg b]
      by_cases d : 0 < x / 4503599627370496 % 2048
      · rw [if_pos d]; simp
      · rw [if_neg d]
        by_cases f : 0 < x % 4503599627370496
        · rw [if_pos f]; simp
        · rw [if_neg f]; simp
theorem splitP_frac (x : Nat) : (splitP x).frac < 9007199254740992 := by
  unfold splitP
  split
  · simp
  · split
    · simp
    · split
      · dsimp only; omega
      · split
        · dsimp only; omega
        · simp
theorem splitP_range (x : Nat) : -5000 ≤ (splitP x).exp ∧ (splitP x).exp ≤ 5000 := by
  unfold splitP
  split
  · simp
  · split
    · simp
    · split
      · dsimp only; omega
      · split
        · dsimp only; omega
        · simp

theorem dOf_spec (x : Nat) (w : World) (hx : x < 18446744073709551616) (hg : GW w) : Ret Tryz.prog 127 [.float .f64 x] w fun u w' => (((splitP x).cls ≤ 2 ∧ ∃ r, u = .tuple [.agg [.bool (sumD (fvI x)).neg, r, .int .i64 (sumD (fvI x)).e].toArray, .int .i64 0].toArray ∧ NU w' r (wd (sumD (fvI x)).m)) ∨ (¬ (splitP x).cls ≤ 2 ∧ u = .tuple [.agg [.bool false, .slice none 0 0, .int .i64 0].toArray, .int .i64 30].toArray)) ∧ Chg [] w w' := by
 have hch := crf w;refine zE1 Tryz.func127 rfl ?_;refine Sr fun _ kh1 => ?_;refine zAh rfl rfl hch fun b2 wm2 hb2 hcm2 hge2 hgehch2 hch => ?_;refine za rfl (zz (kh1 (Sr fun _ kh3 => zm rfl ?_)));refine WL.call hasF212 rfl rfl (Split_spec x _ hx) fun v w1 h' => ?_;obtain ⟨rfl, hC⟩ := h';have hch := hch.ta hC;have hb2 := hb2.k0 hC;refine WL.allocB (l := [.bool false, .int .i64 0, .int .i64 0, .int .u64 0]) rfl rfl fun b4 wm4 hb4 hcm4 hge4 => ?_;have hgehch4 := Nat.le_trans hch.size hge4;have hch := hch.ta hcm4;have hneb24 := zdd hb2.lt hge4;have hb2 := hb2.k0 hcm4;refine zss rfl rfl ao hb4 rfl fun ws1 hb4_ hcs1 => ?_;(try simp only [Sx.splice, qt] at hb4_);have hch := hch.s1 hcs1;have hb2 := hb2.kq hcs1;have hb4 := hb4_;refine zz (kh3 (Sr fun _ kh5 => zf rfl (zl hb4 rfl rfl ?_)));refine WL.ev (Ev.build (vs := _) (cs := [_, _, _, _]) rfl rfl) rfl ?_;refine WL.allocB (l := [.bool false, .int .i64 0, .int .i64 0, .int .u64 0]) rfl rfl fun b5 wm5 hb5 hcm5 hge5 => ?_;have hgehch5 := Nat.le_trans hch.size hge5;have hch := hch.ta hcm5;have hneb25 := zdd hb2.lt hge5;have hb2 := hb2.k0 hcm5;have hneb45 := zdd hb4.lt hge5;have hb4 := hb4.k0 hcm5;refine zss rfl rfl ao hb5 rfl fun ws2 hb5_ hcs2 => ?_;(try simp only [Sx.splice, qt] at hb5_);have hch := hch.s1 hcs2;have hb2 := hb2.kq hcs2;have hb4 := hb4.kq hcs2;have hb5 := hb5_;refine zz (kh5 (Sr fun _ kh7 => zg hb5 rfl ?_));refine WL.allocB (l := [.bool false, .int .i64 0, .int .i64 0, .int .u64 0]) rfl rfl fun b6 wm6 hb6 hcm6 hge6 => ?_;have hgehch6 := Nat.le_trans hch.size hge6;have hch := hch.ta hcm6;have hneb26 := zdd hb2.lt hge6;have hb2 := hb2.k0 hcm6;have hneb46 := zdd hb4.lt hge6;have hb4 := hb4.k0 hcm6;have hneb56 := zdd hb5.lt hge6;have hb5 := hb5.k0 hcm6;refine zss rfl rfl ao hb6 rfl fun ws3 hb6_ hcs3 => ?_;(try simp only [Sx.splice, qt] at hb6_);have hch := hch.s1 hcs3;have hb2 := hb2.kq hcs3;have hb4 := hb4.kq hcs3;have hb5 := hb5.kq hcs3;have hb6 := hb6_;refine zz (kh7 (Sr fun _ kh9 => zf rfl ?_));refine WL.storeC rfl rfl o1 hb6 (by simp) rfl fun ws4 hb6_ hcs4 => ?_;(try simp only [Sx.splice, qt] at hb6_);have hch := hch.s1 hcs4;have hb2 := hb2.kq hcs4;have hb4 := hb4.kq hcs4;have hb5 := hb5.kq hcs4;have hb6 := hb6_;refine zz (kh9 (zc fun _ kh11 => CW.block ?_));refine CW.seqM 14 (decide ((splitP x).cls = 3 ∨ (splitP x).cls = 4)) ?_ ?_
 ·refine zS fun _ kr12 => zf rfl (zl hb4 rfl rfl (zq rfl rfl (zm rfl ?_)));refine zb ?_ ?_<;>intro hg1<;>try simp only [qs] at hg1
  ·refine zv rfl (zv rfl (zv rfl (zt rfl rfl (za rfl (zz (kr12 ?_))))));refine ⟨rfl, rfl, Subs.consB rfl ?_ ?_⟩
   ·first | (simp; omega) | (simp_all; done) | (refine decide_eq_decide.2 ?_; omega)
   exact SMg
  refine zw rfl (zf rfl (zw rfl (zl hb4 rfl rfl (zw rfl (zq rfl rfl (ze rfl rfl (za rfl (zz (kr12 ?_)))))))));refine ⟨rfl, rfl, Subs.consB rfl ?_ ?_⟩
  ·first | (simp; omega) | (simp_all; done) | (refine decide_eq_decide.2 ?_; omega)
  exact SMg
 refine zy rfl ?_ ?_<;>intro hc2<;>try simp only [qs] at hc2
 ·have hodd : ¬ (splitP x).cls ≤ 2 := by have := hc2; omega
  refine Sr fun _ kh13 => ?_;refine WL.ev (Ev.build (vs := _) (cs := [_, _, _]) rfl rfl) rfl ?_;refine zss rfl rfl ao hb2 rfl fun ws5 hb2_ hcs5 => ?_;(try simp only [Sx.splice, qt] at hb2_);have hch := hch.s1 hcs5;have hb2 := hb2_;refine za rfl (zz (kh13 ?_));refine zr (bodyA.retR2 rfl (RVal.cell rfl (hb2.varA rfl rfl)) (RVal.tmp rfl) ?_);exact ⟨.inr ⟨hodd, rfl⟩, hch⟩
 have hfx : (splitP x).cls ≤ 2 := by have := hc2; have := splitP_cls x; omega
 refine CW.seqM 24 (decide ((splitP x).cls = 0 ∧ (splitP x).frac = 0)) ?_ ?_
 ·refine zS fun _ kr15 => zg hb4 rfl (zg hb5 rfl ?_);refine WL.ev (Ev.eqlParts rfl rfl) rfl ?_;rw [parts_eq];refine zm rfl ?_;refine zb ?_ ?_<;>intro hg3<;>try simp only [qs] at hg3
  ·refine zv rfl (zv rfl (zv rfl (zt rfl rfl (za rfl (zz (kr15 ?_))))));refine ⟨rfl, rfl, Subs.consB rfl ?_ ?_⟩
   ·generalize (splitP x).neg = nn at *
    by_cases hP : (splitP x).cls = 0 ∧ (splitP x).frac = 0
    · (try rw [decide_eq_true hP] at *) <;> cases nn <;> simp_all
    (try rw [decide_eq_false hP] at *) <;> cases nn <;> simp_all
   exact SMg
  refine zw rfl (zg hb4 rfl (zw rfl (zg hb6 rfl (zw rfl ?_))));refine WL.ev (Ev.eqlParts rfl rfl) rfl ?_;rw [parts_eq];refine ze rfl rfl (za rfl (zz (kr15 ?_)));refine ⟨rfl, rfl, Subs.consB rfl ?_ ?_⟩
  ·generalize (splitP x).neg = nn at *
   by_cases hP : (splitP x).cls = 0 ∧ (splitP x).frac = 0
   · (try rw [decide_eq_true hP] at *) <;> cases nn <;> simp_all
   (try rw [decide_eq_false hP] at *) <;> cases nn <;> simp_all
  exact SMg
 refine zy rfl ?_ ?_<;>intro hc4<;>try simp only [qs] at hc4
 ·have hq : (splitP x).cls = 0 ∧ (splitP x).frac = 0 := hc4
  refine Sr fun _ kh16 => ?_;refine WL.ev (Ev.build (vs := _) (cs := [_, _, _]) rfl rfl) rfl ?_;refine zss rfl rfl ao hb2 rfl fun ws6 hb2_ hcs6 => ?_;(try simp only [Sx.splice, qt] at hb2_);have hch := hch.s1 hcs6;have hb2 := hb2_;refine za rfl (zz (kh16 ?_));refine zr (bodyA.retR2 rfl (RVal.cell rfl (hb2.varA rfl rfl)) (RVal.tmp rfl) ?_);refine ⟨.inl ⟨hfx, ?_⟩, hch⟩;have hz : fvI x = 0 := fvI_zero (by omega);rw [hz];exact ⟨.slice none 0 0, rfl, by rw [show (sumD 0).m = 0 from rfl, wd_zero]; exact NU.nil⟩
 have hq : (splitP x).cls = 1 ∨ (splitP x).cls = 2 := by have := hc4; have h2 := cls0_frac (x := x); omega
 have hff := fin_form hq;have hfl := splitP_frac x;have hex := splitP_range x;refine zkk (kh11 (zc fun _ kh18 => ?_));refine CW.regionKC 10 12 rfl hmix fun kR19 kr19 hS hdr => ?_;have hch := hch.ta hdr;have hb2 := hb2.k0 hdr;have hb4 := hb4.k0 hdr;have hb4_r := hb4;refine wk 0 rfl hS (eF rfl) (wk 1 rfl hS (fun _ hw' => Ev.load rfl rfl ((hb4_r.keep0 hw').at_ rfl)) (wk 2 rfl hS (eF rfl) (wk 3 rfl hS (fun _ hw' => Ev.load rfl rfl ((hb4_r.keep0 hw').at_ rfl)) (wk 5 rfl hS (eF rfl) (wk 6 rfl hS (fun _ hw' => Ev.load rfl rfl ((hb4_r.keep0 hw').at_ rfl)) ?_)))));refine WK.oneCall 4 rfl (by kernel_rfl) hasF213 rfl rfl (Of_spec (splitP x).frac _ (by omega)) fun v w2 h' => ?_;obtain ⟨hN, hC⟩ := h';have hch := hch.ta hC;have hb2 := hb2.k0 hC;have hS := hS.trans hC;refine ⟨hS, ?_⟩;refine WK.oneCall 7 rfl (by kernel_rfl) hasF173 rfl rfl (form_spec (splitP x).neg _ (wd (splitP x).frac) (splitP x).exp _ hN (hg.keep0 hch) (by omega)) fun v w3 h' => ?_;obtain ⟨hD, hC⟩ := h';rw [val_wd, hff] at hD;obtain ⟨r, d, hd, rfl, hNr⟩ := hD.resolve_right (fun q => by cases q.1);cases hd;have hch := hch.ta hC;have hb2 := hb2.k0 hC;have hS := hS.trans hC;refine ⟨hS, ?_⟩;refine wk 8 rfl hS (eX rfl rfl) (wk 9 rfl hS (eX rfl rfl) ?_);refine WK.storeB 10 rfl (by kernel_rfl) (by kernel_rfl) rfl rfl rfl ao hb2 (by simp) rfl fun ws7 hb2_ hcs7 => ?_;(try simp only [Sx.splice, qt] at hb2_);have hch := hch.s1 hcs7;have hNr := hNr.keepBK hb2 hcs7 an;have hb2 := hb2_;refine WK.after 11 rfl (by kernel_rfl) (by kernel_rfl) (Ev.assign rfl) rfl ?_;refine WK.done (by kernel_rfl) (kr19 _ _ _ ?_);refine kh18 ?_;refine zr (bodyA.retR2 rfl (RVal.cell rfl (hb2.varA rfl rfl)) (RVal.tmp rfl) ?_);exact ⟨.inl ⟨hfx, r, rfl, hNr⟩, hch⟩

end

/- Shards: Add. No condition. -/
section
open Go Sx Wd Fl

def fdy (x : Nat) : Dy := if (splitP x).cls ≤ 2 then sumD (fvI x) else Dy.zero
def Sh.one (x : Nat) : Sh := ⟨cntP [x], fdy x, (mulD (fdy x) (fdy x)).getD Dy.zero, x, x⟩
theorem sift_one (x : Nat) : siftE [x] 0 0 = 0 := by
  unfold siftE
  rw [if_neg (fun q => q (by decide)), if_neg (by simp), if_neg (by omega), if_neg (by omega)]
theorem fdy_ok (x : Nat) : (fdy x).ok := by
  unfold fdy; split
  · exact rsumD_ok (fvI_in x)
  · exact ok_zero
theorem one_wf {x : Nat} (hx : x < 18446744073709551616) : (Sh.one x).wf := by
  refine ⟨?_, fdy_ok x, getD_ok fun d h => mulD_ok h, hx, hx⟩
  show (countP SP.zero (kindP x)).le _
  have h0 : SP.zero.le 0 := by unfold SP.le; decide
  obtain ⟨a, b, c, d, e, f⟩ := countP.le (k := kindP x) h0
  exact ⟨by omega, by omega, by omega, by omega, by omega, by omega⟩

theorem shAdd_spec (b : Nat) (S : Sh) (x : Nat) (w : World) (hS : ShM 109 w b S) (hwS : S.wf) (hx : x < 18446744073709551616) (hg : GW w) : Ret Tryz.prog 48 [.pointer (some ⟨b, 0, none⟩), .float .f64 x] w fun u w' => (1099511627776 < S.s.al + 1 ∧ u = .int .i64 2 ∧ ShM 109 w' b S ∧ Chg [b] w w') ∨ (S.s.al + 1 ≤ 1099511627776 ∧ u = .int .i64 0 ∧ ShM 109 w' b (S.merge (Sh.one x)) ∧ Chg [b] w w') := by
 have hch := crf w;have hg0 := hg;have hS0 := hS.lt;refine zE2 Tryz.func48 rfl ?_;refine Sr fun _ kh1 => za rfl (zz (kh1 (Sr fun _ kh3 => zm rfl ?_)));refine WL.buildSlice (m := 1) (cs := [f64v (x)]) (by decide) (by decide) rfl (by kernel_rfl) rfl fun b14 w14 hn14 => ?_;have hcm14 := hn14.chg;have hge14 := hn14.ge;have hb14 : FB w14 b14 _ [x] := hn14.at_;have hgehch14 := Nat.le_trans hch.size hge14;have hch := hch.ta hcm14;refine WL.call hasF131 rfl rfl (Plain_spec _) fun v w1 h' => ?_;obtain ⟨rfl, hC⟩ := h';have hch := hch.ta hC;have hb14 := hb14.k0 hC;refine WL.call hasF105 rfl rfl (Sift_spec _ [x] 0 0 _ (NF.of_row hb14.row (by intro y hy; rw [List.mem_singleton.1 hy]; exact hx) (by simp) rfl (by simp))) fun v w2 h' => ?_;obtain ⟨v2, hNF, rfl, hC⟩ := (h'.resolve_left (fun q => q.1 (sift_one x))).2;obtain ⟨cn, hcn⟩ : ∃ cn, cn = cntP [x] := ⟨_, rfl⟩;rw [← hcn];unfold SP.cells;have hch := hch.ta hC;refine zm rfl (zx rfl rfl (zx rfl rfl (zx rfl rfl ?_)));refine WL.allocB (l := [.int .i64 0, .int .i64 0, .int .i64 0, .int .i64 0, .int .i64 0, .int .i64 0]) rfl rfl fun b6 wm6 hb6 hcm6 hge6 => ?_;have hgehch6 := Nat.le_trans hch.size hge6;have hch := hch.ta hcm6;refine za rfl ?_;refine zss rfl rfl ao hb6 rfl fun ws37 hb6_ hcs37 => ?_;(try simp only [Sx.splice, qt] at hb6_);have hch := hch.s1 hcs37;have hb6 := hb6_;refine za rfl (zz (kh3 (Sr fun _ kh5 => zm rfl ?_)));refine WL.call hasF127 rfl rfl (dOf_spec x _ hx (hg0.keep0 hch)) fun v w3 h' => ?_;obtain ⟨hD, hC⟩ := h';obtain ⟨F, hF⟩ : ∃ F, F = fdy x := ⟨_, rfl⟩;obtain ⟨rd, kd, rfl, hNd⟩ : ∃ rd kd, v = .tuple [.agg [.bool F.neg, rd, .int .i64 F.e].toArray, .int .i64 kd].toArray ∧ NU w3 rd (wd F.m) := by
  rw [hF]; unfold fdy;rcases hD with ⟨hc, r, rfl, hN⟩ | ⟨hc, rfl⟩
  · rw [if_pos hc]; exact ⟨r, 0, rfl, hN⟩
  rw [if_neg hc]; exact ⟨_, 30, rfl, by rw [show Dy.zero.m = 0 from rfl, wd_zero]; exact NU.nil⟩
 have hokd : F.ok := by rw [hF]; exact fdy_ok x
 have hod := hNd.one;have hch := hch.ta hC;have hb6 := hb6.k0 hC;refine zm rfl (zx rfl rfl (zx rfl rfl ?_));refine zAh rfl rfl hch fun b8 wm8 hb8 hcm8 hge8 hgehch8 hch => ?_;have hNd := hNd.keep0 hcm8;have hneb68 := zdd hb6.lt hge8;have hb6 := hb6.k0 hcm8;refine zss rfl rfl ao hb8 rfl fun ws38 hb8_ hcs38 => ?_;(try simp only [Sx.splice, qt] at hb8_);have hch := hch.s1 hcs38;have hb6 := hb6.kq hcs38;have hNd := hNd.keepBK hb8 hcs38 an;have hb8 := hb8_;refine za rfl (zz (kh5 (Sr fun _ kh7 => zg hb8 rfl (zg hb8 rfl ?_))));refine WL.call hasF132 rfl rfl (Mul_dspec _ _ _ _ _ _ _ _ _ hNd hNd (hg0.keep0 hch) (ok_i64 hokd) (ok_i64 hokd)) fun v w4 h' => ?_;obtain ⟨hD, hC⟩ := h';rw [both_ok hokd hokd] at hD;obtain ⟨rs, ks, rfl, hNs⟩ := hD.cells;obtain ⟨Qd, hQd⟩ : ∃ Qd, Qd = (mulD F F).getD Dy.zero := ⟨_, rfl⟩;rw [← hQd] at hNs;rw [← hQd];have hone : Sh.one x = ⟨cn, F, Qd, x, x⟩ := by unfold Sh.one; rw [hQd, hF, hcn]
 have hwU : (Sh.mk cn F Qd x x).wf := hone ▸ one_wf hx;have hcal : cn.al = 1 := by rw [hcn]; rfl
 have hos := hNs.one;have hch := hch.ta hC;have hb6 := hb6.k0 hC;have hb8 := hb8.k0 hC;have hNd := hNd.keep0 hC;refine zm rfl (zx rfl rfl (zx rfl rfl ?_));refine zAh rfl rfl hch fun b10 wm10 hb10 hcm10 hge10 hgehch10 hch => ?_;have hNd := hNd.keep0 hcm10;have hNs := hNs.keep0 hcm10;have hneb610 := zdd hb6.lt hge10;have hb6 := hb6.k0 hcm10;have hneb810 := zdd hb8.lt hge10;have hb8 := hb8.k0 hcm10;refine zss rfl rfl ao hb10 rfl fun ws39 hb10_ hcs39 => ?_;(try simp only [Sx.splice, qt] at hb10_);have hch := hch.s1 hcs39;have hb6 := hb6.kq hcs39;have hb8 := hb8.kq hcs39;have hNd := hNd.keepBK hb10 hcs39 an;have hNs := hNs.keepBK hb10 hcs39 an;have hb10 := hb10_;refine za rfl (zz (kh7 (Sr fun _ kh9 => zm rfl (zg hb6 rfl (zg hb8 rfl (zg hb10 rfl (zm rfl (zm rfl ?_))))))));refine WL.ev (Ev.build (vs := _) (cs := [.int .i64 (cn.na : Int), .int .i64 (cn.up : Int), .int .i64 (cn.dn : Int), .int .i64 (cn.mi : Int), .int .i64 (cn.pl : Int), .int .i64 (cn.al : Int), .bool F.neg, rd, .int .i64 F.e, .bool Qd.neg, rs, .int .i64 Qd.e, .float .f64 x, .float .f64 x]) rfl (by kernel_rfl)) rfl ?_;refine zBh rfl rfl rfl hch fun b38 wm38 hb38 hcm38 hge38 hgehch38 hch => ?_;have hNd := hNd.keep0 hcm38;have hNs := hNs.keep0 hcm38;refine WL.call hasF25 rfl rfl (shMerge_spec b b38 S ⟨cn, F, Qd, x, x⟩ _ (hS.keep0 hch) hwS ⟨rd, rs, hb38, hNd, hNs⟩ hwU (by have := hS0; omega) (hg0.keep0 hch)) fun v w5 h' => ?_;dsimp only at h';rw [hcal, ← hone] at h';have hend := h';refine za rfl (zz (kh9 ?_));refine zr (zr1 rfl rfl ?_);rcases hend with ⟨h1, rfl, h2, h3⟩ | ⟨h1, rfl, h2, h3⟩
 · exact .inl ⟨h1, rfl, h2, (Chg.any hch).trans h3⟩
 exact .inr ⟨h1, rfl, h2, (Chg.any hch).trans h3⟩

end

/- Reference of layer 7: things, counts, sums. No condition. -/
section
open Go Sx Wd

end

/- Reference of layer 7: Whole. No condition. -/
section
open Go Sx Wd

theorem kindP_le5 (x : Nat) : kindP x ≤ 5 := by unfold kindP; repeat (first | omega | split)

end

/- Reference of layer 21: New, some, finite, Merge. No condition. -/
section
open Go Sx Wd Fl

def Sh.num (S : Sh) : Prop := S.some → isNaN S.lo = false ∧ isNaN S.hi = false

end

/- Reference of layer 21: Merge. No condition. -/
section
open Go Sx Wd Fl

end

/- Reference of layer 11: may. No condition. -/
section
open Go Sx Wd

end

/- Reference of layer 11: Against, half, Nearby. No condition. -/
section
open Go Sx Wd

end

/- Reference of layer 11: half, Nearby. No condition. -/
section
open Go Sx Wd

end

/- Reference of layer 11: Nearby. No condition. -/
section
open Go Sx Wd

end

/- Reference of layer 11: rounded, Quot. No condition. -/
section
open Go Sx Wd

end

/- Reference of layer 1: parts, classes. No condition. -/
section
open Go Sx Wd

end

/- Reference of layer 13: Told, finite. No condition. -/
section
open Go Sx Wd

theorem cnt_fil : ∀ (l : List Nat) (s : SP), (l.foldl (fun s x => countP s (kindP x)) s).al = s.al + l.length ∧ (l.foldl (fun s x => countP s (kindP x)) s).na + (l.foldl (fun s x => countP s (kindP x)) s).up + (l.foldl (fun s x => countP s (kindP x)) s).dn + (filP l).length = s.na + s.up + s.dn + l.length
  | [], s => by simp [filP]
  | x :: l, s => by
    obtain ⟨h1, h2⟩ := cnt_fil l (countP s (kindP x))
    have h3 := kindP_le5 x
    simp only [List.foldl_cons, List.length_cons, h1]
    refine ⟨by simp only [countP]; omega, ?_⟩
    have e : (filP (x :: l)).length = (if kindP x ≤ 2 then 1 else 0) + (filP l).length := by
      unfold filP
      rw [List.filter_cons]
      simp only [finP, decide_eq_true_eq]
      split <;> simp [Nat.add_comm]
    rw [e]
    simp only [countP] at h2 ⊢
    rcases (by omega : kindP x = 0 ∨ kindP x = 1 ∨ kindP x = 2 ∨ kindP x = 3 ∨ kindP x = 4 ∨ kindP x = 5) with q | q | q | q | q | q <;> rw [q] at h2 ⊢ <;> simp at h2 ⊢ <;> omega
theorem cnt_n (l : List Nat) : (cntP l).al = (cntP l).na + (cntP l).up + (cntP l).dn + (filP l).length := by
  obtain ⟨h1, h2⟩ := cnt_fil l SP.zero
  unfold cntP
  simp only [SP.zero] at h1 h2 ⊢
  omega
theorem sumI_fil : ∀ l : List Nat, sumI (filP l) = sumI l
  | [] => rfl
  | x :: l => by
    have ih := sumI_fil l
    unfold filP sumI at *
    rw [List.filter_cons]
    by_cases h : kindP x ≤ 2
    · rw [if_pos (by simp [finP, h])]; simp only [List.map_cons, List.sum_cons, ih]
    · rw [if_neg (by simp [finP, h]), ih]
      have hz : fvI x = 0 := fvI_zero fun q => h (kind_cls.2 (by omega))
      simp only [List.map_cons, List.sum_cons, hz, Int.zero_add]
end

/- Reference of layer 13: Mean. No condition. -/
section
open Go Sx Wd

end

/- Reference of layer 13: Middle, Of. No condition. -/
section
open Go Sx Wd

end

/- What the laws compare is determined: each answer is the only one. No condition. -/
section
open Go Sx Wd

theorem quot_unique {nn nd : Bool} {ln ld : Nat} {en ed mode : Int} {b b' : Nat} {e e' : Int} (h : QuotP nn nd ln ld en ed mode b e) (h' : QuotP nn nd ln ld en ed mode b' e') : b = b' ∧ e = e' := by
  rcases h with ⟨a, b1, e1⟩ | ⟨a, h⟩ <;> rcases h' with ⟨a', b2, e2⟩ | ⟨a', h'⟩
  · exact ⟨b1.trans b2.symm, e1.trans e2.symm⟩
  · exact absurd a' a
  · exact absurd a a'
  · rcases h with ⟨s, b1, e1⟩ | ⟨s, n, b1, e1⟩ | ⟨s, x, y, hx, hy, h⟩ <;> rcases h' with ⟨s', b2, e2⟩ | ⟨s', n', b2, e2⟩ | ⟨s', x', y', hx', hy', h'⟩
    · exact ⟨b1.trans b2.symm, e1.trans e2.symm⟩
    · omega
    · omega
    · omega
    · exact ⟨b1.trans b2.symm, e1.trans e2.symm⟩
    · rcases n with n | n
      · rw [hx'] at n; cases n
      · rw [hy'] at n; cases n
    · omega
    · rcases n' with n | n
      · rw [hx] at n; cases n
      · rw [hy] at n; cases n
    · rw [hx] at hx'; cases hx'
      rw [hy] at hy'; cases hy'
      rcases h with ⟨z, b1, e1⟩ | ⟨z, r, N, _, b1, e1⟩ <;> rcases h' with ⟨z', b2, e2⟩ | ⟨z', r', N', _, b2, e2⟩
      · exact ⟨b1.trans b2.symm, e1.trans e2.symm⟩
      · exact absurd z z'
      · exact absurd z' z
      · have := N.unique (Nat.mul_pos (by omega) (dyB_pos _)) N'
        subst this
        exact ⟨b1.trans b2.symm, e1.trans e2.symm⟩
theorem told_unique {d : Dy} {n : Nat} {s : SP} {mode : Int} {b b' : Nat} {e e' : Int} (h : toldR d n s mode b e) (h' : toldR d n s mode b' e') : b = b' ∧ e = e' := by
  rcases h with ⟨a, b1, e1⟩ | ⟨a, h⟩ <;> rcases h' with ⟨a', b2, e2⟩ | ⟨a', h'⟩
  · exact ⟨b1.trans b2.symm, e1.trans e2.symm⟩
  · exact absurd a a'
  · exact absurd a' a
  · exact quot_unique h h'
end

/- Numbers in order: the sorted list of a list's numbers is the only one. No condition. -/
section
open Go Fl

def Srt (l : List Nat) : Prop := l.Pairwise fun a b => key a ≤ key b
def Nums (l : List Nat) : Prop := ∀ x ∈ l, x < 18446744073709551616 ∧ isNaN x = false
def sortP (l : List Nat) : List Nat := l.mergeSort fun a b => decide (key a ≤ key b)
end

/- Means of a list's numbers: put in another order, weighed alike, trimmed. No condition. -/
section
open Go Sx Wd Fl
set_option exponentiation.threshold 9000

end

/- What the long lists' means and the ways to a mean come to. No condition. -/
section
open Go Sx Wd Fl
set_option exponentiation.threshold 9000

theorem fvI_nought {w : Nat} (hw : (splitP w).cls ≤ 2) (h64 : w < 18446744073709551616) : fvI w = 0 ↔ w % 9223372036854775808 = 0 := by
  have hp : (0 : Nat) < 2 ^ 1074 := Nat.two_pow_pos _
  have e := fvI_nz hw h64
  have h1 : nz (w % 9223372036854775808) * 2 ^ 1074 = 0 ↔ w % 9223372036854775808 = 0 := by
    rw [← nz_zero (k := w % 9223372036854775808)]
    constructor
    · intro q
      rcases Nat.mul_eq_zero.1 q with q | q
      · exact q
      · omega
    · intro q; rw [q, Nat.zero_mul]
  rw [← h1, e]
  split <;> omega
end

/- Quantiles as plain numbers. No condition. -/
section
open Go Sx Wd Fl
set_option exponentiation.threshold 9000

def askQ (num den rule mode : Int) : Prop := (0 ≤ mode ∧ mode ≤ 4) ∧ (0 ≤ rule ∧ rule ≤ 4) ∧ (1 ≤ den ∧ den ≤ 2147483648) ∧ 0 ≤ num ∧ num ≤ den
instance (num den rule mode : Int) : Decidable (askQ num den rule mode) := by unfold askQ; exact inferInstance
def partQ (parts rule mode : Int) : Prop := (0 ≤ mode ∧ mode ≤ 4) ∧ (0 ≤ rule ∧ rule ≤ 4) ∧ 1 ≤ parts ∧ parts ≤ 65536
instance (parts rule mode : Int) : Decidable (partQ parts rule mode) := by unfold partQ; exact inferInstance
/-! ### Order by keys, order by values -/
end

/- Quantiles: from one number of the list to the next, rising. No condition. -/
section
open Go Sx Wd Fl
set_option exponentiation.threshold 9000

/-! ### Rounding rises -/
/-! ### Places -/
structure Row (s : List Nat) : Prop where
  srt : Srt s
  fin : finL s
  w : ∀ x ∈ s, x < 18446744073709551616
  pos : 0 < s.length
end

/- Quantiles: a greater share, the ends, how many lie on either side. No condition. -/
section
open Go Sx Wd Fl
set_option exponentiation.threshold 9000

/-! ### The least and the greatest number, by bits -/
/-! ### How many -/
end

/- Quantiles of like numbers. No condition. -/
section
open Go Sx Wd Fl
set_option exponentiation.threshold 9000

end

/- The numbers that every statement on means asks first. No condition. -/
section
open Go Sx Wd
set_option exponentiation.threshold 9000

end

/- The numbers that every statement on quantiles asks first. No condition. -/
section
open Go Sx Wd Fl
set_option exponentiation.threshold 9000

end

/- Two lists in order, put together. No condition. -/
section
open Go Sx Wd Fl

end

/- Not above, by value: of a finite number and one that may be infinite. No condition. -/
section
open Go Sx Wd Fl
set_option exponentiation.threshold 9000

end

/- References of layers 3 and 6: the difference; counts of a list. No condition. -/
section
open Go Sx Wd Fl

end

/- Reference of layer 21: Add. No condition. -/
section
open Go Sx Wd Fl

end

/- Reference of layer 21: what is refused, Mean, Var, the ends. No condition. -/
section
open Go Sx Wd Fl

end

/- Reference of layer 3: below, half, Nearby, Round. No condition. -/
section
open Go Sx Wd

end

/- Reference of layer 3: Nearby, Round. No condition. -/
section
open Go Sx Wd

end

/- Reference of layer 21: Sum. No condition. -/
section
open Go Sx Wd Fl

end

/- What the statements on quantiles need of the answers. No condition. -/
section
open Go Sx Wd Fl

/-! ### The least and the greatest one -/
section
variable {P : Program} {s : Sl} {w : World} {ty : TypeId} {x y : Operand} {t t' : TypeId} {a b : Nat}
end
end

/- Lists of integers; rows that grow within a drawn region. No condition. -/
section
open Go Sx Wd Fl

def i64v (z : Int) : Value := .int .i64 z
namespace Sx
section
variable {P : Program} {A : AQ} {n : Nat} {D : List Deferred} {s : Sl} {w : World} {ops : Array Oper} {K : KK} {S : World → Prop} {fuel : Nat} {listed : Array Bool}
variable {op : Op} {ty : TypeId} {pos : String} {af : Array Edge} {d : Nat} {v : Value} {x y : Operand}
theorem ev_growR {t e be : Nat} {de : TypeDesc} {ze : Value} {sz by_ : Nat} {z : Value} {v : Value} {f : Nat → Value} {lo : Nat} {X : List Nat} {l news : List Nat} {a : Option Addr} {mm c : Nat} [hT : HasT P t (.slice e) sz by_ z] [hE : HasT P e de 1 be ze]
    (hzs : ze.cells.size = 1) (h1 : ∀ i, (f i).oneCell' = true) (hx : opnd s x = some v) (hy : opnd s y = some (.slice a mm c)) (hg : GR w e f lo X v l) (hm : mm = news.length) (hr : RW w a (news.map f)) (hlo : lo ≤ w.heap.size) (hX : ∀ b ∈ X, b < w.heap.size)
    (hbytes : (l.length + news.length) * be ≤ 140737488355328) (h63 : l.length + news.length ≤ 70368744177664) :
    ∃ v' w', Ev P s (.call ⟨.builtin .append, [x, y].toArray, #[t, t]⟩) ty w v' w' ∧ GR w' e f lo X v' (l ++ news) ∧ Chg v.ownBlock.toList w w' := by
  cases a with
  | some ad =>
    obtain ⟨v', w', he, ho, hc, hl⟩ := ev_append (P := P) (s := s) (w := w) (ty := ty) (x := x) (y := y) (t := t) (hT := hT) (hE := hE) (news := news.map f) hzs (by omega) hx hy hg.1 (by simp; omega) (fun j u hu => by
      obtain ⟨ad', e1, hcell⟩ := hr j u hu
      cases e1; exact hcell) (fun u hu => by
      obtain ⟨i, _, rfl⟩ := List.mem_map.1 hu
      exact h1 i) (by unfold maxLen; omega) (by rw [hm]; exact hbytes)
    refine ⟨v', w', he, ⟨by rw [List.length_append, List.map_append, ← hm]; exact ho, fun b hb => ?_⟩, hc⟩
    rcases hl with q | q
    · rw [q] at hb; exact hg.2 b hb
    · rw [q] at hb; cases hb; exact ⟨hlo, fun hm => Nat.lt_irrefl _ (hX _ hm)⟩
  | none =>
    have hn : news = [] := by
      cases news with
      | nil => rfl
      | cons u r => obtain ⟨ad, e1, _⟩ := hr 0 (f u) rfl; cases e1
    subst hn
    have hm0 : mm = 0 := hm
    subst hm0
    exact ⟨v, w, Ev.append00 hx hy hg.1, by rw [List.append_nil]; exact hg, Chg.refl _ _⟩
end
end Sx
end

/- Lists that came out: SameList, Book.Reads. No condition. -/
section
open Go Sx Wd Fl

end

/- Two rows that grow beside one another; appends in a drawn region whose last store is late. No condition. -/
section
open Go Sx Wd Fl

theorem RW.one_f {w : World} {b n : Nat} {E : TypeId} {f : Nat → Value} {v : Value} (h : w.heap[b]? = some (.cells [v].toArray E (0, 0))) (hf : f n = v) : RW w (some ⟨b, 0, none⟩) ([n].map f) := by
  have e1 : [n].map f = [v] := by rw [List.map_cons, List.map_nil, hf]
  rw [e1]; exact RW.of_heap h
namespace Sx
section
variable {P : Program} {A : AQ} {n : Nat} {D : List Deferred} {s : Sl} {w : World} {ops : Array Oper} {K : KK} {S : World → Prop} {z fuel : Nat} {listed : Array Bool}
variable {op : Op} {ty : TypeId} {pos : String} {af : Array Edge} {d : Nat} {v : Value} {x y : Operand}
theorem CW.regionKT {id : Nat} {l : List Oper} (T0 : List Nat) (z m : Nat) (hz : l.length = m) (hm : P.follows .mixedOrders = true)
    (h : ∀ R : KK, (∀ D s w, A .normal D s w → R D s w) → Chg T0 w.drew w.drew → Chg [] w w.drew → WK P l.toArray R (Chg T0 w.drew) z m (Array.replicate m false) n D s w.drew) : CW P (.region id l.toArray true) A n D s w :=
  CW.regionK (Chg T0 w.drew) z m hz hm fun R hR => h R hR (Chg.refl _ _) (Chg.drew _ _)
theorem WK.growL (i : Nat) {t e be : Nat} {de : TypeDesc} {ze : Value} {sz by_ : Nat} {z0 : Value} {v : Value} {f : Nat → Value} {lo : Nat} {X : List Nat} {l news : List Nat} {a : Option Addr} {mm c : Nat} [hT : HasT P t (.slice e) sz by_ z0] [hE : HasT P e de 1 be ze]
    (hi : ops[i]? = some ⟨some d, .call ⟨.builtin .append, [x, y].toArray, #[t, t]⟩, ty, pos, af, none⟩) (hr : Region.ready .any ops listed = [i])
    (hzs : ze.cells.size = 1) (h1 : ∀ i, (f i).oneCell' = true) (hx : opnd s x = some v) (hy : opnd s y = some (.slice a mm c)) (hg : GR w e f lo X v l) (hm : mm = news.length) (hrw : RW w a (news.map f)) (hlo : lo ≤ w.heap.size) (hX : ∀ b ∈ X, b < w.heap.size)
    (hbytes : (l.length + news.length) * be ≤ 140737488355328) (h63 : l.length + news.length ≤ 70368744177664) (hd : Nat.blt d n = true)
    (hST : ∀ w', Chg v.ownBlock.toList w w' → (listed.setIfInBounds i true).getD z false = false → S w')
    (k : ∀ v' w', GR w' e f lo X v' (l ++ news) → Chg v.ownBlock.toList w w' → WK P ops K S z fuel (listed.setIfInBounds i true) n D ((d, v') :: s) w') : WK P ops K S z (fuel + 1) listed n D s w := by
  obtain ⟨v', w', he, hg2, hc⟩ := ev_growR (P := P) (s := s) (ty := ty) (t := t) (hT := hT) (hE := hE) hzs h1 hx hy hg hm hrw hlo hX hbytes h63
  exact WK.one i hi hr he (hST w' hc) hd (k v' w' hg2 hc)
theorem WK.buildSliceC (i : Nat) {w0 : World} {T0 : List Nat} {t e : TypeId} {de : TypeDesc} {sz by_ es be : Nat} {z0 ze : Value} {ps : List (Nat × Operand)} {vs : List (Nat × Value)} {cs : List Value} {m : Nat} [hT : HasT P t (.slice e) sz by_ z0] [hE : HasT P e de es be ze]
    (hi : ops[i]? = some ⟨some d, .buildSlice t m ps.toArray, ty, pos, af, none⟩) (hr : Region.ready .any ops listed = [i]) (hS : Chg T0 w0 w)
    (hm : m * es ≤ 2 ^ 24) (hp : 0 < m * es) (hx : opndP s ps = some vs) (hf : Instr.fill (fun i => some (i * es, es)) ((Array.range (m * es)).map (ze.cells[· % ze.cells.size]!)) vs = some cs.toArray) (hd : Nat.blt d n = true)
    (k : ∀ b w', New w b (.cells cs.toArray e) w' → Chg T0 w0 w' → WK P ops K (Chg T0 w0) z fuel (listed.setIfInBounds i true) n D ((d, .slice (some ⟨b, 0, none⟩) m m) :: s) w') : WK P ops K (Chg T0 w0) z (fuel + 1) listed n D s w := by
  obtain ⟨b, w', he, hn⟩ := ev_buildSlice (P := P) (ty := ty) (w := w) (t := t) (hT := hT) (hE := hE) hm hp hx hf
  exact WK.one i hi hr he (fun _ => hS.trans (Chg.any hn.chg)) hd (k b w' hn (hS.trans (Chg.any hn.chg)))
end
end Sx
end

/- A store into a row that grows. No condition. -/
section
open Go Sx Wd Fl

namespace Sx
section
variable {P : Program} {n : Nat} {D : List Deferred} {s : Sl} {w : World} {ops : Array Oper} {K : KK} {rest : List Oper} {ty : TypeId} {pos : String} {af : Array Edge} {x y : Operand}
end
end Sx
end

/- Lists that came out: Book.Take. No condition. -/
section
open Go Sx Wd Fl

end

/- What grows leaves the part that was there before readable where it lay. No condition. -/
section
open Go Sx Wd Fl
namespace Sx
section
variable {P : Program} {n : Nat} {D : List Deferred} {s : Sl} {w : World} {ops : Array Oper} {K : KK} {rest : List Oper} {ty : TypeId} {pos : String} {af : Array Edge} {d : Nat} {x y : Operand}
end
end Sx
end

/- Rows that keep clear of a block that changes. No condition. -/
section
open Go Sx Wd Fl

def Apart (val : Nat → Value) (n : Nat) : Prop := ∀ p q b, p < n → q < n → p ≠ q → (val p).ownBlock = some b → (val q).ownBlock ≠ some b
def Rows_ (w : World) (e : TypeId) (lo : Nat) (X : List Nat) (val : Nat → Value) (L : Nat → List Nat) (n : Nat) : Prop := ∀ p, p < n → GR w e f64v lo X (val p) (L p)
def lput (L : Nat → List Nat) (p : Nat) (l : List Nat) (q : Nat) : List Nat := if q = p then l else L q
end

/- Copies of numbers. No condition. -/
namespace Sx
open Go
section
variable {P : Program} {n : Nat} {D : List Deferred} {s : Sl} {w : World} {ops : Array Oper} {K : KK} {rest : List Oper} {ty : TypeId} {pos : String} {af : Array Edge} {d : Nat} {x y : Operand}
end
end Sx

/- Copies of lists of numbers; parts of them. No condition. -/
section
open Go Sx Wd Fl

end

/- Blocks from a bound on; a Book's lists while marks are written into them. No condition. -/
section
open Go Sx Wd Fl

def upF (lo : Nat) (w : World) : List Nat := List.range' lo (w.heap.size - lo)
theorem GR.ge {w : World} {e : TypeId} {f : Nat → Value} {lo : Nat} {X : List Nat} {v : Value} {l : List Nat} (h : GR w e f lo X v l) : ∀ b ∈ v.ownBlock.toList, lo ≤ b := fun b hb => (h.2 b (Option.mem_toList.1 hb)).1
structure MI (e lo n : Nat) (X : List Nat) (val : Nat → Value) (L : Nat → List Nat) (w : World) : Prop where
  rows : Rows_ w e lo X val L (n + n)
  eq : ∀ i, i < n → L (n + i) = L i
  len : ∀ i, (L i).length ≤ 1000000
  wd : ∀ i, ∀ x ∈ L i, x < 18446744073709551616
end

/- A Book's lists while its lists grow. No condition. -/
section
open Go Sx Wd Fl

def Sep (v u : Value) : Prop := ∀ b, v.ownBlock = some b → u.ownBlock ≠ some b
def Grew (w : World) (v v' : Value) : Prop := ∀ b, v'.ownBlock = some b → v.ownBlock = some b ∨ w.heap.size ≤ b
def butB (w : World) (v : Value) : List Nat := (List.range w.heap.size).filter fun b => decide (v.ownBlock ≠ some b)
namespace Sx
section
variable {P : Program} {n : Nat} {D : List Deferred} {s : Sl} {w : World} {ops : Array Oper} {K : KK} {rest : List Oper} {ty : TypeId} {pos : String} {af : Array Edge} {d : Nat} {x y : Operand}
end
end Sx
structure PE (i n k lo : Nat) (fO fW : Nat → Value) (L : Nat → List Nat) (w : World) : Prop where
  g : ∀ p, i ≤ p → p < n → GR w 31 f64v lo [] (fO p) (L p)
  len : ∀ p, i ≤ p → p < n → (L p).length ≤ 1000000
  s : ∀ p, i ≤ p → p < n → ∀ q, q < k → (q ≠ p → Sep (fO q) (fO p)) ∧ Sep (fW q) (fO p)
section
variable {i n k kO kW lo bk : Nat} {vO vW : Value} {fO fW : Nat → Value} {L : Nat → List Nat} {vl vw v' : Value} {l1 l2 l3 : List Nat} {w w' : World}
end
end

/- Reference of layer 21: Var. No condition. -/
section
open Go Sx Wd Fl

end

/- Bytes, the low one first; what a shard is as bytes. No condition. -/
section
open Go Sx Wd Fl

def leB (n k : Nat) : List Nat := (List.range k).map fun i => n / 256 ^ i % 256
theorem leB_zero (n : Nat) : leB n 0 = [] := rfl
theorem leB_succ (n k : Nat) : leB n (k + 1) = leB n k ++ [n / 256 ^ k % 256] := by unfold leB; rw [List.range_succ, List.map_append]; rfl
theorem leB_len (n k : Nat) : (leB n k).length = k := by unfold leB; rw [List.length_map, List.length_range]
def encD (d : Dy) : List Nat := leB (if d.neg = true then 1 else 0) 1 ++ leB (d.e + 4096).toNat 2 ++ leB (wd d.m).length 2 ++ ((wd d.m).map fun x => leB x 4).flatten
def encS (S : Sh) : List Nat := leB S.s.na 8 ++ leB S.s.up 8 ++ leB S.s.dn 8 ++ leB S.s.mi 8 ++ leB S.s.pl 8 ++ leB S.s.al 8 ++ encD S.V ++ encD S.Q ++ (if S.some then leB S.lo 8 ++ leB S.hi 8 else [])
structure YG (lo : Nat) (v0 : Value) (w0 : World) (v : Value) (L : List Nat) (w : World) : Prop where
  g : GR w 5 u8v lo [] v L
  ch : Chg v0.ownBlock.toList w0 w
  gr : Grew w0 v0 v
end

/- Lists that came out: Book.Owned. No condition. -/
section
open Go Sx Wd Fl

end

/- A Book of two lists. No condition. -/
section
open Go Sx Wd Fl

end

/- The document: a dyad as bytes, a shard as bytes. No condition. -/
section
open Go Sx Wd Fl

theorem flat_take {l : List Nat} {i : Nat} (h : i < l.length) : ((l.take (i + 1)).map fun y => leB y 4).flatten = ((l.take i).map fun y => leB y 4).flatten ++ leB (l.getD i 0) 4 := by
  rw [take_step h, List.map_append, List.flatten_append]; simp
theorem flat_len (l : List Nat) : ((l.map fun y => leB y 4).flatten).length = 4 * l.length := by
  induction l with
  | nil => rfl
  | cons a l ih => rw [List.map_cons, List.flatten_cons, List.length_append, leB_len, ih, List.length_cons]; omega
end

/- The document: a shard as bytes. No condition. -/
section
open Go Sx Wd Fl

structure Sh.ex (S : Sh) : Prop where
  v : -4096 ≤ S.V.e ∧ S.V.e ≤ 61439
  q : -4096 ≤ S.Q.e ∧ S.Q.e ≤ 61439
  lv : (wd S.V.m).length ≤ 160
  lq : (wd S.Q.m).length ≤ 160
theorem encD_len (d : Dy) : (encD d).length = 5 + 4 * (wd d.m).length := by
  unfold encD
  rw [List.length_append, List.length_append, List.length_append, leB_len, leB_len, leB_len, flat_len]
theorem cnt6_le {s : SP} (h : s.le 1099511627776) (i : Nat) : [s.na, s.up, s.dn, s.mi, s.pl, s.al].getD i 0 ≤ 1099511627776 := by
  obtain ⟨a, b, c, d, e, f⟩ := h
  match i with
  | 0 => exact a
  | 1 => exact b
  | 2 => exact c
  | 3 => exact d
  | 4 => exact e
  | 5 => exact f
  | (_ + 6) => exact Nat.zero_le _
theorem cnt6_at (s : SP) {i : Nat} (h : i < 6) : [Value.int .i64 (s.na : Int), .int .i64 (s.up : Int), .int .i64 (s.dn : Int), .int .i64 (s.mi : Int), .int .i64 (s.pl : Int), .int .i64 (s.al : Int)][i]? = some (.int .i64 (([s.na, s.up, s.dn, s.mi, s.pl, s.al].getD i 0 : Nat) : Int)) := by
  have hi6 : i = 0 ∨ i = 1 ∨ i = 2 ∨ i = 3 ∨ i = 4 ∨ i = 5 := by omega
  rcases hi6 with rfl | rfl | rfl | rfl | rfl | rfl <;> rfl
theorem flat8_take {l : List Nat} {i : Nat} (h : i < l.length) : ((l.take (i + 1)).map fun y => leB y 8).flatten = ((l.take i).map fun y => leB y 8).flatten ++ leB (l.getD i 0) 8 := by
  rw [take_step h, List.map_append, List.flatten_append]; simp
theorem flat8_len (l : List Nat) : ((l.map fun y => leB y 8).flatten).length = 8 * l.length := by
  induction l with
  | nil => rfl
  | cons a l ih => rw [List.map_cons, List.flatten_cons, List.length_append, leB_len, ih, List.length_cons]; omega

end

/- Own blocks of bytes: make, store, copy. No condition. -/
section
open Go Sx Wd

def YB (w : World) (b : Nat) (E : TypeId) (l : List Nat) : Prop := w.heap[b]? = some (.cells (l.map u8v).toArray E (0, 0))
section
variable {w w' : World} {b : Nat} {E : TypeId} {l : List Nat} {T : List Nat}
theorem YB.row (h : YB w b E l) : RW w (some ⟨b, 0, none⟩) (l.map u8v) := RW.of_heap h
theorem YB.keep0 (h : YB w b E l) (hc : Chg [] w w') : YB w' b E l := hc.heap h (by simp)
theorem u8_one (l : List Nat) : ∀ v ∈ l.map u8v, v.oneCell' = true := fun v hv => by obtain ⟨x, _, rfl⟩ := List.mem_map.1 hv; rfl
theorem madeY {z : Value} (hz : z.cells = #[.int .u8 0]) (n : Nat) : madeCells z.cells (n * 1) = ((List.replicate n 0).map u8v).toArray := by
  rw [hz, Nat.mul_one]
  apply Array.ext'
  simp [madeCells, List.map_replicate, u8v, Nat.mod_one, List.map_const']
theorem copy_pad (p xs : List Nat) (n : Nat) : (p ++ List.replicate (xs.length + n) 0).take p.length ++ xs ++ (p ++ List.replicate (xs.length + n) 0).drop (p.length + xs.length) = p ++ xs ++ List.replicate n 0 := by
  rw [List.take_left', List.drop_append, List.drop_replicate]
  · simp
  · rfl
theorem set_pad (p : List Nat) (x n : Nat) : (p ++ List.replicate (n + 1) 0).set p.length x = p ++ [x] ++ List.replicate n 0 := by
  rw [List.set_append_right _ _ (Nat.le_refl _), Nat.sub_self, List.replicate_succ, List.set_cons_zero]; simp
end
namespace Sx
section
variable {P : Program} {n : Nat} {D : List Deferred} {s : Sl} {w : World} {ops : Array Oper} {K : KK} {rest : List Oper} {ty : TypeId} {pos : String} {af : Array Edge} {d : Nat} {x y : Operand}
theorem WL.makeY (j i : Nat) {t : TypeId} {e be : Nat} {kl kc : IntKind} {l c : Int} {sz by_ : Nat} {z : Value} [hT : HasT P t (.slice e) sz by_ z] [hE : HasT P e (.int .u8) 1 be (.int .u8 0)] (hx : opnd s x = some (.int kl l)) (hy : opnd s y = some (.int kc c))
    (hl : l = (j : Int)) (hc : c = (i : Int)) (hlc : j ≤ i) (hb : be * i ≤ 281474976710656) (h63 : i ≤ 281474976710656) (hd : Nat.blt d n = true)
    (k : ∀ b w', YB w' b e (List.replicate i 0) → Chg [] w w' → w.heap.size ≤ b → WL P ops K rest n D ((d, .slice (some ⟨b, 0, none⟩) j i) :: s) w') : WL P ops K (⟨some d, .makeSlice t x y, ty, pos, af, none⟩ :: rest) n D s w := by
  subst hl; subst hc
  refine WL.make (hT := hT) (hE := hE) hx hy (by omega) (by omega) (by rw [show (be : Int) * (i : Int) = ((be * i : Nat) : Int) by simp]; omega) (by omega) hd fun b w' hn => ?_
  have h1 := hn.at_
  rw [show (i : Int).toNat = i by omega, madeY (by rfl)] at h1
  exact k b w' h1 hn.chg hn.ge
theorem WL.storeY {t : TypeId} {ds : TypeDesc} {by_ : Nat} {z : Value} {b i v : Nat} {l : List Nat} {E : TypeId} [hT : HasT P t ds 1 by_ z] (hx : opnd s x = some (.pointer (some ⟨b, i, none⟩))) (hy : opnd s y = some (.int .u8 (v : Int)))
    (hb : YB w b E l) (hi : i < l.length) (k : ∀ w', YB w' b E (l.set i v) → Chg [b] w w' → WL P ops K rest n D s w') : WL P ops K (⟨none, .store t x y, ty, pos, af, none⟩ :: rest) n D s w :=
  WL.store (l := l.map u8v) (v := u8v v) hx hy rfl hb (by simpa using hi) fun w' hu => k w' (by have := hu.at_; rw [← List.map_set] at this; exact this) hu.chg
theorem ev_copyY {t t' : TypeId} {e be : Nat} {b o m c c2 : Nat} {a : Option Addr} {l xs : List Nat} {sz by_ : Nat} {z ze : Value} {de : TypeDesc} [hT : HasT P t (.slice e) sz by_ z] [hE : HasT P e de 1 be ze] (hx : opnd s x = some (.slice (some ⟨b, o, none⟩) m c)) (hy : opnd s y = some (.slice a xs.length c2)) (hb : YB w b e l) (hr : RW w a (xs.map u8v)) (hne : 0 < xs.length) (hm : xs.length ≤ m) (hf : o + xs.length ≤ l.length) :
    ∃ w', Ev P s (.call ⟨.builtin .copy, [x, y].toArray, #[t, t']⟩) ty w (goInt xs.length) w' ∧ YB w' b e (l.take o ++ xs ++ l.drop (o + xs.length)) ∧ Chg [b] w w' := by
  obtain ⟨i, hi, hi1, hi2, hi3⟩ := hE.inf
  have hsz : (P.info? e).map (·.size) = some 1 := by rw [hi]; simp [hi1]
  obtain ⟨ad, rfl⟩ := hr.some_ (by simpa using hne)
  have hlen : (xs.map u8v).length = Nat.min xs.length m := by
    show _ = min xs.length m
    simp; omega
  have hrun := run_copy_row (P := P) w t t' ty e b o m c ad xs.length c2 (l.map u8v).toArray e (xs.map u8v) hT.und hsz hb hlen
    (fun j v hv => by
      obtain ⟨ad', e0, h2⟩ := hr j v hv
      cases e0; exact h2)
    (by simp; omega) (u8_one _)
  rw [List.length_map] at hrun
  obtain ⟨Wn, hWn⟩ : ∃ Wn, Wn = w.setRow b ((l.map u8v).toArray.toList.take o ++ xs.map u8v ++ (l.map u8v).toArray.toList.drop (o + xs.length)).toArray := ⟨_, rfl⟩
  rw [← hWn] at hrun
  refine ⟨Wn, fun ρ d' pos af g hρ => ?_, ?_, ?_⟩
  · have e1 := hρ x _ hx
    have e2 := hρ y _ hy
    simp [execOp, resolve, invoke, builtin, e1, e2, hrun]
  · have := setRow_heap w b _ ((l.map u8v).toArray.toList.take o ++ xs.map u8v ++ (l.map u8v).toArray.toList.drop (o + xs.length)).toArray e (0, 0) hb
    rw [← hWn] at this
    unfold YB
    rw [this]
    simp [List.map_drop, List.map_take]
  · subst hWn
    exact ⟨rfl, rfl, rfl, by simp [World.setRow], fun q hq hnq => setRow_other w b q _ (by simpa using hnq)⟩
theorem WH.copyY (i : Nat) {S0 : World} {T0 : List Nat} {fuel : Nat} {listed : Array Bool} {t t' : TypeId} {e be : Nat} {b o m m2 c c2 : Nat} {a : Option Addr} {l : List Nat} (xs : List Nat) {sz by_ : Nat} {z ze : Value} {de : TypeDesc} [hT : HasT P t (.slice e) sz by_ z] [hE : HasT P e de 1 be ze] (hi : ops[i]? = some ⟨some d, .call ⟨.builtin .copy, [x, y].toArray, #[t, t']⟩, ty, pos, af, none⟩) (hr : Region.ready .any ops listed = [i]) (hS : Chg T0 S0 w) (hT0 : b ∈ T0)
    (hx : opnd s x = some (.slice (some ⟨b, o, none⟩) m c)) (hy : opnd s y = some (.slice a m2 c2)) (hl : m2 = xs.length) (hb : YB w b e l) (hrw : RW w a (xs.map u8v)) (hne : 0 < xs.length) (hm : xs.length ≤ m) (hf : o + xs.length ≤ l.length) (hd : Nat.blt d n = true)
    (k : ∀ w', YB w' b e (l.take o ++ xs ++ l.drop (o + xs.length)) → Chg [b] w w' → Chg T0 S0 w' → WH P ops K (Chg T0 S0) fuel (listed.setIfInBounds i true) n D ((d, goInt xs.length) :: s) w') : WH P ops K (Chg T0 S0) (fuel + 1) listed n D s w := by
  subst hl
  obtain ⟨w', he, hb', hc⟩ := ev_copyY (P := P) (ty := ty) (t := t) (t' := t') (hT := hT) (hE := hE) hx hy hb hrw hne hm hf
  have hS2 := hS.trans (hc.mono (T' := T0) fun q hq => by rw [List.mem_singleton.1 hq]; exact hT0)
  exact WH.one i hi hr he hS2 hd (k w' hb' hc hS2)
theorem CW.regionHT {A : AQ} {id : Nat} {l : List Oper} (T0 : List Nat) (m : Nat) (hz : l.length = m) (hm : P.follows .mixedOrders = true)
    (h : ∀ R : KK, (∀ D s w, A .normal D s w → R D s w) → Chg T0 w.drew w.drew → Chg [] w w.drew → WH P l.toArray R (Chg T0 w.drew) m (Array.replicate m false) n D s w.drew) : CW P (.region id l.toArray true) A n D s w :=
  CW.regionH (Chg T0 w.drew) m hz hm fun R hR => h R hR (Chg.refl _ _) (Chg.drew _ _)
end
end Sx
end

/- Strings: appended to bytes, made of bytes; rows of records. No condition. -/
section
open Go Sx Wd

def sB (s : ByteArray) : List Nat := s.data.toList.map UInt8.toNat
def bA (l : List Nat) : ByteArray := ⟨(l.map UInt8.ofNat).toArray⟩
namespace Sx
section
variable {P : Program} {n : Nat} {D : List Deferred} {s : Sl} {w : World} {ops : Array Oper} {K : KK} {rest : List Oper} {ty : TypeId} {pos : String} {af : Array Edge} {d : Nat} {x y : Operand}
theorem bytes_fold (l : List Nat) (r : ByteArray) : (l.map fun (x : Nat) => (x : Int)).foldl (fun r n => r.push (UInt8.ofNat n.toNat)) r = ⟨r.data ++ (l.map UInt8.ofNat).toArray⟩ := by
  induction l generalizing r with
  | nil => simp
  | cons a l ih =>
    simp only [List.map_cons, List.foldl_cons]
    rw [ih]
    congr 1
    apply Array.ext'
    simp [ByteArray.push]
theorem Ev.toStr {src dst e : TypeId} {sz by_ sz' by' be : Nat} {z z' : Value} {a : Option Addr} {m c : Nat} {l : List Nat} [hS : HasT P src (.slice e) sz by_ z] [hE : HasT P e (.int .u8) 1 be (.int .u8 0)] [hD : HasT P dst .string sz' by' z']
    (hx : opnd s x = some (.slice a m c)) (hm : m = l.length) (hr : RW w a (l.map u8v)) : Ev P s (.convert src dst x) ty w (.string (bA l)) w := fun ρ d' pos af g hρ => by
  have e1 := hρ x _ hx
  subst hm
  have h0 := run_convert_bytes_string (P := P) w src dst e a l.length c hS.und hE.und hD.und
  have h1 : (Conv.bytesToString (.slice a l.length c)).run P w = .ok (.string (bA l)) w := by
    cases a with
    | none =>
      cases l with
      | nil => rfl
      | cons u r => obtain ⟨ad, e, _⟩ := hr 0 _ rfl; cases e
    | some ad =>
      have hl : (loadCells ad l.length).run P w = .ok ((l.map fun (x : Nat) => (x : Int)).map (Value.int .u8)).toArray w := by
        have := run_loadCells_list (P := P) (w := w) ad (l.map u8v) fun j v hv => by
          obtain ⟨ad', e, hc⟩ := hr j v hv
          cases e; exact hc
        simp only [List.length_map] at this
        rw [this, List.map_map]
        rfl
      rw [run_bytesToString (P := P) w ad l.length c _ hl, bytes_fold]
      congr 2
      first | (simp [bA, ByteArray.empty, ByteArray.emptyWithCapacity]; done) | (simp [bA, ByteArray.empty, ByteArray.emptyWithCapacity]; rfl)
  simp [execOp, e1, h0, h1]
end
end Sx
section
variable {w w' : World} {e es lo m : Nat} {X : List Nat} {v : Value} {l : List Value}
end
end

/- The program: numbers as bytes. No condition. -/
section
open Go Sx Wd Fl

theorem pow8 (i : Nat) : 2 ^ (8 * i) = 256 ^ i := by rw [Nat.pow_mul]
structure KLw (n k b : Nat) (w0 : World) (i : Nat) (w : World) : Prop where
  hi : i ≤ k
  hb : YB w b 5 (leB n i ++ List.replicate (k - i) 0)
  ch : Chg [] w0 w

theorem low_spec (n k : Nat) (w : World) (hn : n < 18446744073709551616) (hk : k ≤ 8) : Ret Tryz.prog 62 [.int .u64 (n : Int), .int .i64 (k : Int)] w fun u w' => (∃ b, u = .slice (some ⟨b, 0, none⟩) k k ∧ YB w' b 5 (leB n k) ∧ w.heap.size ≤ b) ∧ Chg [] w w' := by
 have hch := crf w;refine zE2 Tryz.func62 rfl ?_;refine Sr fun _ kh1 => za rfl (zz (kh1 (Sr fun _ kh3 => zm rfl ?_)));refine WL.makeY k k rfl rfl rfl rfl (Nat.le_refl _) (by omega) (by omega) rfl fun b8 w8 hb8 hcm8 hgb => ?_;have hch := hch.ta hcm8;refine za rfl (zz (kh3 (zc fun _ kh5 => Sr fun _ kh6 => zm rfl (zn rfl (zm rfl (zz (kh6 (CW.block ?_))))))));refine CW.loop (S := fun i : Nat => [(0, .int .u64 (n : Int)), (5, .slice (some ⟨b8, 0, none⟩) k k), (10, .int .i64 (k : Int)), (11, .int .i64 (i : Int))]) (Inv := KLw n k b8 w) (mu := fun i => k - i) (0) ?_ ?_ ?_
 ·exact ⟨Nat.zero_le _, hb8, hch⟩
 ·exact SLp
 rintro i wr ⟨hi, hb8, hch⟩;refine Sr fun _ kh8 => zL rfl rfl (zz (kh8 (zc fun _ kh10 => ?_)));refine zy rfl ?_ ?_<;>intro hc1<;>try simp only [qs] at hc1
 ·obtain ⟨m, hm⟩ : ∃ m, k - i = m + 1 := ⟨k - i - 1, by omega⟩
  rw [hm] at hb8;have hll := leB_len n i;refine zkk (kh10 (zc fun _ kh11 => CW.block (Sr fun _ kh12 => zm rfl (za rfl (zz (kh12 ?_))))));refine zR fun _ kr14 => ?_;refine zm rfl (zm rfl (zm rfl (zm rfl ?_)));refine WL.ev (Ev.mulIn rfl rfl (by omega)) rfl ?_;refine WL.ev (Ev.shrU (b := 8 * i) rfl rfl (by simp only [IntKind.bits]; omega)) rfl ?_;rw [pow8];refine WL.ev (Ev.conv8 rfl rfl) rfl ?_;refine WL.ev (Ev.ixB (i) rfl rfl (by omega) (by omega)) rfl ?_;refine WL.storeY rfl rfl hb8 (by rw [List.length_append, List.length_replicate]; omega) fun ws1 hb8_ hcs1 => ?_;have hset := set_pad (leB n i) (n / 256 ^ i % 256) m;rw [hll] at hset;rw [hset, ← leB_succ, show m = k - (i + 1) by omega] at hb8_;have hb8 := hb8_;have hch := hch.step hcs1 (fun y hy => .inr (by rw [List.mem_singleton.1 hy]; exact hgb));refine WL.nil (kr14 _ _ _ (kh11 ?_));refine zS fun _ kr15 => ?_;(first | refine zi rfl rfl ?_ | refine zo rfl rfl ?_);refine zm rfl (zz (kr15 ?_));refine ⟨rfl, i + 1, ?_, ?_, ?_⟩
  ·exact SLp
  ·exact ⟨by omega, hb8, hch⟩
  show k - (i + 1) < k - i; omega
 have hik : i = k := by omega
 subst hik;rw [Nat.sub_self, List.replicate_zero, List.append_nil] at hb8;refine CW.exit ?_;refine kh5 (Sr fun _ kh16 => zm rfl (za rfl (zz (kh16 ?_))));refine zr (zr1 rfl rfl ?_);exact ⟨⟨b8, rfl, hb8, hgb⟩, hch⟩

end

/- The program: a dyad as bytes. No condition. -/
section
open Go Sx Wd Fl

theorem cut_1 {b j c : Nat} (h : j < c) : cutAt (some ⟨b, 0, none⟩) j c 1 = some ⟨b, j, none⟩ := by
  unfold cutAt
  rw [if_neg (by omega)]
  simp [Addr.add]
  intro q; exact q.symm
theorem pad_sgn (neg : Bool) (n : Nat) : (if neg = true then (List.replicate (n + 1) 0).set 0 1 else List.replicate (n + 1) 0) = leB (if neg = true then 1 else 0) 1 ++ List.replicate n 0 := by
  cases neg <;> rfl
theorem YB.pad {w : World} {b : Nat} {E : TypeId} {p xs : List Nat} {o k n : Nat} (h : YB w b E ((p ++ List.replicate k 0).take o ++ xs ++ (p ++ List.replicate k 0).drop (o + xs.length))) (ho : p.length = o) (hk : k = xs.length + n) : YB w b E (p ++ xs ++ List.replicate n 0) := by
  subst ho; subst hk
  rwa [copy_pad] at h
structure KWr (x : Dy) (b1 b11 cx N : Nat) (ax : Option Addr) (H : List Nat) (w0 : World) (i : Nat) (w : World) : Prop where
  hi : i ≤ (wd x.m).length
  h1 : BK w b1 107 [.bool x.neg, .slice ax (wd x.m).length cx, .int .i64 x.e]
  hb : YB w b11 5 ((H ++ (((wd x.m).take i).map fun y => leB y 4).flatten) ++ List.replicate (4 * ((wd x.m).length - i)) 0)
  ch : Chg [] w0 w

theorem written_spec (x : Dy) (rx : Value) (w : World) (hN0 : NU w rx (wd x.m)) (he : -4096 ≤ x.e ∧ x.e ≤ 61439) (hl : (wd x.m).length ≤ 65535) : Ret Tryz.prog 63 [.agg [.bool x.neg, rx, .int .i64 x.e].toArray] w fun u w' => (∃ b, u = .slice (some ⟨b, 0, none⟩) (encD x).length (encD x).length ∧ YB w' b 5 (encD x) ∧ w.heap.size ≤ b) ∧ Chg [] w w' := by
  obtain ⟨⟨ax, cx, rfl, hcapx, hrx⟩, hWx, hlx⟩ := hN0;obtain ⟨N, hN⟩ : ∃ N, N = 5 + 4 * (wd x.m).length := ⟨_, rfl⟩;have hch := crf w;refine zE1 Tryz.func63 rfl ?_;refine Sr fun _ kh1 => ?_;refine zBh rfl rfl rfl hch fun b1 wm1 hb1 hcm1 hge1 hgehch1 hch => ?_;refine za rfl (zz (kh1 (Sr fun _ kh3 => zf rfl ?_)));refine WL.ev (Ev.load (v := .slice ax (wd x.m).length cx) rfl rfl (hb1.at_ rfl)) rfl ?_;refine zn rfl ?_;refine WL.ev (Ev.mulIn rfl rfl (by omega)) rfl ?_;(first | refine zi rfl rfl ?_ | refine zo rfl rfl ?_);have hch0 := hch.size;refine WL.makeY N N rfl rfl (by omega) (by omega) (Nat.le_refl _) (by omega) (by omega) rfl fun b11 w11 hb11 hcm11 hgb => ?_;have hne0 : b1 ≠ b11 := by have := hb1.lt; have := hgb; omega
  have hch := hch.ta hcm11;have hb1 := hb1.keep0 hcm11;have hgb := Nat.le_trans hch0 hgb;refine za rfl (zz (kh3 ?_));refine CW.seqJ (fun D s' w' => D = [] ∧ BK w' b1 107 [.bool x.neg, .slice ax (wd x.m).length cx, .int .i64 x.e] ∧ YB w' b11 5 (leB (if x.neg = true then 1 else 0) 1 ++ List.replicate (4 + 4 * (wd x.m).length) 0) ∧ Chg [] w w' ∧ Subs [(1, .pointer (some ⟨b1, 0, none⟩)), (3, .slice (some ⟨b11, 0, none⟩) N N)] s') ?_ ?_
  · refine Sr fun _ kh6 => zf rfl (zl hb1 rfl rfl (zz (kh6 ?_)));refine zy rfl ?_ ?_<;>intro hc1<;>try simp only [qs] at hc1
    · have hng := hc1
      refine zS fun _ kr8 => zm rfl ?_;refine WL.ev (Ev.ixB (0) rfl rfl rfl (by omega)) rfl ?_;refine WL.storeY (v := 1) rfl rfl hb11 (by rw [List.length_replicate]; omega) fun ws1 hb11_ hcs1 => ?_;have hb1 := hb1.keep hcs1 (by simpa using hne0);have hch := hch.step hcs1 (fun y hy => .inr (by rw [List.mem_singleton.1 hy]; exact hgb));have hpd := pad_sgn x.neg (4 + 4 * (wd x.m).length);rw [if_pos hng, show 4 + 4 * (wd x.m).length + 1 = N by omega] at hpd;rw [hpd] at hb11_;refine zz (kr8 ?_);exact ⟨rfl, hb1, hb11_, hch, (by first | ((repeat (first | exact Subs.refl | refine Subs.drop1 (by rfl) ?_)); done) | ((repeat (first | exact Subs.nil | refine Subs.cons rfl ?_)); done))⟩
    have hng : ¬ x.neg = true := by simpa using hc1
    have hpd := pad_sgn x.neg (4 + 4 * (wd x.m).length);rw [if_neg hng, show 4 + 4 * (wd x.m).length + 1 = N by omega] at hpd;rw [hpd] at hb11;refine zkk ?_;exact ⟨rfl, hb1, hb11, hch, (by first | ((repeat (first | exact Subs.refl | refine Subs.drop1 (by rfl) ?_)); done) | ((repeat (first | exact Subs.nil | refine Subs.cons rfl ?_)); done))⟩
  rintro _ s' wJ ⟨rfl, hb1, hb11, hch, hsub⟩;refine CW.sub hsub ?_;refine zc fun _ kh9 => ?_;refine CW.regionHT [b11] 8 rfl hmix fun kR10 kr10 hS hdr => ?_;have hch := hch.ta hdr;have hb1 := hb1.keep0 hdr;have hb1_r := hb1;have hb1_r := hb1;have hb11 := hb11.keep0 hdr;have hne1 : b1 ∉ [b11] := by simp; omega
  refine wh 0 rfl hS (eM rfl) (wh 1 rfl hS (fun _ _ => show Ev _ _ _ _ _ (Value.slice (some ⟨b11, 1, none⟩) (N - (1)) (N - (1))) _ from (by rw [← cut_1 (b := b11) (j := 1) (c := N) (by omega)]; exact Ev.sliceLn (1) rfl rfl (by first | rfl | omega) (by omega))) (wh 2 rfl hS (eF rfl) (wh 3 rfl hS (fun _ hw' => Ev.load (v := .int .i64 x.e) rfl rfl ((hb1_r.keep hw' hne1).at_ rfl)) ?_)));obtain ⟨e9, he9⟩ : ∃ e9 : Nat, (e9 : Int) = x.e + 4096 := ⟨(x.e + 4096).toNat, by omega⟩;refine wh 4 rfl hS (fun _ _ => Ev.addIn rfl rfl (by omega)) ?_;rw [← he9];refine wh 5 rfl hS (fun _ _ => Ev.convIn rfl rfl (in_u64 (by omega))) ?_;refine WH.oneCall 6 rfl (by kernel_rfl) hasF62 rfl rfl (low_spec (e9) 2 _ (by omega) (by decide)) fun v w22 h' => ?_;obtain ⟨⟨b22, rfl, hb22, hg22⟩, hC⟩ := h';have hS := hS.ta hC;refine ⟨hS, ?_⟩;have hch := hch.trans hC;have hb1 := hb1.keep0 hC;have hb11 := hb11.keep0 hC;have hxl := leB_len (e9) 2;have hpl : (leB (if x.neg = true then 1 else 0) 1).length = 1 := by rw [leB_len]
  refine WH.copyY 7 (leB (e9) 2) rfl (by kernel_rfl) hS (List.mem_singleton.2 rfl) rfl rfl hxl.symm hb11 hb22.row (by omega) (by omega) (by rw [hxl, List.length_append, hpl, List.length_replicate]; omega) rfl fun w23 hb11 hc23 hS => ?_;have hb11 := hb11.pad (n := 2 + 4 * (wd x.m).length) hpl (by first | (rw [hxl]; done) | (rw [hxl]; omega));have hb1 := hb1.keep hc23 hne1;have hch := hch.step hc23 (fun y hy => .inr (by rw [List.mem_singleton.1 hy]; exact hgb));refine WH.done (by kernel_rfl) (kr10 _ _ _ ?_);refine kh9 (zc fun _ kh11 => ?_);refine CW.regionHT [b11] 8 rfl hmix fun kR12 kr12 hS hdr => ?_;have hch := hch.ta hdr;have hb1 := hb1.keep0 hdr;have hb1_r := hb1;have hb1_r := hb1;have hb11 := hb11.keep0 hdr;have hne1 : b1 ∉ [b11] := by simp; omega
  refine wh 0 rfl hS (eM rfl) (wh 1 rfl hS (fun _ _ => show Ev _ _ _ _ _ (Value.slice (some ⟨b11, 3, none⟩) (N - (3)) (N - (3))) _ from (by rw [← cut_1 (b := b11) (j := 3) (c := N) (by omega)]; exact Ev.sliceLn (3) rfl rfl (by first | rfl | omega) (by omega))) (wh 2 rfl hS (eF rfl) (wh 3 rfl hS (fun _ hw' => Ev.load (v := .slice ax (wd x.m).length cx) rfl rfl ((hb1_r.keep hw' hne1).at_ rfl)) (wh 4 rfl hS (fun _ _ => Ev.len rfl) (wh 5 rfl hS (fun _ _ => Ev.convIn rfl rfl (in_u64 (by omega))) ?_)))));refine WH.oneCall 6 rfl (by kernel_rfl) hasF62 rfl rfl (low_spec ((wd x.m).length) 2 _ (by omega) (by decide)) fun v w30 h' => ?_;obtain ⟨⟨b30, rfl, hb30, hg30⟩, hC⟩ := h';have hS := hS.ta hC;refine ⟨hS, ?_⟩;have hch := hch.trans hC;have hb1 := hb1.keep0 hC;have hb11 := hb11.keep0 hC;have hxl := leB_len ((wd x.m).length) 2;have hpl : ((leB (if x.neg = true then 1 else 0) 1 ++ leB e9 2)).length = 3 := by rw [List.length_append, leB_len, leB_len]
  refine WH.copyY 7 (leB ((wd x.m).length) 2) rfl (by kernel_rfl) hS (List.mem_singleton.2 rfl) rfl rfl hxl.symm hb11 hb30.row (by omega) (by omega) (by rw [hxl, List.length_append, hpl, List.length_replicate]; omega) rfl fun w31 hb11 hc31 hS => ?_;have hb11 := hb11.pad (n := 4 * (wd x.m).length) hpl (by first | (rw [hxl]; done) | (rw [hxl]; omega));have hb1 := hb1.keep hc31 hne1;have hch := hch.step hc31 (fun y hy => .inr (by rw [List.mem_singleton.1 hy]; exact hgb));refine WH.done (by kernel_rfl) (kr12 _ _ _ ?_);refine kh11 (zc fun _ kh13 => Sr fun _ kh14 => zf rfl ?_);refine WL.ev (Ev.load (v := .slice ax (wd x.m).length cx) rfl rfl (hb1.at_ rfl)) rfl ?_;refine zn rfl (zm rfl (zz (kh14 (CW.block ?_))));refine CW.loop (S := fun i : Nat => [(1, .pointer (some ⟨b1, 0, none⟩)), (3, .slice (some ⟨b11, 0, none⟩) N N), (33, .slice ax (wd x.m).length cx), (34, .int .i64 ((wd x.m).length : Int)), (35, .int .i64 (i : Int))]) (Inv := KWr x b1 b11 cx N ax ((leB (if x.neg = true then 1 else 0) 1 ++ leB e9 2) ++ leB (wd x.m).length 2) w) (mu := fun i => (wd x.m).length - i) (0) ?_ ?_ ?_
  · exact ⟨Nat.zero_le _, hb1, by rw [List.take_zero, List.map_nil, List.flatten_nil, List.append_nil, Nat.sub_zero]; exact hb11, hch⟩
  · exact SLp
  rintro i wr ⟨hi, hb1, hb11, hch⟩;refine Sr fun _ kh16 => zL rfl rfl (zz (kh16 (zc fun _ kh18 => ?_)));refine zy rfl ?_ ?_<;>intro hc2<;>try simp only [qs] at hc2
  · have hxi := hWx.getD i
    refine zkk (kh18 (zc fun _ kh19 => CW.block (Sr fun _ kh20 => zm rfl ?_)));refine WL.ev (Ev.ixR (i) rfl rfl (hrx.keep0 hch) (by omega) (by omega) (by simp; omega)) rfl ?_;refine WL.ev (Ev.load rfl rfl ((hrx.keep0 hch).u32 (by first | omega | (simp; omega)))) rfl ?_;refine za rfl (za rfl (zz (kh20 ?_)));refine CW.regionHT [b11] 9 rfl hmix fun kR22 kr22 hS hdr => ?_;have hch := hch.ta hdr;have hb1 := hb1.keep0 hdr;have hb11 := hb11.keep0 hdr;have hne1 : b1 ∉ [b11] := by simp; omega
    refine wh 0 rfl hS (eM rfl) (wh 1 rfl hS (eM rfl) (wh 2 rfl hS (fun _ _ => Ev.mulIn rfl rfl (by omega)) (wh 3 rfl hS (fun _ _ => Ev.addIn rfl rfl (by omega)) ?_)));rw [show (5 : Int) + 4 * (i : Int) = ((5 + 4 * i : Nat) : Int) by omega];refine wh 4 rfl hS (fun _ _ => show Ev _ _ _ _ _ (Value.slice (some ⟨b11, 5 + 4 * i, none⟩) (N - (5 + 4 * i)) (N - (5 + 4 * i))) _ from (by rw [← cut_1 (b := b11) (j := 5 + 4 * i) (c := N) (by omega)]; exact Ev.sliceLn (5 + 4 * i) rfl rfl (by first | rfl | omega) (by omega))) (wh 5 rfl hS (eM rfl) (wh 6 rfl hS (fun _ _ => Ev.convIn rfl rfl (in_u64 (by omega))) ?_));refine WH.oneCall 7 rfl (by kernel_rfl) hasF62 rfl rfl (low_spec ((wd x.m).getD i 0) 4 _ (by omega) (by decide)) fun v w47 h' => ?_;obtain ⟨⟨b47, rfl, hb47, hg47⟩, hC⟩ := h';have hS := hS.ta hC;refine ⟨hS, ?_⟩;have hch := hch.trans hC;have hb1 := hb1.keep0 hC;have hb11 := hb11.keep0 hC;have hxl := leB_len ((wd x.m).getD i 0) 4;have hpl : (((leB (if x.neg = true then 1 else 0) 1 ++ leB e9 2) ++ leB (wd x.m).length 2) ++ (((wd x.m).take i).map fun y => leB y 4).flatten).length = 5 + 4 * i := by simp only [List.length_append, leB_len, flat_len, List.length_take]; omega
    refine WH.copyY 8 (leB ((wd x.m).getD i 0) 4) rfl (by kernel_rfl) hS (List.mem_singleton.2 rfl) rfl rfl hxl.symm hb11 hb47.row (by omega) (by omega) (by rw [hxl, List.length_append, hpl, List.length_replicate]; omega) rfl fun w48 hb11 hc48 hS => ?_;have hb11 := hb11.pad (n := 4 * ((wd x.m).length - (i + 1))) hpl (by first | (rw [hxl]; done) | (rw [hxl]; omega));have hb1 := hb1.keep hc48 hne1;have hch := hch.step hc48 (fun y hy => .inr (by rw [List.mem_singleton.1 hy]; exact hgb));rw [List.append_assoc ((leB (if x.neg = true then 1 else 0) 1 ++ leB e9 2) ++ leB (wd x.m).length 2), ← flat_take (by omega)] at hb11;refine WH.done (by kernel_rfl) (kr22 _ _ _ ?_);refine kh19 (zS fun _ kr23 => ?_);(first | refine zi rfl rfl ?_ | refine zo rfl rfl ?_);refine zm rfl (zz (kr23 ?_));refine ⟨rfl, i + 1, ?_, ?_, ?_⟩
    · exact SLp
    · exact ⟨by omega, hb1, hb11, hch⟩
    show (wd x.m).length - (i + 1) < (wd x.m).length - i; omega
  have hiX : i = (wd x.m).length := by omega
  subst hiX;rw [List.take_length, Nat.sub_self, Nat.mul_zero, List.replicate_zero, List.append_nil] at hb11;refine CW.exit ?_;refine kh13 (Sr fun _ kh24 => zm rfl (za rfl (zz (kh24 ?_))));refine zr (zr1 rfl rfl ?_);refine ⟨⟨b11, ?_, ?_, hgb⟩, hch⟩
  · rw [encD_len, ← hN]
  have e1 : (x.e + 4096).toNat = e9 := by omega
  unfold encD;rw [e1];exact hb11

end

/- The program: a shard as bytes. No condition. -/
section
open Go Sx Wd Fl

theorem NU.at_ {w w' : World} {r : Value} {l : List Nat} (h : NU w r l) (hc : Chg [] w w') : NU w' r l := h.keep0 hc
structure KEp (b : Nat) (S : Sh) (rv rq : Value) (w0 : World) (g : Nat × Value) (w : World) : Prop where
  hi : g.1 ≤ 6
  hb : BK w b 109 [.int .i64 (S.s.na : Int), .int .i64 (S.s.up : Int), .int .i64 (S.s.dn : Int), .int .i64 (S.s.mi : Int), .int .i64 (S.s.pl : Int), .int .i64 (S.s.al : Int), .bool S.V.neg, rv, .int .i64 S.V.e, .bool S.Q.neg, rq, .int .i64 S.Q.e, .float .f64 S.lo, .float .f64 S.hi]
  g : GR w 5 u8v w0.heap.size [] g.2 ((([S.s.na, S.s.up, S.s.dn, S.s.mi, S.s.pl, S.s.al].take g.1).map fun y => leB y 8).flatten)
  ch : Chg [] w0 w

theorem shEncode_spec (b : Nat) (S : Sh) (w : World) (hS : ShM 109 w b S) (hwf : S.wf) (hex : S.ex) : Ret Tryz.prog 14 [.pointer (some ⟨b, 0, none⟩)] w fun u w' => GR w' 5 u8v w.heap.size [] u (encS S) ∧ Chg [] w w' := by
 obtain ⟨rv, rq, hb, hNv0, hNq0⟩ := hS;obtain ⟨⟨hs1, hs2, hs3, hs4, hs5, hs6⟩, hokV, hokQ, hloS, hhiS⟩ := hwf;have hb00 := hb;have hexv := hex.lv;have hexq := hex.lq;have hch := crf w;refine zE1 Tryz.func14 rfl ?_;refine Sr fun _ kh1 => za rfl (zz (kh1 (Sr fun _ kh3 => za rfl (zz (kh3 (zc fun _ kh5 => zc fun _ kh6 => ?_))))));refine CW.regionSC hmix (by kernel_rfl) fun kR7 kr7 hdr => ?_;have hch := hch.ta hdr;have hb := hb.keep0 hdr;refine ym rfl (yP rfl (yf rfl (yf rfl ?_)));refine WS.ev (Ev.load rfl rfl (hb.at_ rfl)) rfl ?_;refine ym rfl (yP rfl (yf rfl (yf rfl ?_)));refine WS.ev (Ev.load rfl rfl (hb.at_ rfl)) rfl ?_;refine ym rfl (yP rfl (yf rfl (yf rfl ?_)));refine WS.ev (Ev.load rfl rfl (hb.at_ rfl)) rfl ?_;refine ym rfl (yP rfl (yf rfl (yf rfl ?_)));refine WS.ev (Ev.load rfl rfl (hb.at_ rfl)) rfl ?_;refine ym rfl (yP rfl (yf rfl (yf rfl ?_)));refine WS.ev (Ev.load rfl rfl (hb.at_ rfl)) rfl ?_;refine ym rfl (yP rfl (yf rfl (yf rfl ?_)));refine WS.ev (Ev.load rfl rfl (hb.at_ rfl)) rfl ?_;refine WS.ev (Ev.buildA (vs := _) (cs := [.int .i64 (S.s.na : Int), .int .i64 (S.s.up : Int), .int .i64 (S.s.dn : Int), .int .i64 (S.s.mi : Int), .int .i64 (S.s.pl : Int), .int .i64 (S.s.al : Int)]) rfl (by kernel_rfl)) rfl ?_;refine ym rfl ?_;refine WS.nil (kr7 _ _ ?_);refine kh6 (CW.block ?_);refine CW.loop (S := fun g : Nat × Value => [(0, .pointer (some ⟨b, 0, none⟩)), (3, g.2), (36, .agg [.int .i64 (S.s.na : Int), .int .i64 (S.s.up : Int), .int .i64 (S.s.dn : Int), .int .i64 (S.s.mi : Int), .int .i64 (S.s.pl : Int), .int .i64 (S.s.al : Int)].toArray), (37, .int .i64 (g.1 : Int))]) (Inv := KEp b S rv rq w) (mu := fun g => 6 - g.1) ((0, .slice none 0 0)) ?_ ?_ ?_
 ·exact ⟨by decide, hb, GR.nil, hch⟩
 ·exact SLp
 rintro ⟨i, vi⟩ wr ⟨hi, hb, hgo, hch⟩;dsimp only at hi hgo hch;dsimp only;refine Sr fun _ kh8 => zL rfl rfl (zz (kh8 (zc fun _ kh10 => ?_)));refine zy rfl ?_ ?_<;>intro hc1<;>try simp only [qs] at hc1
 ·have hci := cnt6_le ⟨hs1, hs2, hs3, hs4, hs5, hs6⟩ i
  refine zkk (kh10 (zc fun _ kh11 => CW.block (Sr fun _ kh12 => ?_)));refine WL.ev (Ev.indexAr (v := .int .i64 (([S.s.na, S.s.up, S.s.dn, S.s.mi, S.s.pl, S.s.al].getD i 0 : Nat) : Int)) (i := i) rfl rfl (by omega) rfl (cnt6_at S.s (by omega))) rfl ?_;refine za rfl (zz (kh12 ?_));refine zR fun _ kr14 => ?_;refine zm rfl (zm rfl ?_);refine WL.ev (Ev.convIn rfl rfl (in_u64 (by omega))) rfl ?_;refine WL.call hasF62 rfl rfl (low_spec ([S.s.na, S.s.up, S.s.dn, S.s.mi, S.s.pl, S.s.al].getD i 0) 8 _ (by omega) (by decide)) fun v w1 h' => ?_;obtain ⟨⟨b43, rfl, hy43, hg43⟩, hC⟩ := h';have hgo := hgo.keep0 hC;have hch := hch.ta hC;have hb := hb.keep0 hC;refine WL.growR (f := u8v) (news := leB ([S.s.na, S.s.up, S.s.dn, S.s.mi, S.s.pl, S.s.al].getD i 0) 8) (by rfl) (fun _ => rfl) rfl rfl hgo (by rw [leB_len]) hy43.row hch.size (by intro q hq; cases hq) (by simp only [List.length_append, leB_len, flat8_len, encD_len, List.length_take, List.length_cons, List.length_nil]; omega) (by simp only [List.length_append, leB_len, flat8_len, encD_len, List.length_take, List.length_cons, List.length_nil]; omega) rfl fun v44 w44 hg44 hcg44 => ?_;have hch' := GR.frame hgo hcg44 hch (Nat.le_refl _);have hb := hb00.keep0 hch';have hch := hch';have hgo := hg44;rw [← flat8_take (by simp only [List.length_cons, List.length_nil]; omega)] at hgo;refine za rfl ?_;refine WL.nil (kr14 _ _ _ (kh11 ?_));refine zS fun _ kr15 => ?_;(first | refine zi rfl rfl ?_ | refine zo rfl rfl ?_);refine zm rfl (zz (kr15 ?_));refine ⟨rfl, (i + 1, v44), ?_, ?_, ?_⟩
  ·exact SLp
  ·exact ⟨by dsimp only; omega, hb, hgo, hch⟩
  show 6 - (i + 1) < 6 - i; omega
 have hi6 : i = 6 := by omega
 subst hi6;have hgo : GR wr 5 u8v w.heap.size [] vi (([S.s.na, S.s.up, S.s.dn, S.s.mi, S.s.pl, S.s.al].map fun y => leB y 8).flatten) := hgo;refine CW.exit ?_;refine kh5 (Sr fun _ kh16 => zm rfl (zm rfl (zP rfl (zf rfl ?_))));refine WL.ev (Ev.loadB rfl rfl hb rfl rfl) rfl ?_
 try simp only [List.drop_succ_cons, List.drop_zero, List.take_succ_cons, List.take_zero]
 refine WL.call hasF63 rfl rfl (written_spec S.V rv _ (hNv0.at_ hch) hex.v (by have := hex.lv; omega)) fun v w2 h' => ?_;obtain ⟨⟨b51, rfl, hy51, hg51⟩, hC⟩ := h';have hgo := hgo.keep0 hC;have hch := hch.ta hC;have hb := hb.keep0 hC;refine WL.growR (f := u8v) (news := encD S.V) (by rfl) (fun _ => rfl) rfl rfl hgo (rfl) hy51.row hch.size (by intro q hq; cases hq) (by simp only [List.length_append, leB_len, flat8_len, encD_len, List.length_take, List.length_cons, List.length_nil]; omega) (by simp only [List.length_append, leB_len, flat8_len, encD_len, List.length_take, List.length_cons, List.length_nil]; omega) rfl fun v52 w52 hg52 hcg52 => ?_;have hch' := GR.frame hgo hcg52 hch (Nat.le_refl _);have hb := hb00.keep0 hch';have hch := hch';have hgo := hg52;refine za rfl (zz (kh16 (Sr fun _ kh18 => zm rfl (zm rfl (zP rfl (zf rfl ?_))))));refine WL.ev (Ev.loadB rfl rfl hb rfl rfl) rfl ?_
 try simp only [List.drop_succ_cons, List.drop_zero, List.take_succ_cons, List.take_zero]
 refine WL.call hasF63 rfl rfl (written_spec S.Q rq _ (hNq0.at_ hch) hex.q (by have := hex.lq; omega)) fun v w3 h' => ?_;obtain ⟨⟨b58, rfl, hy58, hg58⟩, hC⟩ := h';have hgo := hgo.keep0 hC;have hch := hch.ta hC;have hb := hb.keep0 hC;refine WL.growR (f := u8v) (news := encD S.Q) (by rfl) (fun _ => rfl) rfl rfl hgo (rfl) hy58.row hch.size (by intro q hq; cases hq) (by simp only [List.length_append, leB_len, flat8_len, encD_len, List.length_take, List.length_cons, List.length_nil]; omega) (by simp only [List.length_append, leB_len, flat8_len, encD_len, List.length_take, List.length_cons, List.length_nil]; omega) rfl fun v59 w59 hg59 hcg59 => ?_;have hch' := GR.frame hgo hcg59 hch (Nat.le_refl _);have hb := hb00.keep0 hch';have hch := hch';have hgo := hg59;refine za rfl (zz (kh18 (zc fun _ kh20 => Sr fun _ kh21 => zm rfl ?_)));refine WL.call hasF64 rfl rfl (some_spec b S _ ⟨rv, rq, hb, hNv0.keep0 hch, hNq0.keep0 hch⟩ ⟨hs1, hs2, hs3, hs4, hs5, hs6⟩) fun v w4 h' => ?_;obtain ⟨rfl, hC⟩ := h';have hgo := hgo.keep0 hC;have hch := hch.ta hC;have hb := hb.keep0 hC;refine zz (kh21 ?_);refine zy rfl ?_ ?_<;>intro hc2<;>try simp only [qs] at hc2
 ·have hsome : S.some := by simpa using hc2
  refine Sr fun _ kh23 => zm rfl (zm rfl (zP rfl (zf rfl (zl hb rfl rfl ?_))));refine WL.ev (Ev.ext rfl (ext65 _ _)) rfl ?_;refine WL.call hasF62 rfl rfl (low_spec (S.lo) 8 _ (by omega) (by decide)) fun v w5 h' => ?_;obtain ⟨⟨b68, rfl, hy68, hg68⟩, hC⟩ := h';have hgo := hgo.keep0 hC;have hch := hch.ta hC;have hb := hb.keep0 hC;refine WL.growR (f := u8v) (news := leB S.lo 8) (by rfl) (fun _ => rfl) rfl rfl hgo (by rw [leB_len]) hy68.row hch.size (by intro q hq; cases hq) (by simp only [List.length_append, leB_len, flat8_len, encD_len, List.length_take, List.length_cons, List.length_nil]; omega) (by simp only [List.length_append, leB_len, flat8_len, encD_len, List.length_take, List.length_cons, List.length_nil]; omega) rfl fun v69 w69 hg69 hcg69 => ?_;have hch' := GR.frame hgo hcg69 hch (Nat.le_refl _);have hb := hb00.keep0 hch';have hch := hch';have hgo := hg69;refine za rfl (zz (kh23 ?_));refine zR fun _ kr25 => ?_;refine zm rfl (zm rfl (zP rfl (zf rfl (zl hb rfl rfl ?_))));refine WL.ev (Ev.ext rfl (ext65 _ _)) rfl ?_;refine WL.call hasF62 rfl rfl (low_spec (S.hi) 8 _ (by omega) (by decide)) fun v w6 h' => ?_;obtain ⟨⟨b76, rfl, hy76, hg76⟩, hC⟩ := h';have hgo := hgo.keep0 hC;have hch := hch.ta hC;have hb := hb.keep0 hC;refine WL.growR (f := u8v) (news := leB S.hi 8) (by rfl) (fun _ => rfl) rfl rfl hgo (by rw [leB_len]) hy76.row hch.size (by intro q hq; cases hq) (by simp only [List.length_append, leB_len, flat8_len, encD_len, List.length_take, List.length_cons, List.length_nil]; omega) (by simp only [List.length_append, leB_len, flat8_len, encD_len, List.length_take, List.length_cons, List.length_nil]; omega) rfl fun v77 w77 hg77 hcg77 => ?_;have hch' := GR.frame hgo hcg77 hch (Nat.le_refl _);have hb := hb00.keep0 hch';have hch := hch';have hgo := hg77;refine za rfl ?_;refine WL.nil (kr25 _ _ _ (kh20 ?_));refine Sr fun _ kh26 => zm rfl (za rfl (zz (kh26 ?_)));refine zr (zr1 rfl rfl ?_);refine ⟨?_, hch⟩;unfold encS;rw [if_pos hsome]
  simpa using hgo
 have hsome : ¬ S.some := by simpa using hc2
 refine zkk (kh20 (Sr fun _ kh28 => zm rfl (za rfl (zz (kh28 ?_)))));refine zr (zr1 rfl rfl ?_);refine ⟨?_, hch⟩;unfold encS;rw [if_neg hsome, List.append_nil]
 simpa using hgo

end

/- Bytes that are read: a tape. No condition. -/
section
open Go Sx Wd Fl

def leV : List Nat → Nat
  | [] => 0
  | x :: l => x + 256 * leV l
theorem leV_snoc (l : List Nat) (c : Nat) : leV (l ++ [c]) = leV l + c * 256 ^ l.length := by
  induction l with
  | nil => simp [leV]
  | cons x l ih =>
    rw [List.cons_append, leV, ih, leV, List.length_cons, Nat.pow_succ, Nat.mul_add, Nat.add_assoc]
    congr 2
    rw [Nat.mul_comm 256, Nat.mul_assoc]
def B8 (l : List Nat) : Prop := ∀ x ∈ l, x < 256
theorem leV_lt {l : List Nat} (h : B8 l) : leV l < 256 ^ l.length := by
  induction l with
  | nil => decide
  | cons x l ih =>
    have h1 := h x (List.mem_cons_self ..)
    have h2 := ih fun y hy => h y (List.mem_cons_of_mem _ hy)
    rw [leV, List.length_cons, Nat.pow_succ]
    omega
theorem B8.take {l : List Nat} (h : B8 l) (k : Nat) : B8 (l.take k) := fun x hx => h x (List.mem_of_mem_take hx)
theorem B8.drop {l : List Nat} (h : B8 l) (k : Nat) : B8 (l.drop k) := fun x hx => h x (List.mem_of_mem_drop hx)
theorem B8.getD {l : List Nat} (h : B8 l) (i : Nat) : l.getD i 0 < 256 := by
  rw [List.getD_eq_getElem?_getD]
  cases q : l[i]? with
  | none => decide
  | some x => exact h x (List.mem_of_getElem? q)
def rdN (bs : List Nat) (p : Nat) (bad : Bool) (k : Nat) : Nat × Nat × Bool := if bad = true ∨ bs.length - p < k then (0, p, true) else (leV ((bs.drop p).take k), p + k, false)
def rdC (bs : List Nat) (p : Nat) (bad : Bool) : Nat × Nat × Bool := if 1099511627776 < (rdN bs p bad 8).1 then (0, (rdN bs p bad 8).2.1, true) else rdN bs p bad 8
def isU8 : Value → Bool
  | .int .u8 _ => true
  | _ => false
theorem Sx.RW.keep8 {w w' : World} {a : Option Addr} {l : List Nat} {b : Nat} {T : TypeId} {cs : List Value} (h : RW w a (l.map u8v)) (hb : BK w b T cs) (hc : Chg [b] w w') (hn : ∀ c ∈ cs, isU8 c = false) : RW w' a (l.map u8v) := fun i u hu => by
  obtain ⟨ad, e, hcell⟩ := h i u hu
  refine ⟨ad, e, hc.cell hcell fun hm => ?_⟩
  simp only [List.mem_singleton] at hm
  have hu8 : isU8 u = true := by
    obtain ⟨x, _, rfl⟩ := List.mem_map.1 (List.mem_of_getElem? hu)
    rfl
  have hlk := hcell
  cases had : ad.add i with
  | mk b' o' sp =>
    rw [had] at hlk hm
    simp only at hm
    subst hm
    cases sp with
    | none =>
      rw [cell_at hb] at hlk
      have := hn u (List.mem_of_getElem? hlk)
      rw [hu8] at this; cases this
    | some q =>
      have : w.cell? ⟨b', o', some q⟩ = none := by simp [World.cell?, show w.heap[b']? = _ from hb]
      rw [this] at hlk; cases hlk
def TpM (lo : Nat) (w : World) (bt : Nat) (bs : List Nat) (p : Nat) (bad : Bool) : Prop := ∃ a c, BK w bt 145 [.slice a (bs.length - p) c, .bool bad] ∧ RW w a ((bs.drop p).map u8v) ∧ p ≤ bs.length ∧ bs.length - p ≤ c ∧ bt < lo ∧ ∀ ad, a = some ad → ad.block < lo
theorem TpM.keep0 {lo : Nat} {w w' : World} {bt : Nat} {bs : List Nat} {p : Nat} {bad : Bool} (h : TpM lo w bt bs p bad) (hc : Chg [] w w') : TpM lo w' bt bs p bad := by
  obtain ⟨a, c, h1, h2, h3, h4⟩ := h
  exact ⟨a, c, h1.keep0 hc, h2.keep0 hc, h3, h4⟩
theorem TpM.keep {lo : Nat} {w w' : World} {bt : Nat} {p : Nat} {bs : List Nat} {bad : Bool} {T : List Nat} (h : TpM lo w bt bs p bad) (hc : Chg T w w') (hT : ∀ b ∈ T, lo ≤ b) : TpM lo w' bt bs p bad := by
  obtain ⟨a, c, h1, h2, h3, h4, h5, h6⟩ := h
  exact ⟨a, c, h1.keep hc (fun hm => by have := hT _ hm; omega), h2.keepB hc (fun ad e hm => by have := hT _ hm; have := h6 ad e; omega), h3, h4, h5, h6⟩
theorem cutAt_lt {lo n c : Nat} {a : Option Addr} (h : ∀ ad, a = some ad → ad.block < lo) : ∀ ad, cutAt a n c 1 = some ad → ad.block < lo := by
  intro ad e
  unfold cutAt at e
  split at e
  · first | exact h _ e | (cases e; done) | (obtain ⟨x, hx, rfl⟩ := Option.map_eq_some_iff.1 e; exact h x hx)
  · obtain ⟨x, hx, rfl⟩ := Option.map_eq_some_iff.1 e
    have := h x hx
    simp only [Addr.add]
    split <;> first | exact this | (simpa using this)
theorem u8_tape (a : Option Addr) (m c : Nat) (bad : Bool) : ∀ v ∈ [Value.slice a m c, .bool bad], isU8 v = false := by
  intro v hv
  simp only [List.mem_cons, List.not_mem_nil, or_false] at hv
  rcases hv with rfl | rfl <;> rfl

theorem take_spec (lo bt p : Nat) (bs : List Nat) (bad : Bool) (n : Nat) (w : World) (hT : TpM lo w bt bs p bad) (hL : bs.length ≤ 70368744177664) (hn : n ≤ 1000) : Ret Tryz.prog 177 [.pointer (some ⟨bt, 0, none⟩), .int .i64 (n : Int)] w fun u w' => ((bad = true ∨ bs.length - p < n) ∧ u = .slice none 0 0 ∧ TpM lo w' bt bs p true ∧ Chg [bt] w w') ∨ (¬ (bad = true ∨ bs.length - p < n) ∧ (∃ a, u = .slice a n n ∧ RW w' a (((bs.drop p).take n).map u8v)) ∧ TpM lo w' bt bs (p + n) false ∧ Chg [bt] w w') := by
  obtain ⟨a, c, hb, hr, hp, hcc, hbl, hal⟩ := hT;have hch : Chg [bt] w w := Chg.refl _ _;have hb0 := hb;refine zE2 Tryz.func177 rfl ?_;refine Sr fun _ kh1 => za rfl (zz (kh1 (zc fun _ kh3 => ?_)));refine CW.seqM 18 (decide (bad = true ∨ bs.length - p < n)) ?_ ?_
  · refine zS fun _ kr4 => zm rfl (zP rfl (zf rfl (zl hb rfl rfl (zm rfl ?_))));refine zb ?_ ?_<;>intro hg1<;>try simp only [qs] at hg1
    · refine zv rfl (zv rfl (zv rfl (zv rfl (zv rfl (zv rfl (zv rfl (zt rfl rfl (zz (kr4 ?_)))))))));refine ⟨rfl, rfl, Subs.consB rfl ?_ ?_⟩
      · first | (cases bad <;> first | (simp_all; done) | (simp; omega) | (simp_all; omega))
      exact SMg
    refine zw rfl (zm rfl (zw rfl (zm rfl (zw rfl (zP rfl (zw rfl (zf rfl (zw rfl ?_))))))));refine WL.ev (Ev.load (v := .slice a (bs.length - p) c) rfl rfl (hb.at_ rfl)) rfl ?_;refine zw rfl (zn rfl (zw rfl (zG rfl rfl (ze rfl rfl (zz (kr4 ?_))))));refine ⟨rfl, rfl, Subs.consB rfl ?_ ?_⟩
    · first | (cases bad <;> first | (simp_all; done) | (simp; omega) | (simp_all; omega))
    exact SMg
  refine zy rfl ?_ ?_<;>intro hc2<;>try simp only [qs] at hc2
  · have hq : bad = true ∨ bs.length - p < n := hc2
    refine Sr fun _ kh5 => zm rfl (zP rfl (zf rfl ?_));refine WL.storeC rfl rfl o1 hb (by simp) rfl fun ws1 hb_ hcs1 => ?_;(try simp only [Sx.splice, qt] at hb_);have hch := hch.s1 hcs1;have hb := hb_;refine zz (kh5 (Sr fun _ kh7 => za rfl (zz (kh7 ?_))));refine zr (zr1 rfl rfl ?_);exact .inl ⟨hq, rfl, ⟨a, c, hb, hr.keep8 hb0 hch (u8_tape _ _ _ _), hp, hcc, hbl, hal⟩, hch⟩
  have hq : ¬ (bad = true ∨ bs.length - p < n) := fun z => by have h9 := hc2; rcases z with z | z <;> simp_all <;> omega
  have hnp : n ≤ bs.length - p := by have := fun z => hq (.inr z); omega
  have hbf : bad = false := by cases bad with | true => exact absurd (.inl rfl) hq | false => rfl
  have hdl : ((bs.drop p).map u8v).length = bs.length - p := by rw [List.length_map, List.length_drop]
  refine zkk (kh3 (Sr fun _ kh9 => zm rfl (zP rfl (zf rfl ?_))));refine WL.ev (Ev.load (v := .slice a (bs.length - p) c) rfl rfl (hb.at_ rfl)) rfl ?_;refine zm rfl (zm rfl ?_);refine WL.ev (Ev.slice3n (n) (n) rfl rfl rfl rfl rfl (by omega) (by omega)) rfl ?_;refine za rfl (zz (kh9 (Sr fun _ kh11 => zm rfl (zm rfl (zP rfl (zf rfl ?_))))));refine WL.ev (Ev.load (v := .slice a (bs.length - p) c) rfl rfl (hb.at_ rfl)) rfl ?_;refine zm rfl ?_;refine WL.ev (Ev.sliceLn (n) rfl rfl rfl (by omega)) rfl ?_;refine zP rfl (zf rfl ?_);refine WL.storeC rfl rfl o1 hb (by simp) rfl fun ws2 hb_ hcs2 => ?_;(try simp only [Sx.splice, qt] at hb_);have hch := hch.s1 hcs2;have hb := hb_;refine zz (kh11 (Sr fun _ kh13 => zm rfl (za rfl (zz (kh13 ?_)))));refine zr (zr1 rfl rfl ?_);have hr2 := hr.keep8 hb0 hch (u8_tape _ _ _ _);refine .inr ⟨hq, ⟨a, rfl, by rw [List.map_take]; exact hr2.take n⟩, ⟨cutAt a n c 1, c - n, ?_, ?_, by omega, by omega, hbl, cutAt_lt hal⟩, hch⟩
  · rw [show bs.length - (p + n) = bs.length - p - n by omega, ← hbf]; exact hb
  have h9 := hr2.cut n c (by rw [hdl]; omega) (by rw [hdl]; omega)
  rwa [← List.map_drop, List.drop_drop] at h9

end

/- Bytes that are read: number, count. No condition. -/
section
open Go Sx Wd Fl

theorem Sx.RW.u8 {w : World} {a : Option Addr} {l : List Nat} {j : Nat} (h : RW w a (l.map u8v)) (hj : j < l.length) : w.cell? (adr a j) = some (.int .u8 ((l.getD j 0 : Nat) : Int)) := h.at_ (map_at u8v 0 hj)
theorem leV_take {l : List Nat} {i : Nat} (h : i < l.length) : leV (l.take (i + 1)) = leV (l.take i) + l.getD i 0 * 256 ^ i := by
  rw [take_step h, leV_snoc, List.length_take, Nat.min_eq_left (by omega)]
theorem pow_le8 {i : Nat} (h : i ≤ 7) : 256 ^ i ≤ 72057594037927936 := Nat.le_trans (Nat.pow_le_pow_right (by decide) h) (by decide)
theorem window {w : World} {lo bt p k : Nat} {bs : List Nat} {bad : Bool} {v : Value} {w' : World} (hB : B8 bs) (hp : p ≤ bs.length)
    (h : ((bad = true ∨ bs.length - p < k) ∧ v = .slice none 0 0 ∧ TpM lo w' bt bs p true ∧ Chg [bt] w w') ∨ (¬ (bad = true ∨ bs.length - p < k) ∧ (∃ a, v = .slice a k k ∧ RW w' a (((bs.drop p).take k).map u8v)) ∧ TpM lo w' bt bs (p + k) false ∧ Chg [bt] w w')) :
    ∃ a l, v = .slice a l.length l.length ∧ RW w' a (l.map u8v) ∧ B8 l ∧ l.length ≤ k ∧ leV l = (rdN bs p bad k).1 ∧ TpM lo w' bt bs (rdN bs p bad k).2.1 (rdN bs p bad k).2.2 ∧ Chg [bt] w w' := by
  rcases h with ⟨hq, rfl, hT, hc⟩ | ⟨hq, ⟨a, rfl, hr⟩, hT, hc⟩
  · have e : rdN bs p bad k = (0, p, true) := if_pos hq
    rw [e]
    exact ⟨none, [], rfl, RW.nil, fun x hx => (by cases hx), Nat.zero_le _, rfl, hT, hc⟩
  · have e : rdN bs p bad k = (leV ((bs.drop p).take k), p + k, false) := if_neg hq
    have hk : k ≤ bs.length - p := by have := fun z => hq (.inr z); omega
    have hl : ((bs.drop p).take k).length = k := by rw [List.length_take, List.length_drop]; omega
    rw [e]
    exact ⟨a, (bs.drop p).take k, by rw [hl], hr, (hB.drop p).take k, by omega, rfl, hT, hc⟩
structure KNm (l : List Nat) (a : Option Addr) (lo bt : Nat) (bs : List Nat) (q : Nat) (bd : Bool) (w0 : World) (i : Nat) (w : World) : Prop where
  hi : i ≤ l.length
  r : RW w a (l.map u8v)
  t : TpM lo w bt bs q bd
  ch : Chg [bt] w0 w

theorem number_spec (lo bt p : Nat) (bs : List Nat) (bad : Bool) (k : Nat) (w : World) (hT : TpM lo w bt bs p bad) (hL : bs.length ≤ 70368744177664) (hB : B8 bs) (hk : k ≤ 8) : Ret Tryz.prog 88 [.pointer (some ⟨bt, 0, none⟩), .int .i64 (k : Int)] w fun u w' => u = .int .u64 ((rdN bs p bad k).1 : Int) ∧ TpM lo w' bt bs (rdN bs p bad k).2.1 (rdN bs p bad k).2.2 ∧ Chg [bt] w w' := by
 have hpp : p ≤ bs.length := hT.choose_spec.choose_spec.2.2.1;refine zE2 Tryz.func88 rfl ?_;refine Sr fun _ kh1 => za rfl (zz (kh1 (Sr fun _ kh3 => za rfl (zz (kh3 (zc fun _ kh5 => Sr fun _ kh6 => zm rfl (zm rfl ?_)))))));refine WL.call hasF177 rfl rfl (take_spec lo bt p bs bad k _ hT hL (by omega)) fun v w1 h' => ?_;obtain ⟨a, l, rfl, hr, hB8, hl8, hlv, hT, hch⟩ := window hB hpp h';refine zn rfl (zm rfl (zz (kh6 (CW.block ?_))));refine CW.loop (S := fun i : Nat => [(5, .int .u64 ((leV (l.take i) : Nat) : Int)), (10, .slice a l.length l.length), (11, .int .i64 (l.length : Int)), (12, .int .i64 (i : Int))]) (Inv := KNm l a lo bt bs (rdN bs p bad k).2.1 (rdN bs p bad k).2.2 w) (mu := fun i => l.length - i) (0) ?_ ?_ ?_
 ·exact ⟨Nat.zero_le _, hr, hT, hch⟩
 ·exact SLp
 rintro i wr ⟨hi, hr, hT, hch⟩;refine Sr fun _ kh8 => zL rfl rfl (zz (kh8 (zc fun _ kh10 => ?_)));refine zy rfl ?_ ?_<;>intro hc1<;>try simp only [qs] at hc1
 ·have hci := hB8.getD i
  have hp8 := pow_le8 (i := i) (by omega);have hlt := leV_lt (hB8.take i);rw [List.length_take, Nat.min_eq_left (by omega)] at hlt;have hst := leV_take (l := l) (i := i) (by omega);have hmul : l.getD i 0 * 256 ^ i ≤ 255 * 256 ^ i := Nat.mul_le_mul_right _ (by omega);refine zkk (kh10 (zc fun _ kh11 => CW.block (Sr fun _ kh12 => zm rfl ?_)));refine WL.ev (Ev.ixR (i) rfl rfl hr (by omega) (by omega) (by simp; omega)) rfl ?_;refine WL.ev (Ev.load rfl rfl (hr.u8 (by omega))) rfl ?_;refine za rfl (za rfl (zz (kh12 ?_)));refine zR fun _ kr14 => ?_;refine zm rfl (zm rfl ?_);refine WL.ev (Ev.convIn rfl rfl (in_u64 (by omega))) rfl ?_;refine zm rfl ?_;refine WL.ev (Ev.mulIn rfl rfl (by omega)) rfl ?_;refine WL.ev (Ev.shlU64 (a := l.getD i 0) (b := 8 * i) rfl rfl) rfl ?_;rw [pow8, Nat.mod_eq_of_lt (by omega)];refine WL.ev (Ev.orU rfl rfl rfl (by simp only [IntKind.bits]; omega) (by simp only [IntKind.bits]; omega)) rfl ?_;rw [show leV (l.take i) ||| l.getD i 0 * 256 ^ i = leV (l.take (i + 1)) from by rw [hst, ← pow8, or_of_mul (by rw [pow8]; exact hlt)]];refine za rfl ?_;refine WL.nil (kr14 _ _ _ (kh11 ?_));refine zS fun _ kr15 => ?_;(first | refine zi rfl rfl ?_ | refine zo rfl rfl ?_);refine zm rfl (zz (kr15 ?_));refine ⟨rfl, i + 1, ?_, ?_, ?_⟩
  ·exact SLp
  ·exact ⟨by omega, hr, hT, hch⟩
  show l.length - (i + 1) < l.length - i; omega
 have hiX : i = l.length := by omega
 subst hiX;rw [List.take_length, hlv];refine CW.exit ?_;refine kh5 (Sr fun _ kh16 => zm rfl (za rfl (zz (kh16 ?_))));refine zr (zr1 rfl rfl ?_);exact ⟨rfl, hT, hch⟩

theorem TpM.set {x : Bool} {w w' : World} {lo bt p : Nat} {bs : List Nat} {bad : Bool} {a : Option Addr} {m c : Nat} (h : TpM lo w bt bs p bad) (hb : BK w bt 145 [.slice a m c, .bool bad]) (hb' : BK w' bt 145 [.slice a m c, .bool x]) (hc : Chg [bt] w w') : TpM lo w' bt bs p x := by
  obtain ⟨a2, c2, h1, h2, h3, h4, h5, h6⟩ := h
  have e := hb.symm.trans h1
  have h9 := h2.keep8 h1 hc (u8_tape _ _ _ _)
  injection e with e
  injection e with e _
  have e2 : [Value.slice a m c, .bool bad] = [.slice a2 (bs.length - p) c2, .bool bad] := by
    have := congrArg Array.toList e; simpa using this
  injection e2 with e3 _
  rw [e3] at hb'
  exact ⟨a2, c2, hb', h9, h3, h4, h5, h6⟩

theorem rdN_lt {bs : List Nat} (hB : B8 bs) (p : Nat) (bad : Bool) (k : Nat) (hk : k ≤ 8) : (rdN bs p bad k).1 < 18446744073709551616 := by
  unfold rdN; split
  · show (0 : Nat) < _; decide
  · have h1 := leV_lt ((hB.drop p).take k)
    have h2 : ((bs.drop p).take k).length ≤ 8 := by rw [List.length_take]; omega
    have h3 : 256 ^ ((bs.drop p).take k).length ≤ 256 ^ 8 := Nat.pow_le_pow_right (by decide) h2
    have h4 : (256 : Nat) ^ 8 = 18446744073709551616 := by decide
    show leV _ < _
    omega

theorem count_spec21 (lo bt p : Nat) (bs : List Nat) (bad : Bool) (w : World) (hT : TpM lo w bt bs p bad) (hL : bs.length ≤ 70368744177664) (hB : B8 bs) : Ret Tryz.prog 84 [.pointer (some ⟨bt, 0, none⟩)] w fun u w' => u = .int .i64 ((rdC bs p bad).1 : Int) ∧ TpM lo w' bt bs (rdC bs p bad).2.1 (rdC bs p bad).2.2 ∧ Chg [bt] w w' := by
 refine zE1 Tryz.func84 rfl ?_;refine Sr fun _ kh1 => za rfl (zz (kh1 (Sr fun _ kh3 => zm rfl ?_)));refine WL.call hasF88 rfl rfl (number_spec lo bt p bs bad 8 _ hT hL hB (by decide)) fun v w1 h' => ?_;obtain ⟨rfl, hT, hch⟩ := h';have hn64 := rdN_lt hB p bad 8 (by decide);generalize hN : rdN bs p bad 8 = R at *;obtain ⟨n, q, bd⟩ := R;dsimp only at hT hn64;dsimp only;refine za rfl (zz (kh3 (zc fun _ kh5 => Sr fun _ kh6 => zm rfl (zG rfl rfl (zz (kh6 ?_))))));refine zy rfl ?_ ?_<;>intro hc1<;>try simp only [qs] at hc1
 ·have hbig : 1099511627776 < n := by have := hc1; omega
  have hrc : rdC bs p bad = (0, q, true) := by unfold rdC; rw [hN, if_pos hbig]
  obtain ⟨a, c, hb, hr, hp, hcc, hbl, hal⟩ := id hT;refine Sr fun _ kh8 => zm rfl (zP rfl (zf rfl ?_));refine WL.storeC rfl rfl rfl hb (by simp) rfl fun ws1 hb_ hcs1 => ?_;simp only [List.set_cons_succ, List.set_cons_zero] at hb_;refine zz (kh8 (Sr fun _ kh10 => za rfl (zz (kh10 ?_))));refine zr (zr1 rfl rfl ?_);rw [hrc];exact ⟨rfl, hT.set hb hb_ hcs1, hch.trans hcs1⟩
 have hsml : ¬ 1099511627776 < n := by have := hc1; omega
 have hrc : rdC bs p bad = (n, q, bd) := by unfold rdC; rw [hN, if_neg hsml]
 refine zkk (kh5 (Sr fun _ kh12 => zm rfl ?_));refine WL.ev (Ev.convIn rfl rfl (in_i64 (by omega))) rfl ?_;refine za rfl (zz (kh12 ?_));refine zr (zr1 rfl rfl ?_);rw [hrc];exact ⟨rfl, hT, hch⟩

end

/- Bytes that are read: a dyad. No condition. -/
section
open Go Sx Wd Fl

theorem rdN_ltk {bs : List Nat} (hB : B8 bs) (p : Nat) (bad : Bool) (k : Nat) : (rdN bs p bad k).1 < 256 ^ k := by
  unfold rdN; split
  · exact Nat.pow_pos (by decide)
  · have h1 := leV_lt ((hB.drop p).take k)
    have h2 : ((bs.drop p).take k).length ≤ k := by rw [List.length_take]; omega
    exact Nat.lt_of_lt_of_le h1 (Nat.pow_le_pow_right (by decide) h2)
def rdW (bs : List Nat) (p : Nat) (bad : Bool) : Nat → List Nat × Nat × Bool
  | 0 => ([], p, bad)
  | n + 1 => ((rdW bs p bad n).1 ++ [(rdN bs (rdW bs p bad n).2.1 (rdW bs p bad n).2.2 4).1], (rdN bs (rdW bs p bad n).2.1 (rdW bs p bad n).2.2 4).2)
theorem rdW_len (bs : List Nat) (p : Nat) (bad : Bool) (n : Nat) : (rdW bs p bad n).1.length = n := by
  induction n with
  | zero => rfl
  | succ n ih => rw [rdW]; simp [ih]
theorem rdW_W {bs : List Nat} (hB : B8 bs) (p : Nat) (bad : Bool) (n : Nat) : W (rdW bs p bad n).1 := by
  induction n with
  | zero => exact W_nil
  | succ n ih => rw [rdW]; exact W_append.2 ⟨ih, W_cons.2 ⟨rdN_ltk hB _ _ 4, W_nil⟩⟩
def rdD (bs : List Nat) (p : Nat) (bad : Bool) : Bool × List Nat × Int × Nat × Bool :=
  match rdN bs p bad 1 with
  | (n1, p1, d1) => match rdN bs p1 d1 2 with
    | (n2, p2, d2) => match rdN bs p2 d2 2 with
      | (n3, p3, d3) => if 1 < n1 ∨ 160 < n3 then (false, [], 0, p3, true) else
        match rdW bs p3 d3 n3 with
        | (ws, q, bd) => (decide ((n1 : Int) = 1), ws, (n2 : Int) - 4096, q, if n3 = 0 then decide (bd = true ∨ (n1 : Int) = 1 ∨ (n2 : Int) - 4096 ≠ 0) else decide (bd = true ∨ ws.getD 0 0 % 2 = 0 ∨ ws.getD (n3 - 1) 0 = 0))
theorem TpM.keepBK {lo : Nat} {w w' : World} {bt : Nat} {p : Nat} {bs : List Nat} {bad : Bool} {b : Nat} {T : TypeId} {cs : List Value} (h : TpM lo w bt bs p bad) (_ : BK w b T cs) (hc : Chg [b] w w') (_ : ∀ c ∈ cs, isU32 c = false) (hl : lo ≤ b := by omega) : TpM lo w' bt bs p bad := h.keep hc fun y hy => by rw [List.mem_singleton.1 hy]; exact hl
structure KDy (lo bt b2 b6 n3 p3 : Nat) (ng d3 : Bool) (e : Int) (bs : List Nat) (w0 : World) (g : Nat × Value) (w : World) : Prop where
  hi : g.1 ≤ n3
  t : TpM lo w bt bs (rdW bs p3 d3 g.1).2.1 (rdW bs p3 d3 g.1).2.2
  h2 : BK w b2 107 [.bool false, .slice none 0 0, .int .i64 0]
  h6 : BK w b6 107 [.bool ng, g.2, .int .i64 e]
  g : GR w 209 u32v w0.heap.size [b2, b6] g.2 (rdW bs p3 d3 g.1).1
  ch : Chg [bt] w0 w

theorem tdyad_spec (lo bt p : Nat) (bs : List Nat) (bad : Bool) (w : World) (hT : TpM lo w bt bs p bad) (hL : bs.length ≤ 70368744177664) (hB : B8 bs) (hlo : lo ≤ w.heap.size) : Ret Tryz.prog 86 [.pointer (some ⟨bt, 0, none⟩)] w fun u w' => ∃ sl, u = .agg [.bool (rdD bs p bad).1, sl, .int .i64 (rdD bs p bad).2.2.1].toArray ∧ NU w' sl (rdD bs p bad).2.1 ∧ TpM lo w' bt bs (rdD bs p bad).2.2.2.1 (rdD bs p bad).2.2.2.2 ∧ Chg [bt] w w' := by
 have hbtl : bt < lo := hT.choose_spec.choose_spec.2.2.2.2.1;have hch : Chg [bt] w w := Chg.refl _ _;refine zE1 Tryz.func86 rfl ?_;refine Sr fun _ kh1 => ?_;refine zAh rfl rfl hch fun b2 wm2 hb2 hcm2 hge2 hgehch2 hch => ?_;have hT := hT.keep0 hcm2;refine zz (kh1 (Sr fun _ kh3 => zm rfl ?_));refine WL.call hasF88 rfl rfl (number_spec lo bt _ bs _ 1 _ hT hL hB (by decide)) fun v w1 h' => ?_;obtain ⟨rfl, hT, hC⟩ := h';have hn1 := rdN_ltk hB p bad 1;generalize hR1 : rdN bs p bad 1 = R1 at *;obtain ⟨n1, p1, d1⟩ := R1;dsimp only at hT hn1;dsimp only;have hch := hch.step hC (fun y hy => .inl hy);have hb2 := hb2.keep hC (by simp; omega);refine zm rfl ?_;refine WL.call hasF88 rfl rfl (number_spec lo bt _ bs _ 2 _ hT hL hB (by decide)) fun v w2 h' => ?_;obtain ⟨rfl, hT, hC⟩ := h';have hn2 := rdN_ltk hB p1 d1 2;generalize hR2 : rdN bs p1 d1 2 = R2 at *;obtain ⟨n2, p2, d2⟩ := R2;dsimp only at hT hn2;dsimp only;have hch := hch.step hC (fun y hy => .inl hy);have hb2 := hb2.keep hC (by simp; omega);refine WL.ev (Ev.convIn rfl rfl (in_i64 (by omega))) rfl ?_;refine WL.ev (Ev.subIn rfl rfl (by omega)) rfl ?_;refine zm rfl ?_;refine WL.call hasF88 rfl rfl (number_spec lo bt _ bs _ 2 _ hT hL hB (by decide)) fun v w3 h' => ?_;obtain ⟨rfl, hT, hC⟩ := h';have hn3 := rdN_ltk hB p2 d2 2;generalize hR3 : rdN bs p2 d2 2 = R3 at *;obtain ⟨n3, p3, d3⟩ := R3;dsimp only at hT hn3;dsimp only;have hch := hch.step hC (fun y hy => .inl hy);have hb2 := hb2.keep hC (by simp; omega);refine WL.ev (Ev.convIn rfl rfl (in_i64 (by omega))) rfl ?_;refine za rfl (za rfl (za rfl (zz (kh3 (zc fun _ kh5 => ?_)))));refine CW.seqM 21 (decide (1 < n1 ∨ 160 < n3)) ?_ ?_
 ·refine zS fun _ kr6 => zm rfl (zG rfl rfl (zm rfl ?_));refine zb ?_ ?_<;>intro hg1<;>try simp only [qs] at hg1
  ·refine zv rfl (zv rfl (zt rfl rfl (zz (kr6 ?_))));refine ⟨rfl, rfl, Subs.consB rfl ?_ ?_⟩
   ·first | (exact decide_eq_decide.2 (by omega)) | (simp_all; done) | (simp; omega) | (simp_all; omega) | skip
   exact SMg
  refine zw rfl (zm rfl (zw rfl (zG rfl rfl (ze rfl rfl (zz (kr6 ?_))))));refine ⟨rfl, rfl, Subs.consB rfl ?_ ?_⟩
  ·first | (exact decide_eq_decide.2 (by omega)) | (simp_all; done) | (simp; omega) | (simp_all; omega) | skip
  exact SMg
 refine zy rfl ?_ ?_<;>intro hc2<;>try simp only [qs] at hc2
 ·have hq : 1 < n1 ∨ 160 < n3 := hc2
  have hD : rdD bs p bad = (false, [], 0, p3, true) := by unfold rdD; rw [hR1]; dsimp only; rw [hR2]; dsimp only; rw [hR3]; dsimp only; rw [if_pos hq]
  obtain ⟨a, c, hb, hr, hp, hcc, hbl, hal⟩ := id hT;refine Sr fun _ kh7 => zm rfl (zP rfl (zf rfl ?_));refine WL.storeC rfl rfl rfl hb (by simp) rfl fun ws9 hb_ hcs9 => ?_;simp only [List.set_cons_succ, List.set_cons_zero] at hb_;have hT := hT.set hb hb_ hcs9;have hb2 := hb2.keep hcs9 (by simp; omega);have hch := hch.step hcs9 (fun y hy => .inl hy);refine zz (kh7 (Sr fun _ kh9 => ?_));refine WL.ev (Ev.build (vs := _) (cs := [_, _, _]) rfl rfl) rfl ?_;refine zss rfl rfl ao hb2 rfl fun ws3 hb2_ hcs3 => ?_;(try simp only [Sx.splice, qt] at hb2_);have hch := hch.s1 hcs3;have hT := hT.keepBK hb2 hcs3 an;have hb2 := hb2_;refine zz (kh9 ?_);refine zr (bodyA.retR1 rfl (RVal.cell rfl (BK.varA hb2 rfl (by simp))) ?_);rw [hD];refine ⟨_, rfl, NU.nil, hT, hch⟩
 have hq : ¬ (1 < n1 ∨ 160 < n3) := hc2;refine zkk (kh5 (Sr fun _ kh11 => zm rfl (zq rfl rfl (zm rfl ?_))));refine WL.ev (Ev.build (vs := _) (cs := [_, _, _]) rfl rfl) rfl ?_;refine zAh rfl rfl hch fun b6 wm6 hb6 hcm6 hge6 hgehch6 hch => ?_;have hT := hT.keep0 hcm6;have hneb26 := zdd hb2.lt hge6;have hb2 := hb2.keep0 hcm6;refine zss rfl rfl ao hb6 rfl fun ws4 hb6_ hcs4 => ?_;(try simp only [Sx.splice, qt] at hb6_);have hch := hch.s1 hcs4;have hb2 := hb2.keep hcs4 (by simp; omega);have hT := hT.keepBK hb6 hcs4 an;have hb6 := hb6_;refine zz (kh11 (zc fun _ kh13 => Sr fun _ kh14 => zm rfl (zm rfl (zz (kh14 (CW.block ?_))))));refine CW.loop (S := fun g : Nat × Value => [(0, .pointer (some ⟨bt, 0, none⟩)), (2, .pointer (some ⟨b2, 0, none⟩)), (3, .int .u64 (n1 : Int)), (4, .int .i64 ((n2 : Int) - 4096)), (5, .int .i64 (n3 : Int)), (6, .pointer (some ⟨b6, 0, none⟩)), (30, .int .i64 (n3 : Int)), (31, .int .i64 (g.1 : Int))]) (Inv := KDy lo bt b2 b6 n3 p3 (decide ((n1 : Int) = 1)) d3 ((n2 : Int) - 4096) bs w) (mu := fun g => n3 - g.1) ((0, .slice none 0 0)) ?_ ?_ ?_
 ·exact ⟨Nat.zero_le _, hT, hb2, hb6, GR.nil, hch⟩
 ·exact SLp
 rintro ⟨i, vi⟩ wr ⟨hi, hT, hb2, hb6, hgv, hch⟩;dsimp only at hi hT hb6 hgv;dsimp only;have hbt6 : bt ≠ b6 := by omega
 have hbt2 : bt ≠ b2 := by omega
 refine Sr fun _ kh16 => zL rfl rfl (zz (kh16 (zc fun _ kh18 => ?_)));refine zy rfl ?_ ?_<;>intro hc3<;>try simp only [qs] at hc3
 ·refine zkk (kh18 (zc fun _ kh19 => CW.block ?_));refine CW.regionKT (bt :: vi.ownBlock.toList) 8 9 rfl hmix fun kR20 kr20 hS hdr => ?_
  have hch := hch.ta hdr;have hb2 := hb2.keep0 hdr;have hb6 := hb6.keep0 hdr;have hT := hT.keep0 hdr;have hb6_r := hb6;have hgv := hgv.keep0 hdr;have hNUi := hgv.nu (rdW_W hB _ _ _) (by rw [rdW_len]; omega);have hn6 : b6 ∉ bt :: vi.ownBlock.toList := fun hm => by
   rcases List.mem_cons.1 hm with e | hm
   · omega
   exact hgv.notin (.inl (by simp)) hm
  refine wk 0 rfl hS (eF rfl) (wk 1 rfl hS (fun _ hw' => Ev.load (v := vi) rfl rfl ((hb6_r.keep hw' hn6).at_ rfl)) (wk 2 rfl hS (eM rfl) ?_));refine WK.oneCall 3 rfl (by kernel_rfl) hasF88 rfl rfl (number_spec lo bt _ bs _ 4 _ hT hL hB (by decide)) fun v w36 h' => ?_;obtain ⟨rfl, hT, hC⟩ := h';have hS := hS.step hC (fun y hy => .inl (by rw [List.mem_singleton.1 hy]; exact List.mem_cons_self ..));refine ⟨hS, ?_⟩;have hch := hch.step hC (fun y hy => .inl hy);have hb2 := hb2.keep hC (by simp; omega);have hb6 := hb6.keep hC (by simp; omega);have hgv := hgv.keep hC (fun y hy => .inr (.inl (by rw [List.mem_singleton.1 hy]; omega)));have hn4 := rdN_ltk hB (rdW bs p3 d3 i).2.1 (rdW bs p3 d3 i).2.2 4;have hW4 : rdW bs p3 d3 (i + 1) = ((rdW bs p3 d3 i).1 ++ [(rdN bs (rdW bs p3 d3 i).2.1 (rdW bs p3 d3 i).2.2 4).1], (rdN bs (rdW bs p3 d3 i).2.1 (rdW bs p3 d3 i).2.2 4).2) := by rw [rdW]
  generalize hR4 : rdN bs (rdW bs p3 d3 i).2.1 (rdW bs p3 d3 i).2.2 4 = R4 at *;obtain ⟨n4, p4, d4⟩ := R4;dsimp only at hT hn4 hW4;dsimp only;refine wk 4 rfl hS (fun _ _ => Ev.convIn rfl rfl (in_u32 (by omega))) ?_;refine WK.buildSliceC (m := 1) (cs := [u32v n4]) 5 rfl (by kernel_rfl) hS (by decide) (by decide) rfl (by kernel_rfl) rfl fun b38 w38 hn38 hS => ?_;have hb38 := hn38.at_;have hT := hT.keep0 hn38.chg;have hgv := hgv.keep0 hn38.chg;have hch := hch.trans (Chg.any hn38.chg);have hb2 := hb2.keep0 hn38.chg;have hb6 := hb6.keep0 hn38.chg;have hX39 : ∀ b ∈ [b2, b6], b < w38.heap.size := fun b hm => by
   simp only [List.mem_cons, List.not_mem_nil, or_false] at hm;rcases hm with rfl | rfl
   · exact hb2.lt
   exact hb6.lt
  refine WK.growL (f := u32v) (news := [n4]) 6 rfl (by kernel_rfl) (by rfl) (fun _ => rfl) rfl rfl hgv rfl (RW.one_f hb38 rfl) hch.size hX39 (by simp [rdW_len]; omega) (by simp [rdW_len]; omega) rfl (fun w9 hc _ => hS.step hc (fun y hy => .inl (List.mem_cons_of_mem _ hy))) fun v39 w39 hg39 hc39 => ?_;have hT := hT.keep hc39 (fun y hy => Nat.le_trans hlo (hgv.ge y hy));have hb2 := hb2.keep hc39 (hgv.notin (.inl (by simp)));have hb6 := hb6.keep hc39 (hgv.notin (.inl (by simp)));have hch := GR.frame hgv hc39 hch (Nat.le_refl _);have hgv := hg39;have ho39 := hg39.one;have hS := hS.step hc39 (fun y hy => .inl (List.mem_cons_of_mem _ hy));refine wk 7 rfl hS (eF rfl) ?_;refine WK.storeC 8 rfl (by kernel_rfl) (by kernel_rfl) rfl rfl o1 hb6 (by simp) rfl fun ws5 hb6_ hcs5 => ?_;(try simp only [Sx.splice, qt] at hb6_);have hch := hch.s1 hcs5;have hb2 := hb2.keep hcs5 (by simp; omega);have hT := hT.keepBK hb6 hcs5 an;have hb6 := hb6_;refine WK.done (by kernel_rfl) (kr20 _ _ _ ?_);have hgv := hgv.keep hcs5 (fun y hy => .inl (by rw [List.mem_singleton.1 hy]; simp));refine kh19 (zS fun _ kr21 => ?_);(first | refine zi rfl rfl ?_ | refine zo rfl rfl ?_);refine zm rfl (zz (kr21 ?_));refine ⟨rfl, (i + 1, v39), ?_, ?_, ?_⟩
  ·exact SLp
  ·refine ⟨by dsimp only; omega, ?_, hb2, hb6, ?_, hch⟩
   · rw [hW4]; exact hT
   rw [hW4]; exact hgv
  show n3 - (i + 1) < n3 - i; omega
 have hi3 : n3 = i := by omega
 subst hi3;have hwl := rdW_len bs p3 d3 n3;have hWw := rdW_W hB p3 d3 n3;generalize hRW : rdW bs p3 d3 n3 = RR at *;obtain ⟨ws, q, bd⟩ := RR;dsimp only at hT hgv hwl hWw;have hov := hgv.one;have hNU := hgv.nu hWw (by omega);refine CW.exit ?_;refine kh13 (zc fun _ kh22 => Sr fun _ kh23 => zm rfl (zq rfl rfl (zz (kh23 ?_))));refine zy rfl ?_ ?_<;>intro hc4<;>try simp only [qs] at hc4
 ·have h0 : n3 = 0 := by have := hc4; omega
  have hD : rdD bs p bad = (decide ((n1 : Int) = 1), ws, ((n2 : Int) - 4096), q, decide (bd = true ∨ (n1 : Int) = 1 ∨ (n2 : Int) - 4096 ≠ 0)) := by unfold rdD; rw [hR1]; dsimp only; rw [hR2]; dsimp only; rw [hR3]; dsimp only; rw [if_neg hq, hRW]; dsimp only; rw [if_pos h0]
  obtain ⟨a, c, hb, hr, hp, hcc, hbl, hal⟩ := id hT;refine zR fun _ kr25 => ?_;refine zm rfl (zm rfl (zP rfl (zf rfl ?_)));refine WL.ev (Ev.load (v := .bool bd) rfl rfl (hb.at_ rfl)) rfl ?_;refine zm rfl ?_;refine zb ?_ ?_<;>intro hg5<;>try simp only [qs] at hg5
  ·refine zv rfl (zv rfl (zt rfl rfl (zm rfl (zv rfl (zv rfl (zt rfl rfl (zP rfl (zf rfl ?_))))))));refine WL.storeC rfl rfl rfl hb (by simp) rfl fun ws9 hb_ hcs9 => ?_
   simp only [List.set_cons_succ, List.set_cons_zero] at hb_;have hT := hT.set hb hb_ hcs9;have hb2 := hb2.keep hcs9 (by simp; omega);have hb6 := hb6.keep hcs9 (by simp; omega);have hNU := hNU.keepBK hb hcs9 (by intro v hv; simp only [List.mem_cons, List.not_mem_nil, or_false] at hv; rcases hv with rfl | rfl <;> rfl);have hch := hch.step hcs9 (fun y hy => .inl hy);refine WL.nil (kr25 _ _ _ (kh22 ?_));refine Sr fun _ kh26 => zg hb6 rfl ?_;refine zss rfl rfl ao hb2 rfl fun ws6 hb2_ hcs6 => ?_;(try simp only [Sx.splice, qt] at hb2_);have hch := hch.s1 hcs6;have hT := hT.keepBK hb2 hcs6 an;have hNU := hNU.keepBK hb2 hcs6 an;have hb2 := hb2_;refine zz (kh26 ?_);refine zr (bodyA.retR1 rfl (RVal.cell rfl (BK.varA hb2 rfl (by simp))) ?_);rw [hD];refine ⟨_, rfl, hNU, ?_, hch⟩;refine Eq.mp (congrArg (TpM lo _ bt bs q) ?_) hT;dsimp only
   first | (simp_all; done) | (refine (decide_eq_true ?_).symm; simp_all; done) | (refine decide_eq_decide.2 ?_; simp_all; done) | (refine decide_eq_decide.2 ?_; simp_all; omega) | (refine (decide_eq_true (.inr (.inl ?_))).symm; omega) | (refine (decide_eq_true (.inr (.inl ?_))).symm; simp_all; omega)
  refine zw rfl (zf rfl (zw rfl (zl hb6 rfl rfl (ze rfl rfl (zm rfl ?_)))));refine zb ?_ ?_<;>intro hg6<;>try simp only [qs] at hg6
  ·refine zv rfl (zv rfl (zt rfl rfl (zP rfl (zf rfl ?_))));refine WL.storeC rfl rfl rfl hb (by simp) rfl fun ws9 hb_ hcs9 => ?_
   simp only [List.set_cons_succ, List.set_cons_zero] at hb_;have hT := hT.set hb hb_ hcs9;have hb2 := hb2.keep hcs9 (by simp; omega);have hb6 := hb6.keep hcs9 (by simp; omega);have hNU := hNU.keepBK hb hcs9 (by intro v hv; simp only [List.mem_cons, List.not_mem_nil, or_false] at hv; rcases hv with rfl | rfl <;> rfl);have hch := hch.step hcs9 (fun y hy => .inl hy);refine WL.nil (kr25 _ _ _ (kh22 ?_));refine Sr fun _ kh28 => zg hb6 rfl ?_;refine zss rfl rfl ao hb2 rfl fun ws7 hb2_ hcs7 => ?_;(try simp only [Sx.splice, qt] at hb2_);have hch := hch.s1 hcs7;have hT := hT.keepBK hb2 hcs7 an;have hNU := hNU.keepBK hb2 hcs7 an;have hb2 := hb2_;refine zz (kh28 ?_);refine zr (bodyA.retR1 rfl (RVal.cell rfl (BK.varA hb2 rfl (by simp))) ?_);rw [hD];refine ⟨_, rfl, hNU, ?_, hch⟩;refine Eq.mp (congrArg (TpM lo _ bt bs q) ?_) hT;dsimp only
   first | (simp_all; done) | (refine (decide_eq_true ?_).symm; simp_all; done) | (refine decide_eq_decide.2 ?_; simp_all; done) | (refine decide_eq_decide.2 ?_; simp_all; omega) | (refine (decide_eq_true (.inr (.inl ?_))).symm; omega) | (refine (decide_eq_true (.inr (.inl ?_))).symm; simp_all; omega)
  refine zw rfl (zm rfl (zw rfl (zN rfl rfl (ze rfl rfl (zP rfl (zf rfl ?_))))));refine WL.storeC rfl rfl rfl hb (by simp) rfl fun ws9 hb_ hcs9 => ?_;simp only [List.set_cons_succ, List.set_cons_zero] at hb_;have hT := hT.set hb hb_ hcs9;have hb2 := hb2.keep hcs9 (by simp; omega);have hb6 := hb6.keep hcs9 (by simp; omega);have hNU := hNU.keepBK hb hcs9 (by intro v hv; simp only [List.mem_cons, List.not_mem_nil, or_false] at hv; rcases hv with rfl | rfl <;> rfl);have hch := hch.step hcs9 (fun y hy => .inl hy);refine WL.nil (kr25 _ _ _ (kh22 ?_));refine Sr fun _ kh30 => zg hb6 rfl ?_;refine zss rfl rfl ao hb2 rfl fun ws8 hb2_ hcs8 => ?_;(try simp only [Sx.splice, qt] at hb2_);have hch := hch.s1 hcs8;have hT := hT.keepBK hb2 hcs8 an;have hNU := hNU.keepBK hb2 hcs8 an;have hb2 := hb2_;refine zz (kh30 ?_);refine zr (bodyA.retR1 rfl (RVal.cell rfl (BK.varA hb2 rfl (by simp))) ?_);rw [hD];refine ⟨_, rfl, hNU, ?_, hch⟩;refine Eq.mp (congrArg (TpM lo _ bt bs q) ?_) hT;dsimp only
  first | (simp_all; done) | (refine (decide_eq_true ?_).symm; simp_all; done) | (refine decide_eq_decide.2 ?_; simp_all; done) | (refine decide_eq_decide.2 ?_; simp_all; omega) | (refine (decide_eq_true (.inr (.inl ?_))).symm; omega) | (refine (decide_eq_true (.inr (.inl ?_))).symm; simp_all; omega)
 have h0 : ¬ n3 = 0 := by have := hc4; omega
 have hD : rdD bs p bad = (decide ((n1 : Int) = 1), ws, ((n2 : Int) - 4096), q, decide (bd = true ∨ ws.getD 0 0 % 2 = 0 ∨ ws.getD (n3 - 1) 0 = 0)) := by unfold rdD; rw [hR1]; dsimp only; rw [hR2]; dsimp only; rw [hR3]; dsimp only; rw [if_neg hq, hRW]; dsimp only; rw [if_neg h0]
 obtain ⟨a6, c6, rfl, hcap6, hr6⟩ := hgv.row;obtain ⟨a, c, hb, hr, hp, hcc, hbl, hal⟩ := id hT;refine zR fun _ kr32 => ?_;refine zm rfl (zm rfl (zP rfl (zf rfl ?_)));refine WL.ev (Ev.load (v := .bool bd) rfl rfl (hb.at_ rfl)) rfl ?_;refine zm rfl ?_;refine zb ?_ ?_<;>intro hg7<;>try simp only [qs] at hg7
 ·refine zv rfl (zv rfl (zv rfl (zv rfl (zv rfl (zv rfl (zt rfl rfl (zm rfl (zv rfl (zv rfl (zv rfl (zv rfl (zv rfl (zv rfl (zv rfl (zt rfl rfl (zP rfl (zf rfl ?_)))))))))))))))));refine WL.storeC rfl rfl rfl hb (by simp) rfl fun ws9 hb_ hcs9 => ?_
  simp only [List.set_cons_succ, List.set_cons_zero] at hb_;have hT := hT.set hb hb_ hcs9;have hb2 := hb2.keep hcs9 (by simp; omega);have hb6 := hb6.keep hcs9 (by simp; omega);have hNU := hNU.keepBK hb hcs9 (by intro v hv; simp only [List.mem_cons, List.not_mem_nil, or_false] at hv; rcases hv with rfl | rfl <;> rfl);have hch := hch.step hcs9 (fun y hy => .inl hy);refine WL.nil (kr32 _ _ _ (kh22 ?_));refine Sr fun _ kh33 => zg hb6 rfl ?_;refine zss rfl rfl ao hb2 rfl fun ws9 hb2_ hcs9 => ?_;(try simp only [Sx.splice, qt] at hb2_);have hch := hch.s1 hcs9;have hT := hT.keepBK hb2 hcs9 an;have hNU := hNU.keepBK hb2 hcs9 an;have hb2 := hb2_;refine zz (kh33 ?_);refine zr (bodyA.retR1 rfl (RVal.cell rfl (BK.varA hb2 rfl (by simp))) ?_);rw [hD];refine ⟨_, rfl, hNU, ?_, hch⟩;refine Eq.mp (congrArg (TpM lo _ bt bs q) ?_) hT;dsimp only
  first | (simp_all; done) | (refine (decide_eq_true ?_).symm; simp_all; done) | (refine decide_eq_decide.2 ?_; simp_all; done) | (refine decide_eq_decide.2 ?_; simp_all; omega) | (refine (decide_eq_true (.inr (.inl ?_))).symm; omega) | (refine (decide_eq_true (.inr (.inl ?_))).symm; simp_all; omega)
 refine zw rfl (zf rfl (zw rfl (zl hb6 rfl rfl (zw rfl ?_))));refine WL.ev (Ev.ixR (0) rfl rfl hr6 (by omega) (by omega) (by simp; omega)) rfl ?_;refine zw rfl ?_;refine WL.ev (Ev.load rfl rfl (hr6.u32 (by first | omega | (simp; omega)))) rfl ?_;refine zw rfl ?_;refine WL.ev (Ev.remU (b := 2) rfl rfl (by omega)) rfl ?_;refine zw rfl (zq rfl rfl (ze rfl rfl (zm rfl ?_)));refine zb ?_ ?_<;>intro hg8<;>try simp only [qs] at hg8
 ·refine zv rfl (zv rfl (zv rfl (zv rfl (zv rfl (zv rfl (zv rfl (zt rfl rfl (zP rfl (zf rfl ?_)))))))));refine WL.storeC rfl rfl rfl hb (by simp) rfl fun ws9 hb_ hcs9 => ?_
  simp only [List.set_cons_succ, List.set_cons_zero] at hb_;have hT := hT.set hb hb_ hcs9;have hb2 := hb2.keep hcs9 (by simp; omega);have hb6 := hb6.keep hcs9 (by simp; omega);have hNU := hNU.keepBK hb hcs9 (by intro v hv; simp only [List.mem_cons, List.not_mem_nil, or_false] at hv; rcases hv with rfl | rfl <;> rfl);have hch := hch.step hcs9 (fun y hy => .inl hy);refine WL.nil (kr32 _ _ _ (kh22 ?_));refine Sr fun _ kh35 => zg hb6 rfl ?_;refine zss rfl rfl ao hb2 rfl fun ws10 hb2_ hcs10 => ?_;(try simp only [Sx.splice, qt] at hb2_);have hch := hch.s1 hcs10;have hT := hT.keepBK hb2 hcs10 an;have hNU := hNU.keepBK hb2 hcs10 an;have hb2 := hb2_;refine zz (kh35 ?_);refine zr (bodyA.retR1 rfl (RVal.cell rfl (BK.varA hb2 rfl (by simp))) ?_);rw [hD];refine ⟨_, rfl, hNU, ?_, hch⟩;refine Eq.mp (congrArg (TpM lo _ bt bs q) ?_) hT;dsimp only
  first | (simp_all; done) | (refine (decide_eq_true ?_).symm; simp_all; done) | (refine decide_eq_decide.2 ?_; simp_all; done) | (refine decide_eq_decide.2 ?_; simp_all; omega) | (refine (decide_eq_true (.inr (.inl ?_))).symm; omega) | (refine (decide_eq_true (.inr (.inl ?_))).symm; simp_all; omega)
 refine zw rfl (zf rfl (zw rfl (zl hb6 rfl rfl (zw rfl (zm rfl (zw rfl ?_))))))
 first | refine WL.ev (Ev.subIn rfl rfl (by omega)) rfl ?_ | refine WL.ev (Ev.sub rfl rfl) rfl ?_
 refine zw rfl ?_;refine WL.ev (Ev.ixR ((n3 - 1)) rfl rfl hr6 (by omega) (by omega) (by simp; omega)) rfl ?_;refine zw rfl ?_;refine WL.ev (Ev.load rfl rfl (hr6.u32 (by first | omega | (simp; omega)))) rfl ?_;refine zw rfl (zq rfl rfl (ze rfl rfl (zP rfl (zf rfl ?_))));refine WL.storeC rfl rfl rfl hb (by simp) rfl fun ws9 hb_ hcs9 => ?_;simp only [List.set_cons_succ, List.set_cons_zero] at hb_;have hT := hT.set hb hb_ hcs9;have hb2 := hb2.keep hcs9 (by simp; omega);have hb6 := hb6.keep hcs9 (by simp; omega);have hNU := hNU.keepBK hb hcs9 (by intro v hv; simp only [List.mem_cons, List.not_mem_nil, or_false] at hv; rcases hv with rfl | rfl <;> rfl);have hch := hch.step hcs9 (fun y hy => .inl hy);refine WL.nil (kr32 _ _ _ (kh22 ?_));refine Sr fun _ kh37 => zg hb6 rfl ?_;refine zss rfl rfl ao hb2 rfl fun ws11 hb2_ hcs11 => ?_;(try simp only [Sx.splice, qt] at hb2_);have hch := hch.s1 hcs11;have hT := hT.keepBK hb2 hcs11 an;have hNU := hNU.keepBK hb2 hcs11 an;have hb2 := hb2_;refine zz (kh37 ?_);refine zr (bodyA.retR1 rfl (RVal.cell rfl (BK.varA hb2 rfl (by simp))) ?_);rw [hD];refine ⟨_, rfl, hNU, ?_, hch⟩;refine Eq.mp (congrArg (TpM lo _ bt bs q) ?_) hT;dsimp only
 first | (simp_all; done) | (refine (decide_eq_true ?_).symm; simp_all; done) | (refine decide_eq_decide.2 ?_; simp_all; done) | (refine decide_eq_decide.2 ?_; simp_all; omega) | (refine (decide_eq_true (.inr (.inl ?_))).symm; omega) | (refine (decide_eq_true (.inr (.inl ?_))).symm; simp_all; omega)

end

/- Means where signs are turned. No condition. -/
section
open Go Sx Wd
set_option exponentiation.threshold 9000

def ngB (x : Nat) : Nat := if x < 9223372036854775808 then x + 9223372036854775808 else x - 9223372036854775808
theorem negFloat_eq {x : Nat} (h : x < 18446744073709551616) : Op.negFloat .f64 x = ngB x := by
  unfold ngB
  by_cases q : x < 9223372036854775808
  · rw [if_pos q]; exact negF q
  · rw [if_neg q]
    have e := negF (x := x - 9223372036854775808) (by omega)
    rw [show x - 9223372036854775808 + 9223372036854775808 = x by omega] at e
    have e' : (x - 9223372036854775808) ^^^ 2 ^ 63 = x := e
    show x ^^^ 2 ^ 63 = _
    calc x ^^^ 2 ^ 63 = ((x - 9223372036854775808) ^^^ 2 ^ 63) ^^^ 2 ^ 63 := by rw [e']
      _ = x - 9223372036854775808 := by rw [Nat.xor_assoc, Nat.xor_self, Nat.xor_zero]
end

/- Package bits: neighbours. No condition. -/
section
open Go Sx Wd Fl

end

/- The ends of a shard that is read. No condition. -/
section
open Go Sx Wd Fl

def isInfP (x : Nat) (s : Int) : Prop := if s = 0 then x % 9223372036854775808 = 9218868437227405312 else if s < 0 then x = 18442240474082181120 else x = 9218868437227405312
instance (x : Nat) (s : Int) : Decidable (isInfP x s) := by unfold isInfP; exact inferInstance
theorem read_max : Ieee.double.read 9218868437227405311 = .number false 9007199254740991 971 := by decide +kernel
theorem order_max {x : Nat} (hx : x < 18446744073709551616) : (FloatKind.f64.format.order x 9218868437227405311 == some .gt) = decide (x = 9218868437227405312) := by
  by_cases h : (splitP x).cls ≤ 2
  · have hm := fin_mod h
    have hne : ¬ x = 9218868437227405312 := by omega
    rw [order_fin h (by decide +kernel), fcmp_gt, decide_eq_false hne]
    refine decide_eq_false ?_
    rw [fv_pos (r := 9218868437227405311) (by decide), fvI_nz h hx]
    have hmn := Nat.mul_le_mul_right (2 ^ 1074) (nz_le (show x % 9223372036854775808 ≤ 9218868437227405311 by omega))
    split <;> omega
  · have hm : ¬ x % 9223372036854775808 < 9218868437227405312 := fun z => h ((cls_le2 x).2 z)
    show ((Ieee.double.read x).order (Ieee.double.read 9218868437227405311) == some .gt) = _
    rw [read_max]
    unfold Ieee.Format.read
    simp only [double_sign, double_inf, double_bin]
    split
    · omega
    · split
      · simp only [Ieee.Datum.order]
        by_cases hs : x < 9223372036854775808
        · have e : (x / 9223372036854775808 % 2 == 1) = false := by simp; omega
          rw [e, decide_eq_true (by omega)]; rfl
        · have e : (x / 9223372036854775808 % 2 == 1) = true := by simp; omega
          rw [e, decide_eq_false (by omega)]; rfl
      · rw [decide_eq_false (by omega)]; rfl
theorem and_abs (x : Nat) : x &&& (2 ^ IntKind.u64.bits - 1 - 9223372036854775808) = x % 9223372036854775808 := Nat.and_two_pow_sub_one_eq_mod x 63
theorem ngB_lt2 {x : Nat} (h : x < 18446744073709551616) : ngB x < 18446744073709551616 := by unfold ngB; split <;> omega

theorem fAbs_spec (x : Nat) (w : World) (hx : x < 18446744073709551616) : Ret Tryz.prog 211 [.float .f64 x] w fun u w' => u = .float .f64 (x % 9223372036854775808) ∧ w = w' := by
 refine zE1 Tryz.func211 rfl ?_;refine Sr fun _ kh1 => za rfl (zz (kh1 (Sr fun _ kh3 => zm rfl ?_)));refine WL.ev (Ev.ext rfl (ext65 _ _)) rfl ?_;refine WL.ev (Ev.andNotU (a := x) (b := 9223372036854775808) rfl rfl rfl (by simp only [IntKind.bits]; omega) (by decide)) rfl ?_;rw [and_abs];refine WL.ev (Ev.ext rfl (ext87 _ _)) rfl ?_;refine za rfl (zz (kh3 ?_));refine zr (zr1 rfl rfl ?_);exact ⟨congrArg (Value.float .f64) (by first | rfl | omega), rfl⟩

theorem fSign_spec (x : Nat) (w : World) (hx : x < 18446744073709551616) : Ret Tryz.prog 266 [.float .f64 x] w fun u w' => u = .bool (decide (9223372036854775808 ≤ x)) ∧ w = w' := by
 refine zE1 Tryz.func266 rfl ?_;refine Sr fun _ kh1 => za rfl (zz (kh1 (Sr fun _ kh3 => zm rfl ?_)));refine WL.ev (Ev.ext rfl (ext65 _ _)) rfl ?_;refine WL.ev (Ev.conv rfl rfl) rfl ?_;rw [wrap_i64m];refine zL rfl rfl (za rfl (zz (kh3 ?_)));refine zr (zr1 rfl rfl ?_);exact ⟨congrArg Value.bool (decide_eq_decide.2 (by omega)), rfl⟩

theorem fInf_spec (x : Nat) (s : Int) (w : World) (hx : x < 18446744073709551616) (hs : s = -1 ∨ s = 0 ∨ s = 1) : Ret Tryz.prog 126 [.float .f64 x, .int .i64 s] w fun u w' => u = .bool (decide (isInfP x s)) ∧ w = w' := by
 refine zE2 Tryz.func126 rfl ?_;refine Sr fun _ kh1 => za rfl (zz (kh1 (zc fun _ kh3 => Sr fun _ kh4 => zm rfl (zq rfl rfl (zz (kh4 ?_))))));refine zy rfl ?_ ?_<;>intro hc1<;>try simp only [qs] at hc1
 ·have h0 : s = 0 := hc1
  refine zR fun _ kr6 => ?_;refine zm rfl ?_;refine WL.call hasF211 rfl rfl (fAbs_spec x _ hx) fun v w1 h' => ?_;obtain ⟨rfl, rfl⟩ := h';refine za rfl ?_;refine WL.nil (kr6 _ _ _ (kh3 ?_));refine Sr fun _ kh7 => zm rfl ?_;refine WL.ev (Ev.fgtr rfl rfl) rfl ?_;refine za rfl (zz (kh7 ?_));refine zr (zr1 rfl rfl ?_);refine ⟨congrArg Value.bool ((order_max (by omega)).trans (decide_eq_decide.2 ?_)), rfl⟩;unfold isInfP; rw [if_pos h0]
 have h0 : ¬ s = 0 := hc1;refine Sr fun _ kh9 => zm rfl (zL rfl rfl (zz (kh9 ?_)));refine zy rfl ?_ ?_<;>intro hc2<;>try simp only [qs] at hc2
 ·have h1 : s < 0 := hc2
  refine zR fun _ kr11 => ?_;refine zm rfl ?_;refine WL.ev (Ev.fneg rfl) rfl ?_;rw [negFloat_eq hx];refine za rfl ?_;refine WL.nil (kr11 _ _ _ (kh3 ?_));refine Sr fun _ kh12 => zm rfl ?_;refine WL.ev (Ev.fgtr rfl rfl) rfl ?_;refine za rfl (zz (kh12 ?_));refine zr (zr1 rfl rfl ?_);refine ⟨congrArg Value.bool ((order_max (ngB_lt2 hx)).trans (decide_eq_decide.2 ?_)), rfl⟩;unfold isInfP ngB; rw [if_neg h0, if_pos h1]; split <;> omega
 have h1 : ¬ s < 0 := by have := hc2; omega
 refine zkk (kh3 (Sr fun _ kh14 => zm rfl ?_));refine WL.ev (Ev.fgtr rfl rfl) rfl ?_;refine za rfl (zz (kh14 ?_));refine zr (zr1 rfl rfl ?_);refine ⟨congrArg Value.bool ((order_max hx).trans (decide_eq_decide.2 ?_)), rfl⟩;unfold isInfP; rw [if_neg h0, if_neg h1]

end

/- The ends of a shard that is read: end, ends. No condition. -/
section
open Go Sx Wd Fl

def endP (x : Nat) (side : Int) (there beyond noughts : Nat) (S : Sh) : Prop :=
  if 0 < there then isInfP x side else if S.fin = 0 then 0 < beyond ∧ isInfP x (-side) else if isInfP x 0 then False else if 0 < S.pln then True else x % 9223372036854775808 = 0 ∧ (9223372036854775808 ≤ x ↔ (side < 0 ↔ 0 < noughts))
instance (x : Nat) (side : Int) (a b c : Nat) (S : Sh) : Decidable (endP x side a b c S) := by unfold endP; exact inferInstance
def endsP (S : Sh) : Prop := ¬ (isNaN S.lo = true ∨ isNaN S.hi = true ∨ key S.hi < key S.lo) ∧ endP S.lo (-1) S.s.dn S.s.up S.s.mi S ∧ endP S.hi 1 S.s.up S.s.dn S.s.pl S
instance (S : Sh) : Decidable (endsP S) := by unfold endsP; exact inferInstance
theorem LASTEQ {a b c d : Prop} {x : Nat} [Decidable a] [Decidable b] [Decidable c] [Decidable d] (hq : c ↔ d) (h : x % 9223372036854775808 = 0) : (decide a == (decide b == decide c)) = decide (x % 9223372036854775808 = 0 ∧ (a ↔ (b ↔ d))) := by
  rw [Bool.eq_iff_iff]
  by_cases ha : a <;> by_cases hb : b <;> by_cases hd : d <;> simp [ha, hb, hd, hq, h]
theorem BEYT {a c : Prop} [Decidable a] [Decidable c] (h : a) : decide c = decide (a ∧ c) := by simp [h]
theorem BEYF {a c : Prop} [Decidable a] [Decidable c] (h : ¬ a) : false = decide (a ∧ c) := by simp [h]
theorem dec_iff {a b : Prop} [Decidable a] [Decidable b] : (decide a == decide b) = decide (a ↔ b) := by
  by_cases ha : a <;> by_cases hb : b <;> simp [ha, hb]

theorem shend_spec (b x there beyond noughts : Nat) (side : Int) (S : Sh) (w : World) (hS : ShM 109 w b S) (hle : S.s.le 1099511627776) (hx : x < 18446744073709551616) (hsd : side = -1 ∨ side = 1) : Ret Tryz.prog 181 [.float .f64 x, .int .i64 side, .int .i64 (there : Int), .int .i64 (beyond : Int), .int .i64 (noughts : Int), .pointer (some ⟨b, 0, none⟩)] w fun u w' => u = .bool (decide (endP x side there beyond noughts S)) ∧ Chg [] w w' := by
 have hS0 := hS;have hch := crf w;refine Ret.enter Tryz.func181 rfl rfl ?_;simp only [args0, Nat.zero_add, Nat.reduceAdd];refine Sr fun _ kh1 => za rfl (zz (kh1 (zc fun _ kh3 => CW.block (Sr fun _ kh4 => zm rfl (zG rfl rfl (za rfl (zz (kh4 ?_))))))));refine zy rfl ?_ ?_<;>intro hc1<;>try simp only [qs] at hc1
 ·have h1 : 0 < there := by have := hc1; omega
  refine Sr fun _ kh6 => zm rfl (zm rfl ?_);refine WL.call hasF126 rfl rfl (fInf_spec x side _ hx (by omega)) fun v w1 h' => ?_;obtain ⟨rfl, rfl⟩ := h';refine za rfl (zz (kh6 ?_));refine zr (zr1 rfl rfl ?_);refine ⟨congrArg Value.bool (decide_eq_decide.2 ?_), hch⟩
  show _ ↔ endP x side there beyond noughts S
  unfold endP;rw [if_pos h1]
 have h1 : ¬ 0 < there := by have := hc1; omega
 refine Sr fun _ kh8 => zm rfl ?_;refine WL.call hasF85 rfl rfl (finite_spec b S _ hS0 hle) fun v w2 h' => ?_;obtain ⟨rfl, hC⟩ := h';have hch := hch.ta hC;have hS0 := hS0.keep0 hC;refine zq rfl rfl (za rfl (zz (kh8 ?_)));refine zy rfl ?_ ?_<;>intro hc2<;>try simp only [qs] at hc2
 ·have h2 : S.fin = 0 := hc2
  refine Sr fun _ kh10 => zm rfl (zG rfl rfl (zm rfl ?_));refine zb ?_ ?_<;>intro hg3<;>try simp only [qs] at hg3
  ·refine zw rfl (zm rfl (zw rfl (zm rfl (zw rfl ?_))));refine WL.ev (Ev.negIn rfl (by omega)) rfl ?_
   refine zw rfl ?_;refine WL.call hasF126 rfl rfl (fInf_spec x (-side) _ hx (by omega)) fun v w3 h' => ?_;obtain ⟨rfl, rfl⟩ := h';refine zt rfl rfl (za rfl (zz (kh10 ?_)));refine zr (zr1 rfl rfl ?_);refine ⟨congrArg Value.bool ?_, hch⟩;have e : (endP x side there beyond noughts S) ↔ (0 < beyond ∧ isInfP x (-side)) := by unfold endP; rw [if_neg h1, if_pos h2]
   rw [decide_eq_decide.2 e]
   first | exact BEYT (by omega) | exact BEYF (by omega)
  refine zv rfl (zv rfl (zv rfl (zv rfl (ze rfl rfl (za rfl (zz (kh10 ?_)))))));refine zr (zr1 rfl rfl ?_);refine ⟨congrArg Value.bool ?_, hch⟩;have e : (endP x side there beyond noughts S) ↔ (0 < beyond ∧ isInfP x (-side)) := by unfold endP; rw [if_neg h1, if_pos h2]
  rw [decide_eq_decide.2 e]
  first | exact BEYT (by omega) | exact BEYF (by omega)
 have h2 : ¬ S.fin = 0 := hc2;refine Sr fun _ kh12 => zm rfl ?_;refine WL.call hasF126 rfl rfl (fInf_spec x 0 _ hx (by omega)) fun v w4 h' => ?_;obtain ⟨rfl, rfl⟩ := h';refine za rfl (zz (kh12 ?_));refine zy rfl ?_ ?_<;>intro hc4<;>try simp only [qs] at hc4
 ·have h3 : isInfP x 0 := by simpa using hc4
  refine Sr fun _ kh14 => za rfl (zz (kh14 ?_));refine zr (zr1 rfl rfl ?_);refine ⟨congrArg Value.bool (decide_eq_false ?_).symm, hch⟩;unfold endP;rw [if_neg h1, if_neg h2, if_pos h3];exact fun z => z
 have h3 : ¬ isInfP x 0 := by simpa using hc4
 refine Sr fun _ kh16 => zm rfl ?_;refine WL.call hasF178 rfl rfl (plain_spec b S _ hS0 hle) fun v w5 h' => ?_;obtain ⟨rfl, hC⟩ := h';have hch := hch.ta hC;refine zG rfl rfl (za rfl (zz (kh16 ?_)));refine zy rfl ?_ ?_<;>intro hc5<;>try simp only [qs] at hc5
 ·have h4 : 0 < S.pln := by have := hc5; omega
  refine Sr fun _ kh18 => za rfl (zz (kh18 ?_));refine zr (zr1 rfl rfl ?_);refine ⟨congrArg Value.bool (decide_eq_true ?_).symm, hch⟩;unfold endP;rw [if_neg h1, if_neg h2, if_neg h3, if_pos h4]
  trivial
 have h4 : ¬ 0 < S.pln := by have := hc5; omega
 refine zkk (kh3 (Sr fun _ kh20 => zm rfl (zL rfl rfl (zm rfl (zG rfl rfl ?_)))));refine WL.ev (Ev.eql_bool rfl rfl) rfl ?_;refine za rfl (zz (kh20 (Sr fun _ kh22 => zm rfl ?_)));refine WL.ev (Ev.feql rfl rfl) rfl ?_;rw [order_zero];refine zm rfl ?_;refine zb ?_ ?_<;>intro hg6<;>try simp only [qs] at hg6
 ·refine zw rfl (zm rfl (zw rfl ?_));refine WL.call hasF266 rfl rfl (fSign_spec x _ hx) fun v w6 h' => ?_
  obtain ⟨rfl, rfl⟩ := h';refine zw rfl (zm rfl (zw rfl ?_));refine WL.ev (Ev.eql_bool rfl rfl) rfl ?_;refine zt rfl rfl (za rfl (zz (kh22 ?_)));refine zr (zr1 rfl rfl ?_);refine ⟨congrArg Value.bool ?_, hch⟩;have e : (endP x side there beyond noughts S) ↔ (x % 9223372036854775808 = 0 ∧ (9223372036854775808 ≤ x ↔ (side < 0 ↔ 0 < noughts))) := by unfold endP; rw [if_neg h1, if_neg h2, if_neg h3, if_neg h4]
  rw [decide_eq_decide.2 e];have hq : (0 < (noughts : Int)) ↔ 0 < noughts := by omega
  first | (exact LASTEQ hq (by assumption))  | (rw [dec_iff, dec_iff]; refine decide_eq_decide.2 ?_; constructor <;> intro z <;> simp_all <;> omega) | (symm; refine decide_eq_false ?_; simp_all; done)
 refine zv rfl (zv rfl (zv rfl (zv rfl (ze rfl rfl (za rfl (zz (kh22 ?_)))))));refine zr (zr1 rfl rfl ?_);refine ⟨congrArg Value.bool ?_, hch⟩;have e : (endP x side there beyond noughts S) ↔ (x % 9223372036854775808 = 0 ∧ (9223372036854775808 ≤ x ↔ (side < 0 ↔ 0 < noughts))) := by unfold endP; rw [if_neg h1, if_neg h2, if_neg h3, if_neg h4]
 rw [decide_eq_decide.2 e];have hq : (0 < (noughts : Int)) ↔ 0 < noughts := by omega
 first | (exact LASTEQ hq (by assumption))  | (rw [dec_iff, dec_iff]; refine decide_eq_decide.2 ?_; constructor <;> intro z <;> simp_all <;> omega) | (symm; refine decide_eq_false ?_; simp_all; done)

end

/- The ends of a shard that is read: ends. No condition. -/
section
open Go Sx Wd Fl

theorem ends_spec21 (b : Nat) (S : Sh) (w : World) (hS : ShM 109 w b S) (hle : S.s.le 1099511627776) (hlo : S.lo < 18446744073709551616) (hhi : S.hi < 18446744073709551616) : Ret Tryz.prog 90 [.pointer (some ⟨b, 0, none⟩)] w fun u w' => u = .bool (decide (endsP S)) ∧ Chg [] w w' := by
 obtain ⟨rv, rq, hb, hNv, hNq⟩ := hS;obtain ⟨hs1, hs2, hs3, hs4, hs5, hs6⟩ := hle;have hch := crf w;refine zE1 Tryz.func90 rfl ?_;refine Sr fun _ kh1 => za rfl (zz (kh1 (zc fun _ kh3 => ?_)));refine CW.seqMC 26 (decide (isNaN S.lo = true ∨ isNaN S.hi = true ∨ key S.hi < key S.lo)) ?_ ?_
 ·intro hcM;refine CW.regionHC 24 rfl hmix fun kR4 kr4 hS hdr => ?_;have hcM := hcM.ta hdr;have hb := hb.keep0 hdr;have hb_r := hb;refine wh 0 rfl hS (eM rfl) (wh 1 rfl hS (eP rfl) (wh 2 rfl hS (eF rfl) (wh 3 rfl hS (fun _ hw' => Ev.load rfl rfl ((hb_r.keep0 hw').at_ rfl)) ?_)));refine WH.oneCall 4 rfl (by kernel_rfl) hasF124 rfl rfl (math_IsNaN_spec S.lo _) fun v w1 h' => ?_;obtain ⟨rfl, rfl⟩ := h';refine ⟨hS, ?_⟩;cases hq7 : isNaN S.lo
  ·refine wh 5 rfl hS (eM rfl) (wg 6 rfl rfl rfl rfl rfl hS (eM rfl) (wg 7 rfl rfl rfl rfl rfl hS (eP rfl) (wg 8 rfl rfl rfl rfl rfl hS (eF rfl) (wg 9 rfl rfl rfl rfl rfl hS (fun _ hw' => Ev.load rfl rfl ((hb_r.keep0 hw').at_ rfl)) ?_))));refine WH.oneCallG 10 rfl (by kernel_rfl) rfl rfl rfl rfl hasF124 rfl rfl (math_IsNaN_spec S.hi _) fun v w2 h' => ?_;obtain ⟨rfl, rfl⟩ := h';refine ⟨hS, ?_⟩;cases hq13 : isNaN S.hi
   ·refine wh 11 rfl hS (fun _ _ => Ev.pickF rfl rfl rfl) (wh 12 rfl hS (eM rfl) (wg 13 rfl rfl rfl rfl rfl hS (eM rfl) (wg 14 rfl rfl rfl rfl rfl hS (eP rfl) (wg 15 rfl rfl rfl rfl rfl hS (eF rfl) (wg 16 rfl rfl rfl rfl rfl hS (fun _ hw' => Ev.load rfl rfl ((hb_r.keep0 hw').at_ rfl)) (wg 17 rfl rfl rfl rfl rfl hS (eM rfl) (wg 18 rfl rfl rfl rfl rfl hS (eP rfl) (wg 19 rfl rfl rfl rfl rfl hS (eF rfl) (wg 20 rfl rfl rfl rfl rfl hS (fun _ hw' => Ev.load rfl rfl ((hb_r.keep0 hw').at_ rfl)) ?_)))))))));refine WH.oneCallG 21 rfl (by kernel_rfl) rfl rfl rfl rfl hasF82 rfl rfl (bits_Order_spec S.lo S.hi hlo hhi _) fun v w3 h' => ?_;obtain ⟨rfl, rfl⟩ := h';refine ⟨hS, ?_⟩;refine wg 22 rfl rfl rfl rfl rfl hS (fun _ _ => Ev.gtr rfl rfl) (wh 23 rfl hS (fun _ _ => Ev.pickF rfl rfl rfl) ?_);refine WH.done (by kernel_rfl) (kr4 _ _ _ ?_);refine ⟨rfl, hcM, Subs.consB rfl ?_ ?_⟩
    ·first | (simp_all; done) | (refine decide_eq_decide.2 ?_; simp_all [cmpI_pos]; done)
    exact SMg
   refine wh 11 rfl hS (fun _ _ => Ev.pickF rfl rfl rfl) (wh 12 rfl hS (eM rfl) (wp 13 rfl rfl rfl rfl rfl hS (wp 14 rfl rfl rfl rfl rfl hS (wp 15 rfl rfl rfl rfl rfl hS (wp 16 rfl rfl rfl rfl rfl hS (wp 17 rfl rfl rfl rfl rfl hS (wp 18 rfl rfl rfl rfl rfl hS (wp 19 rfl rfl rfl rfl rfl hS (wp 20 rfl rfl rfl rfl rfl hS ?_)))))))));refine WH.passG1 21 rfl (by kernel_rfl) rfl rfl rfl rfl hS rfl ?_;refine wp 22 rfl rfl rfl rfl rfl hS (wh 23 rfl hS (fun _ _ => Ev.pickT rfl rfl rfl) ?_);refine WH.done (by kernel_rfl) (kr4 _ _ _ ?_);refine ⟨rfl, hcM, Subs.consB rfl ?_ ?_⟩
   ·first | (simp_all; done) | (refine decide_eq_decide.2 ?_; simp_all [cmpI_pos]; done)
   exact SMg
  refine wh 5 rfl hS (eM rfl) (wp 6 rfl rfl rfl rfl rfl hS (wp 7 rfl rfl rfl rfl rfl hS (wp 8 rfl rfl rfl rfl rfl hS (wp 9 rfl rfl rfl rfl rfl hS ?_))));refine WH.passG1 10 rfl (by kernel_rfl) rfl rfl rfl rfl hS rfl ?_;refine wh 11 rfl hS (fun _ _ => Ev.pickT rfl rfl rfl) (wh 12 rfl hS (eM rfl) (wp 13 rfl rfl rfl rfl rfl hS (wp 14 rfl rfl rfl rfl rfl hS (wp 15 rfl rfl rfl rfl rfl hS (wp 16 rfl rfl rfl rfl rfl hS (wp 17 rfl rfl rfl rfl rfl hS (wp 18 rfl rfl rfl rfl rfl hS (wp 19 rfl rfl rfl rfl rfl hS (wp 20 rfl rfl rfl rfl rfl hS ?_)))))))));refine WH.passG1 21 rfl (by kernel_rfl) rfl rfl rfl rfl hS rfl ?_;refine wp 22 rfl rfl rfl rfl rfl hS (wh 23 rfl hS (fun _ _ => Ev.pickT rfl rfl rfl) ?_);refine WH.done (by kernel_rfl) (kr4 _ _ _ ?_);refine ⟨rfl, hcM, Subs.consB rfl ?_ ?_⟩
  ·first | (simp_all; done) | (refine decide_eq_decide.2 ?_; simp_all [cmpI_pos]; done)
  exact SMg
 intro wM hcM;have hch := hch.ta hcM;have hb := hb.keep0 hcM;have hNv := hNv.keep0 hcM;have hNq := hNq.keep0 hcM;refine zy rfl ?_ ?_<;>intro hc1<;>try simp only [qs] at hc1
 ·have hn : isNaN S.lo = true ∨ isNaN S.hi = true ∨ key S.hi < key S.lo := by simpa using hc1
  refine Sr fun _ kh5 => za rfl (zz (kh5 ?_));refine zr (zr1 rfl rfl ?_);refine ⟨congrArg Value.bool (decide_eq_false fun z => z.1 hn).symm, hch⟩
 have hn : ¬ (isNaN S.lo = true ∨ isNaN S.hi = true ∨ key S.hi < key S.lo) := by simpa using hc1
 refine zkk (kh3 (zc fun _ kh7 => ?_));refine CW.regionHC 45 rfl hmix fun kR8 kr8 hS hdr => ?_;have hch := hch.ta hdr;have hb := hb.keep0 hdr;have hNv := hNv.keep0 hdr;have hNq := hNq.keep0 hdr;have hb_r := hb;refine wh 0 rfl hS (eM rfl) (wh 1 rfl hS (eP rfl) (wh 2 rfl hS (eF rfl) (wh 3 rfl hS (fun _ hw' => Ev.load rfl rfl ((hb_r.keep0 hw').at_ rfl)) (wh 4 rfl hS (eM rfl) (wh 5 rfl hS (eP rfl) (wh 6 rfl hS (eF rfl) (wh 7 rfl hS (eF rfl) (wh 8 rfl hS (fun _ hw' => Ev.load rfl rfl ((hb_r.keep0 hw').at_ rfl)) (wh 9 rfl hS (eM rfl) (wh 10 rfl hS (eP rfl) (wh 11 rfl hS (eF rfl) (wh 12 rfl hS (eF rfl) (wh 13 rfl hS (fun _ hw' => Ev.load rfl rfl ((hb_r.keep0 hw').at_ rfl)) (wh 14 rfl hS (eM rfl) (wh 15 rfl hS (eP rfl) (wh 16 rfl hS (eF rfl) (wh 17 rfl hS (eF rfl) (wh 18 rfl hS (fun _ hw' => Ev.load rfl rfl ((hb_r.keep0 hw').at_ rfl)) (wh 19 rfl hS (eM rfl) ?_)))))))))))))))))));refine WH.oneCall 20 rfl (by kernel_rfl) hasF181 rfl rfl (shend_spec b S.lo S.s.dn S.s.up S.s.mi (-1) S _ ⟨rv, rq, hb, hNv, hNq⟩ ⟨hs1, hs2, hs3, hs4, hs5, hs6⟩ hlo (by omega)) fun v w4 h' => ?_;obtain ⟨rfl, hC⟩ := h';have hch := hch.ta hC;have hb := hb.keep0 hC;have hNv := hNv.keep0 hC;have hNq := hNq.keep0 hC;have hS := hS.trans hC;refine ⟨hS, ?_⟩
 by_cases hq47 : endP S.lo (-1) S.s.dn S.s.up S.s.mi S
 ·rw [decide_eq_true hq47];refine wh 21 rfl hS (eM rfl) (wg 22 rfl rfl rfl rfl rfl hS (eM rfl) (wg 23 rfl rfl rfl rfl rfl hS (eP rfl) (wg 24 rfl rfl rfl rfl rfl hS (eF rfl) (wg 25 rfl rfl rfl rfl rfl hS (fun _ hw' => Ev.load rfl rfl ((hb_r.keep0 hw').at_ rfl)) (wg 26 rfl rfl rfl rfl rfl hS (eM rfl) (wg 27 rfl rfl rfl rfl rfl hS (eP rfl) (wg 28 rfl rfl rfl rfl rfl hS (eF rfl) (wg 29 rfl rfl rfl rfl rfl hS (eF rfl) (wg 30 rfl rfl rfl rfl rfl hS (fun _ hw' => Ev.load rfl rfl ((hb_r.keep0 hw').at_ rfl)) (wg 31 rfl rfl rfl rfl rfl hS (eM rfl) (wg 32 rfl rfl rfl rfl rfl hS (eP rfl) (wg 33 rfl rfl rfl rfl rfl hS (eF rfl) (wg 34 rfl rfl rfl rfl rfl hS (eF rfl) (wg 35 rfl rfl rfl rfl rfl hS (fun _ hw' => Ev.load rfl rfl ((hb_r.keep0 hw').at_ rfl)) (wg 36 rfl rfl rfl rfl rfl hS (eM rfl) (wg 37 rfl rfl rfl rfl rfl hS (eP rfl) (wg 38 rfl rfl rfl rfl rfl hS (eF rfl) (wg 39 rfl rfl rfl rfl rfl hS (eF rfl) (wg 40 rfl rfl rfl rfl rfl hS (fun _ hw' => Ev.load rfl rfl ((hb_r.keep0 hw').at_ rfl)) (wg 41 rfl rfl rfl rfl rfl hS (eM rfl) ?_))))))))))))))))))));refine WH.oneCallG 42 rfl (by kernel_rfl) rfl rfl rfl rfl hasF181 rfl rfl (shend_spec b S.hi S.s.up S.s.dn S.s.pl 1 S _ ⟨rv, rq, hb, hNv, hNq⟩ ⟨hs1, hs2, hs3, hs4, hs5, hs6⟩ hhi (by omega)) fun v w5 h' => ?_;obtain ⟨rfl, hC⟩ := h';have hch := hch.ta hC;have hS := hS.trans hC;refine ⟨hS, ?_⟩;refine wh 43 rfl hS (fun _ _ => Ev.pickT rfl rfl rfl) (wh 44 rfl hS (eA rfl) ?_);refine WH.done (by kernel_rfl) (kr8 _ _ _ ?_);refine kh7 ?_;refine zr (zr1 rfl rfl ?_);refine ⟨congrArg Value.bool (decide_eq_decide.2 ⟨fun z => ⟨hn, hq47, z⟩, fun z => z.2.2⟩), hch⟩
 rw [decide_eq_false hq47];refine wh 21 rfl hS (eM rfl) (wp 22 rfl rfl rfl rfl rfl hS (wp 23 rfl rfl rfl rfl rfl hS (wp 24 rfl rfl rfl rfl rfl hS (wp 25 rfl rfl rfl rfl rfl hS (wp 26 rfl rfl rfl rfl rfl hS (wp 27 rfl rfl rfl rfl rfl hS (wp 28 rfl rfl rfl rfl rfl hS (wp 29 rfl rfl rfl rfl rfl hS (wp 30 rfl rfl rfl rfl rfl hS (wp 31 rfl rfl rfl rfl rfl hS (wp 32 rfl rfl rfl rfl rfl hS (wp 33 rfl rfl rfl rfl rfl hS (wp 34 rfl rfl rfl rfl rfl hS (wp 35 rfl rfl rfl rfl rfl hS (wp 36 rfl rfl rfl rfl rfl hS (wp 37 rfl rfl rfl rfl rfl hS (wp 38 rfl rfl rfl rfl rfl hS (wp 39 rfl rfl rfl rfl rfl hS (wp 40 rfl rfl rfl rfl rfl hS (wp 41 rfl rfl rfl rfl rfl hS ?_))))))))))))))))))));refine WH.passG1 42 rfl (by kernel_rfl) rfl rfl rfl rfl hS rfl ?_;refine wh 43 rfl hS (fun _ _ => Ev.pickF rfl rfl rfl) (wh 44 rfl hS (eA rfl) ?_);refine WH.done (by kernel_rfl) (kr8 _ _ _ ?_);refine kh7 ?_;refine zr (zr1 rfl rfl ?_);refine ⟨congrArg Value.bool (decide_eq_false fun z => hq47 z.2.1).symm, hch⟩

end

/- The sums of a shard that is read. No condition. -/
section
open Go Sx Wd Fl

def cmpY (x y : Dy) : Int := cmpD x.neg x.m x.e y.neg y.m y.e
def topD : Dy := ⟨false, 1, 2048⟩
theorem topD_wd : wd topD.m = [1] := by show wd 1 = [1]; decide +kernel
theorem topD_ok : topD.ok := ⟨fun h => absurd h (by decide), fun _ => by decide, by rw [topD_wd]; decide, by decide⟩
def sumsP (S : Sh) : Prop :=
  if S.pln = 0 then S.V.m = 0 ∧ S.Q.m = 0 else
    ¬ (sgD S.Q.neg S.Q.m ≤ 0 ∨ S.Q.e < -2148 ∨ (S.V.m ≠ 0 ∧ S.V.e < -1074)) ∧ cmpY S.Q ((mulD (intD S.pln) topD).getD Dy.zero) < 0 ∧ cmpY ((mulD S.V S.V).getD Dy.zero) ((mulD (intD S.pln) S.Q).getD Dy.zero) ≤ 0
instance (S : Sh) : Decidable (sumsP S) := by unfold sumsP; exact inferInstance
theorem wd_zero_iff {n : Nat} : (wd n).length = 0 ↔ n = 0 := by
  constructor
  · intro h
    have := (wd_length_le (n := n) (k := 0)).1 (by omega)
    simpa using this
  · rintro rfl; rw [wd_zero]; rfl
theorem DR.cells2 {w : World} {u : Value} {x : Option Dy} (h : DR w u x) : ∃ (r : Value) (k : Int), u = .tuple [.agg [.bool (x.getD Dy.zero).neg, r, .int .i64 (x.getD Dy.zero).e].toArray, .int .i64 k].toArray ∧ NU w r (wd (x.getD Dy.zero).m) := by
  obtain ⟨r, k, h1, h2, _⟩ := h.cellsK
  exact ⟨r, k, h1, h2⟩

theorem le_mil {d : Dy} (h : d.ok) : (wd d.m).length ≤ 1000000 := by have := h.len; omega
theorem e_mil {d : Dy} (h : d.ok) : -1000000000000 ≤ d.e ∧ d.e ≤ 1000000000000 := by have := h.e; omega

theorem sums_spec21 (b : Nat) (S : Sh) (w : World) (hS : ShM 109 w b S) (hle : S.s.le 1099511627776) (hokV : S.V.ok) (hokQ : S.Q.ok) (hg : GW w) : Ret Tryz.prog 89 [.pointer (some ⟨b, 0, none⟩)] w fun u w' => u = .bool (decide (sumsP S)) ∧ Chg [] w w' := by
 obtain ⟨rv, rq, hb, hNv, hNq⟩ := hS;obtain ⟨hs1, hs2, hs3, hs4, hs5, hs6⟩ := hle;have hch := crf w;obtain ⟨⟨av, cv, hve, hcv, hrv⟩, -, hlv⟩ := id hNv;obtain ⟨⟨aq, cq, hqe, hcq, hrq⟩, -, hlq⟩ := id hNq;subst hve hqe;have hg0 := hg;have hzv := wd_zero_iff (n := S.V.m);have hzq := wd_zero_iff (n := S.Q.m);refine zE1 Tryz.func89 rfl ?_;refine Sr fun _ kh1 => za rfl (zz (kh1 (Sr fun _ kh3 => zm rfl ?_)));refine WL.call hasF178 rfl rfl (plain_spec b S _ ⟨_, _, hb, hNv, hNq⟩ ⟨hs1, hs2, hs3, hs4, hs5, hs6⟩) fun v w1 h' => ?_;obtain ⟨rfl, hC⟩ := h';have hpl : -9223372036854775808 ≤ S.pln ∧ S.pln ≤ 9223372036854775807 := by unfold Sh.pln Sh.fin; omega
 have hokn : (intD S.pln).ok := intD_ok (by unfold Sh.pln Sh.fin; omega);have hov := hNv.one;have hoq := hNq.one;have hch := hch.ta hC;have hb := hb.keep0 hC;have hNv := hNv.keep0 hC;have hNq := hNq.keep0 hC;refine za rfl (zz (kh3 (zc fun _ kh5 => CW.block (Sr fun _ kh6 => zm rfl (zq rfl rfl (za rfl (zz (kh6 ?_))))))));refine zy rfl ?_ ?_<;>intro hc1<;>try simp only [qs] at hc1
 ·have h0 : S.pln = 0 := hc1
  refine zc fun _ kh8 => ?_;refine CW.regionSC hmix (by kernel_rfl) fun kR9 kr9 hdr => ?_;have hch := hch.ta hdr;have hb := hb.keep0 hdr;refine ym rfl (yP rfl (yf rfl (yf rfl ?_)));refine WS.ev (Ev.load (v := .slice av (wd S.V.m).length cv) rfl rfl (hb.at_ rfl)) rfl ?_;refine yn rfl (ym rfl (yP rfl (yf rfl (yf rfl ?_))));refine WS.ev (Ev.load (v := .slice aq (wd S.Q.m).length cq) rfl rfl (hb.at_ rfl)) rfl ?_;refine yn rfl ?_
  first | refine WS.ev (Ev.addIn rfl rfl (by omega)) rfl ?_ | refine WS.ev (Ev.add rfl rfl) rfl ?_
  refine WS.ev (Ev.eql rfl rfl) rfl ?_;refine ya rfl ?_;refine WS.nil (kr9 _ _ ?_);refine kh8 ?_;refine zr (zr1 rfl rfl ?_);refine ⟨congrArg Value.bool (decide_eq_decide.2 ?_), hch⟩;unfold sumsP;rw [if_pos h0];omega
 have h0 : ¬ S.pln = 0 := hc1;refine CW.seqMC 30 (decide (sgD S.Q.neg S.Q.m ≤ 0 ∨ S.Q.e < -2148 ∨ (S.V.m ≠ 0 ∧ S.V.e < -1074))) ?_ ?_
 ·intro hcM;refine zS fun _ kr10 => zm rfl (zP rfl (zf rfl ?_));refine WL.ev (Ev.loadB rfl rfl hb rfl rfl) rfl ?_
  try simp only [List.drop_succ_cons, List.drop_zero, List.take_succ_cons, List.take_zero]
  refine WL.call hasF93 rfl rfl (Sign_dspec _ _ _ _ _ hNq) fun v w2 h' => ?_;obtain ⟨rfl, hC⟩ := h';rw [val_wd];have hcM := hcM.ta hC;have hb := hb.keep0 hC;refine zQ rfl rfl (zm rfl ?_);refine zb ?_ ?_<;>intro hg2<;>try simp only [qs] at hg2
  ·refine zv rfl (zv rfl (zv rfl (zv rfl (zv rfl (zv rfl (zt rfl rfl (zm rfl (zv rfl (zv rfl (zv rfl (zv rfl (zv rfl (zv rfl (zv rfl (zv rfl (zu rfl (zu rfl (zu rfl (zu rfl (zu rfl (zu rfl (zv rfl (zt rfl rfl ?_)))))))))))))))))))))));refine za rfl (zz (kr10 ?_));refine ⟨rfl, hcM, Subs.consB rfl ?_ ?_⟩
   ·first | (simp_all; done) | (refine decide_eq_decide.2 ?_; omega) | (refine (decide_eq_true ?_).symm; omega) | (refine (decide_eq_false ?_).symm; omega)
   exact SMg
  refine zw rfl (zm rfl (zw rfl (zP rfl (zw rfl (zf rfl (zw rfl (zf rfl (zw rfl (zl hb rfl rfl (zw rfl (zL rfl rfl (ze rfl rfl (zm rfl ?_)))))))))))));refine zb ?_ ?_<;>intro hg3<;>try simp only [qs] at hg3
  ·refine zv rfl (zv rfl (zv rfl (zv rfl (zv rfl (zv rfl (zv rfl (zv rfl (zu rfl (zu rfl (zu rfl (zu rfl (zu rfl (zu rfl (zv rfl (zt rfl rfl (za rfl (zz (kr10 ?_))))))))))))))))));refine ⟨rfl, hcM, Subs.consB rfl ?_ ?_⟩
   ·first | (simp_all; done) | (refine decide_eq_decide.2 ?_; omega) | (refine (decide_eq_true ?_).symm; omega) | (refine (decide_eq_false ?_).symm; omega)
   exact SMg
  refine zw rfl (zm rfl (zw rfl (zP rfl (zw rfl (zf rfl (zw rfl (zf rfl (zw rfl ?_))))))));refine WL.ev (Ev.load (v := .slice av (wd S.V.m).length cv) rfl rfl (hb.at_ rfl)) rfl ?_;refine zw rfl (zn rfl (zw rfl (zG rfl rfl (zw rfl (zm rfl ?_)))));refine zb ?_ ?_<;>intro hg4<;>try simp only [qs] at hg4
  ·refine zw rfl (zm rfl (zw rfl (zP rfl (zw rfl (zf rfl (zw rfl (zf rfl (zw rfl (zl hb rfl rfl (zw rfl (zL rfl rfl (zw rfl (zt rfl rfl (ze rfl rfl (za rfl (zz (kr10 ?_)))))))))))))))));refine ⟨rfl, hcM, Subs.consB rfl ?_ ?_⟩
   ·first | (simp_all; done) | (refine decide_eq_decide.2 ?_; omega) | (refine (decide_eq_true ?_).symm; omega) | (refine (decide_eq_false ?_).symm; omega)
   exact SMg
  refine zv rfl (zv rfl (zv rfl (zv rfl (zv rfl (zv rfl (zw rfl (ze rfl rfl (ze rfl rfl (za rfl (zz (kr10 ?_)))))))))));refine ⟨rfl, hcM, Subs.consB rfl ?_ ?_⟩
  ·first | (simp_all; done) | (refine decide_eq_decide.2 ?_; omega) | (refine (decide_eq_true ?_).symm; omega) | (refine (decide_eq_false ?_).symm; omega)
  exact SMg
 intro wM hcM;have hch := hch.ta hcM;have hb := hb.keep0 hcM;have hNv := hNv.keep0 hcM;have hNq := hNq.keep0 hcM;refine zy rfl ?_ ?_<;>intro hc5<;>try simp only [qs] at hc5
 ·have h1 : sgD S.Q.neg S.Q.m ≤ 0 ∨ S.Q.e < -2148 ∨ (S.V.m ≠ 0 ∧ S.V.e < -1074) := by simpa using hc5
  refine Sr fun _ kh11 => za rfl (zz (kh11 ?_));refine zr (zr1 rfl rfl ?_);refine ⟨congrArg Value.bool (decide_eq_false fun z => ?_).symm, hch⟩;unfold sumsP at z;rw [if_neg h0] at z;exact z.1 h1
 have h1 : ¬ (sgD S.Q.neg S.Q.m ≤ 0 ∨ S.Q.e < -2148 ∨ (S.V.m ≠ 0 ∧ S.V.e < -1074)) := by simpa using hc5
 refine zkk (kh5 (Sr fun _ kh13 => zm rfl ?_));refine WL.call hasF179 rfl rfl (Int_spec S.pln _ (hg0.keep0 hch) hpl) fun v w3 h' => ?_;obtain ⟨⟨ri, rfl, hNi⟩, hC⟩ := h';have hoi := hNi.one;have hch := hch.ta hC;have hb := hb.keep0 hC;have hNv := hNv.keep0 hC;have hNq := hNq.keep0 hC;refine zAh rfl rfl hch fun b4 wm4 hb4 hcm4 hge4 hgehch4 hch => ?_;have hNv := hNv.keep0 hcm4;have hNq := hNq.keep0 hcm4;have hNi := hNi.keep0 hcm4;have hneb4 : b ≠ b4 := by have := hb.lt; omega
 have hb := hb.keep0 hcm4;refine zss rfl rfl ao hb4 rfl fun ws12 hb4_ hcs12 => ?_;(try simp only [Sx.splice, qt] at hb4_);have hch := hch.s1 hcs12;have hb := hb.kq hcs12;have hNv := hNv.keepBK hb4 hcs12 an;have hNq := hNq.keepBK hb4 hcs12 an;have hNi := hNi.keepBK hb4 hcs12 an;have hb4 := hb4_;refine zz (kh13 (Sr fun _ kh15 => zg hb4 rfl ?_));refine WL.buildSlice (m := 1) (cs := [u32v (1)]) (by decide) (by decide) rfl (by kernel_rfl) rfl fun b66 w66 hn66 => ?_;have hcm66 := hn66.chg;have hge66 := hn66.ge;have hb66 : OB w66 b66 _ [1] := hn66.at_;have hgehch66 := Nat.le_trans hch.size hge66;have hch := hch.ta hcm66;have hNv := hNv.keep0 hcm66;have hNq := hNq.keep0 hcm66;have hNi := hNi.keep0 hcm66;have hneb66 : b ≠ b66 := by have := hb.lt; omega
 have hb := hb.keep0 hcm66;have hneb466 := zdd hb4.lt hge66;have hb4 := hb4.k0 hcm66;refine WL.ev (Ev.build (vs := _) (cs := [_, _, _]) rfl rfl) rfl ?_;refine WL.call hasF132 rfl rfl (Mul_dspec _ _ _ _ _ _ _ _ _ hNi (show NU _ (.slice (some ⟨b66, 0, none⟩) 1 1) (wd topD.m) from by rw [topD_wd]; exact NU.of_block hb66 (W_cons.2 ⟨by decide, W_nil⟩) (by decide) rfl (Nat.le_refl _)) (hg0.keep0 hch) (ok_i64 hokn) (ok_i64 topD_ok)) fun v w4 h' => ?_;obtain ⟨hD, hC⟩ := h'
 change DR _ _ (both2 mulD (formD (intD S.pln).neg (val (wd (intD S.pln).m)) (intD S.pln).e) (formD topD.neg (val (wd topD.m)) topD.e)) at hD
 rw [both_ok hokn topD_ok] at hD;obtain ⟨rt, kt, rfl, hRt⟩ := hD.cells2;have hot := hRt.one;have hch := hch.ta hC;have hb := hb.keep0 hC;have hb4 := hb4.k0 hC;have hNv := hNv.keep0 hC;have hNq := hNq.keep0 hC;have hNi := hNi.keep0 hC;refine zm rfl (zx rfl rfl (zx rfl rfl ?_));refine zAh rfl rfl hch fun b5 wm5 hb5 hcm5 hge5 hgehch5 hch => ?_;have hNv := hNv.keep0 hcm5;have hNq := hNq.keep0 hcm5;have hNi := hNi.keep0 hcm5;have hRt := hRt.keep0 hcm5;have hneb5 : b ≠ b5 := by have := hb.lt; omega
 have hb := hb.keep0 hcm5;have hneb45 := zdd hb4.lt hge5;have hb4 := hb4.k0 hcm5;refine zss rfl rfl ao hb5 rfl fun ws13 hb5_ hcs13 => ?_;(try simp only [Sx.splice, qt] at hb5_);have hch := hch.s1 hcs13;have hb := hb.kq hcs13;have hb4 := hb4.kq hcs13;have hNv := hNv.keepBK hb5 hcs13 an;have hNq := hNq.keepBK hb5 hcs13 an;have hNi := hNi.keepBK hb5 hcs13 an;have hRt := hRt.keepBK hb5 hcs13 an;have hb5 := hb5_;refine za rfl (zz (kh15 ?_));refine CW.seqJ (fun D s' w' => D = [] ∧ ∃ (b7 : Nat) (rv : Value), BK w' b 109 [.int .i64 (S.s.na : Int), .int .i64 (S.s.up : Int), .int .i64 (S.s.dn : Int), .int .i64 (S.s.mi : Int), .int .i64 (S.s.pl : Int), .int .i64 (S.s.al : Int), .bool S.V.neg, .slice av (wd S.V.m).length cv, .int .i64 S.V.e, .bool S.Q.neg, .slice aq (wd S.Q.m).length cq, .int .i64 S.Q.e, .float .f64 S.lo, .float .f64 S.hi] ∧ NU w' (.slice av (wd S.V.m).length cv) (wd S.V.m) ∧ NU w' (.slice aq (wd S.Q.m).length cq) (wd S.Q.m) ∧ BK w' b4 107 [.bool (intD S.pln).neg, ri, .int .i64 (intD S.pln).e] ∧ NU w' ri (wd (intD S.pln).m) ∧ BK w' b5 107 [.bool ((mulD (intD S.pln) topD).getD Dy.zero).neg, rt, .int .i64 ((mulD (intD S.pln) topD).getD Dy.zero).e] ∧ NU w' rt (wd ((mulD (intD S.pln) topD).getD Dy.zero).m) ∧ BK w' b7 107 [.bool ((mulD S.V S.V).getD Dy.zero).neg, rv, .int .i64 ((mulD S.V S.V).getD Dy.zero).e] ∧ NU w' rv (wd ((mulD S.V S.V).getD Dy.zero).m) ∧ Chg [] w w' ∧ Subs [(0, .pointer (some ⟨b, 0, none⟩)), (4, .pointer (some ⟨b4, 0, none⟩)), (5, .pointer (some ⟨b5, 0, none⟩)), (7, .pointer (some ⟨b7, 0, none⟩))] s') ?_ ?_
 ·refine CW.regionHC 15 rfl hmix fun kR18 kr18 hS hdr => ?_;have hch := hch.ta hdr;have hb := hb.keep0 hdr;have hb4 := hb4.k0 hdr;have hb5 := hb5.k0 hdr;have hNv := hNv.keep0 hdr;have hNq := hNq.keep0 hdr;have hNi := hNi.keep0 hdr;have hRt := hRt.keep0 hdr;have hb_r := hb;refine wh 0 rfl hS (eM rfl) (wh 1 rfl hS (eP rfl) (wh 2 rfl hS (eF rfl) (wh 3 rfl hS (fun _ hw' => Ev.loadB rfl rfl (hb_r.keep0 hw') rfl rfl) ?_)))
  try simp only [List.drop_succ_cons, List.drop_zero, List.take_succ_cons, List.take_zero]
  refine wh 4 rfl hS (eM rfl) (wh 5 rfl hS (eP rfl) (wh 6 rfl hS (eF rfl) (wh 7 rfl hS (fun _ hw' => Ev.loadB rfl rfl (hb_r.keep0 hw') rfl rfl) ?_)))
  try simp only [List.drop_succ_cons, List.drop_zero, List.take_succ_cons, List.take_zero]
  refine WH.all2 8 12 (by kernel_rfl) ?_ ?_
  ·refine WHat.call 8 rfl hasF132 rfl rfl (Mul_dspec _ _ _ _ _ _ _ _ _ hNv hNv (hg0.keep0 hch) (ok_i64 hokV) (ok_i64 hokV)) fun v w5 h' => ?_;obtain ⟨hD, hC⟩ := h';rw [both_ok hokV hokV] at hD;obtain ⟨rv, kv, rfl, hRv⟩ := hD.cells2;have hov := hRv.one;have hch := hch.ta hC;have hb := hb.keep0 hC;have hb4 := hb4.k0 hC;have hb5 := hb5.k0 hC;have hNv := hNv.keep0 hC;have hNq := hNq.keep0 hC;have hNi := hNi.keep0 hC;have hRt := hRt.keep0 hC;have hS := hS.trans hC;refine ⟨hS, ?_⟩;refine wh 9 rfl hS (eM rfl) (wh 10 rfl hS (eX rfl rfl) (wh 11 rfl hS (eX rfl rfl) ?_));refine WH.allocC (l := [.bool false, .slice none 0 0, .int .i64 0]) 12 rfl (by kernel_rfl) hS rfl rfl fun b7 wm7 hb7 hcm7 hge7 hS1 => ?_;have hgeS7 := Nat.le_trans hS.size hge7;have hS := hS1;have hgehch7 := Nat.le_trans hch.size hge7;have hch := hch.ta hcm7;have hNv := hNv.keep0 hcm7;have hNq := hNq.keep0 hcm7;have hNi := hNi.keep0 hcm7;have hRt := hRt.keep0 hcm7;have hRv := hRv.keep0 hcm7;have hneb7 : b ≠ b7 := by have := hb.lt; omega
   have hb := hb.keep0 hcm7;have hneb47 := zdd hb4.lt hge7;have hb4 := hb4.k0 hcm7;have hneb57 := zdd hb5.lt hge7;have hb5 := hb5.k0 hcm7;refine WH.storeBN 13 rfl (by kernel_rfl) hS hgeS7 rfl rfl rfl ao hb7 (by simp) rfl fun ws14 hb7_ hcs14 hS => ?_;(try simp only [Sx.splice, qt] at hb7_);have hch := hch.s1 hcs14;have hb := hb.kq hcs14;have hb4 := hb4.kq hcs14;have hb5 := hb5.kq hcs14;have hNv := hNv.keepBK hb7 hcs14 an;have hNq := hNq.keepBK hb7 hcs14 an;have hNi := hNi.keepBK hb7 hcs14 an;have hRt := hRt.keepBK hb7 hcs14 an;have hRv := hRv.keepBK hb7 hcs14 an;have hb7 := hb7_;refine wh 14 rfl hS (eA rfl) ?_;refine WH.done (by kernel_rfl) (kr18 _ _ _ ?_);exact ⟨rfl, b7, rv, hb, hNv, hNq, hb4, hNi, hb5, hRt, hb7, hRv, hch, by repeat (first | exact Subs.nil | refine Subs.cons rfl ?_)⟩
  refine WHat.allocC (l := [.bool false, .slice none 0 0, .int .i64 0]) 12 rfl hS rfl rfl fun b7 wm7 hb7 hcm7 hge7 hS1 => ?_;have hgeS7 := Nat.le_trans hS.size hge7;have hS := hS1;have hgehch7 := Nat.le_trans hch.size hge7;have hch := hch.ta hcm7;have hNv := hNv.keep0 hcm7;have hNq := hNq.keep0 hcm7;have hNi := hNi.keep0 hcm7;have hRt := hRt.keep0 hcm7;have hneb7 : b ≠ b7 := by have := hb.lt; omega
  have hb := hb.keep0 hcm7;have hneb47 := zdd hb4.lt hge7;have hb4 := hb4.k0 hcm7;have hneb57 := zdd hb5.lt hge7;have hb5 := hb5.k0 hcm7;refine WH.oneCall 8 rfl (by kernel_rfl) hasF132 rfl rfl (Mul_dspec _ _ _ _ _ _ _ _ _ hNv hNv (hg0.keep0 hch) (ok_i64 hokV) (ok_i64 hokV)) fun v w6 h' => ?_;obtain ⟨hD, hC⟩ := h';rw [both_ok hokV hokV] at hD;obtain ⟨rv, kv, rfl, hRv⟩ := hD.cells2;have hov := hRv.one;have hch := hch.ta hC;have hb := hb.keep0 hC;have hb4 := hb4.k0 hC;have hb5 := hb5.k0 hC;have hb7 := hb7.k0 hC;have hNv := hNv.keep0 hC;have hNq := hNq.keep0 hC;have hNi := hNi.keep0 hC;have hRt := hRt.keep0 hC;have hS := hS.trans hC;refine ⟨hS, ?_⟩;refine wh 9 rfl hS (eM rfl) (wh 10 rfl hS (eX rfl rfl) (wh 11 rfl hS (eX rfl rfl) ?_));refine WH.storeBN 13 rfl (by kernel_rfl) hS hgeS7 rfl rfl rfl ao hb7 (by simp) rfl fun ws15 hb7_ hcs15 hS => ?_;(try simp only [Sx.splice, qt] at hb7_);have hch := hch.s1 hcs15;have hb := hb.kq hcs15;have hb4 := hb4.kq hcs15;have hb5 := hb5.kq hcs15;have hNv := hNv.keepBK hb7 hcs15 an;have hNq := hNq.keepBK hb7 hcs15 an;have hNi := hNi.keepBK hb7 hcs15 an;have hRt := hRt.keepBK hb7 hcs15 an;have hRv := hRv.keepBK hb7 hcs15 an;have hb7 := hb7_;refine wh 14 rfl hS (eA rfl) ?_;refine WH.done (by kernel_rfl) (kr18 _ _ _ ?_);exact ⟨rfl, b7, rv, hb, hNv, hNq, hb4, hNi, hb5, hRt, hb7, hRv, hch, by repeat (first | exact Subs.nil | refine Subs.cons rfl ?_)⟩
 rintro _ s' wJ ⟨rfl, b7, rv, hb, hNv, hNq, hb4, hNi, hb5, hRt, hb7, hRv, hch, hsub⟩;refine CW.sub hsub ?_;have hoi := hNi.one;have hot := hRt.one;have hov := hRv.one;refine CW.seqJ (fun D s' w' => D = [] ∧ ∃ (b7 : Nat) (rv : Value) (b9 : Nat) (rb : Value), BK w' b 109 [.int .i64 (S.s.na : Int), .int .i64 (S.s.up : Int), .int .i64 (S.s.dn : Int), .int .i64 (S.s.mi : Int), .int .i64 (S.s.pl : Int), .int .i64 (S.s.al : Int), .bool S.V.neg, .slice av (wd S.V.m).length cv, .int .i64 S.V.e, .bool S.Q.neg, .slice aq (wd S.Q.m).length cq, .int .i64 S.Q.e, .float .f64 S.lo, .float .f64 S.hi] ∧ NU w' (.slice av (wd S.V.m).length cv) (wd S.V.m) ∧ NU w' (.slice aq (wd S.Q.m).length cq) (wd S.Q.m) ∧ BK w' b4 107 [.bool (intD S.pln).neg, ri, .int .i64 (intD S.pln).e] ∧ NU w' ri (wd (intD S.pln).m) ∧ BK w' b5 107 [.bool ((mulD (intD S.pln) topD).getD Dy.zero).neg, rt, .int .i64 ((mulD (intD S.pln) topD).getD Dy.zero).e] ∧ NU w' rt (wd ((mulD (intD S.pln) topD).getD Dy.zero).m) ∧ BK w' b7 107 [.bool ((mulD S.V S.V).getD Dy.zero).neg, rv, .int .i64 ((mulD S.V S.V).getD Dy.zero).e] ∧ NU w' rv (wd ((mulD S.V S.V).getD Dy.zero).m) ∧ BK w' b9 107 [.bool ((mulD (intD S.pln) S.Q).getD Dy.zero).neg, rb, .int .i64 ((mulD (intD S.pln) S.Q).getD Dy.zero).e] ∧ NU w' rb (wd ((mulD (intD S.pln) S.Q).getD Dy.zero).m) ∧ Chg [] w w' ∧ Subs [(0, .pointer (some ⟨b, 0, none⟩)), (4, .pointer (some ⟨b4, 0, none⟩)), (5, .pointer (some ⟨b5, 0, none⟩)), (7, .pointer (some ⟨b7, 0, none⟩)), (9, .pointer (some ⟨b9, 0, none⟩))] s') ?_ ?_
 ·refine CW.regionHC 12 rfl hmix fun kR20 kr20 hS hdr => ?_;have hch := hch.ta hdr;have hb := hb.keep0 hdr;have hb4 := hb4.k0 hdr;have hb5 := hb5.k0 hdr;have hb7 := hb7.k0 hdr;have hNv := hNv.keep0 hdr;have hNq := hNq.keep0 hdr;have hNi := hNi.keep0 hdr;have hRt := hRt.keep0 hdr;have hRv := hRv.keep0 hdr;have hb_r := hb;have hb4_r := hb4;refine wh 0 rfl hS (fun _ hw' => Ev.loadA rfl rfl (hb4_r.keep0 hw') rfl) (wh 1 rfl hS (eM rfl) (wh 2 rfl hS (eP rfl) (wh 3 rfl hS (eF rfl) (wh 4 rfl hS (fun _ hw' => Ev.loadB rfl rfl (hb_r.keep0 hw') rfl rfl) ?_))))
  try simp only [List.drop_succ_cons, List.drop_zero, List.take_succ_cons, List.take_zero]
  refine WH.all2 5 9 (by kernel_rfl) ?_ ?_
  ·refine WHat.call 5 rfl hasF132 rfl rfl (Mul_dspec _ _ _ _ _ _ _ _ _ hNi hNq (hg0.keep0 hch) (ok_i64 hokn) (ok_i64 hokQ)) fun v w7 h' => ?_;obtain ⟨hD, hC⟩ := h';rw [both_ok hokn hokQ] at hD;obtain ⟨rb, kb, rfl, hRb⟩ := hD.cells2;have hob := hRb.one;have hch := hch.ta hC;have hb := hb.keep0 hC;have hb4 := hb4.k0 hC;have hb5 := hb5.k0 hC;have hb7 := hb7.k0 hC;have hNv := hNv.keep0 hC;have hNq := hNq.keep0 hC;have hNi := hNi.keep0 hC;have hRt := hRt.keep0 hC;have hRv := hRv.keep0 hC;have hS := hS.trans hC;refine ⟨hS, ?_⟩;refine wh 6 rfl hS (eM rfl) (wh 7 rfl hS (eX rfl rfl) (wh 8 rfl hS (eX rfl rfl) ?_));refine WH.allocC (l := [.bool false, .slice none 0 0, .int .i64 0]) 9 rfl (by kernel_rfl) hS rfl rfl fun b9 wm9 hb9 hcm9 hge9 hS1 => ?_;have hgeS9 := Nat.le_trans hS.size hge9;have hS := hS1;have hgehch9 := Nat.le_trans hch.size hge9;have hch := hch.ta hcm9;have hNv := hNv.keep0 hcm9;have hNq := hNq.keep0 hcm9;have hNi := hNi.keep0 hcm9;have hRt := hRt.keep0 hcm9;have hRv := hRv.keep0 hcm9;have hRb := hRb.keep0 hcm9;have hneb9 : b ≠ b9 := by have := hb.lt; omega
   have hb := hb.keep0 hcm9;have hneb49 := zdd hb4.lt hge9;have hb4 := hb4.k0 hcm9;have hneb59 := zdd hb5.lt hge9;have hb5 := hb5.k0 hcm9;have hneb79 := zdd hb7.lt hge9;have hb7 := hb7.k0 hcm9;refine WH.storeBN 10 rfl (by kernel_rfl) hS hgeS9 rfl rfl rfl ao hb9 (by simp) rfl fun ws16 hb9_ hcs16 hS => ?_;(try simp only [Sx.splice, qt] at hb9_);have hch := hch.s1 hcs16;have hb := hb.kq hcs16;have hb4 := hb4.kq hcs16;have hb5 := hb5.kq hcs16;have hb7 := hb7.kq hcs16;have hNv := hNv.keepBK hb9 hcs16 an;have hNq := hNq.keepBK hb9 hcs16 an;have hNi := hNi.keepBK hb9 hcs16 an;have hRt := hRt.keepBK hb9 hcs16 an;have hRv := hRv.keepBK hb9 hcs16 an;have hRb := hRb.keepBK hb9 hcs16 an;have hb9 := hb9_;refine wh 11 rfl hS (eA rfl) ?_;refine WH.done (by kernel_rfl) (kr20 _ _ _ ?_);exact ⟨rfl, b7, rv, b9, rb, hb, hNv, hNq, hb4, hNi, hb5, hRt, hb7, hRv, hb9, hRb, hch, by repeat (first | exact Subs.nil | refine Subs.cons rfl ?_)⟩
  refine WHat.allocC (l := [.bool false, .slice none 0 0, .int .i64 0]) 9 rfl hS rfl rfl fun b9 wm9 hb9 hcm9 hge9 hS1 => ?_;have hgeS9 := Nat.le_trans hS.size hge9;have hS := hS1;have hgehch9 := Nat.le_trans hch.size hge9;have hch := hch.ta hcm9;have hNv := hNv.keep0 hcm9;have hNq := hNq.keep0 hcm9;have hNi := hNi.keep0 hcm9;have hRt := hRt.keep0 hcm9;have hRv := hRv.keep0 hcm9;have hneb9 : b ≠ b9 := by have := hb.lt; omega
  have hb := hb.keep0 hcm9;have hneb49 := zdd hb4.lt hge9;have hb4 := hb4.k0 hcm9;have hneb59 := zdd hb5.lt hge9;have hb5 := hb5.k0 hcm9;have hneb79 := zdd hb7.lt hge9;have hb7 := hb7.k0 hcm9;refine WH.oneCall 5 rfl (by kernel_rfl) hasF132 rfl rfl (Mul_dspec _ _ _ _ _ _ _ _ _ hNi hNq (hg0.keep0 hch) (ok_i64 hokn) (ok_i64 hokQ)) fun v w8 h' => ?_;obtain ⟨hD, hC⟩ := h';rw [both_ok hokn hokQ] at hD;obtain ⟨rb, kb, rfl, hRb⟩ := hD.cells2;have hob := hRb.one;have hch := hch.ta hC;have hb := hb.keep0 hC;have hb4 := hb4.k0 hC;have hb5 := hb5.k0 hC;have hb7 := hb7.k0 hC;have hb9 := hb9.k0 hC;have hNv := hNv.keep0 hC;have hNq := hNq.keep0 hC;have hNi := hNi.keep0 hC;have hRt := hRt.keep0 hC;have hRv := hRv.keep0 hC;have hS := hS.trans hC;refine ⟨hS, ?_⟩;refine wh 6 rfl hS (eM rfl) (wh 7 rfl hS (eX rfl rfl) (wh 8 rfl hS (eX rfl rfl) ?_));refine WH.storeBN 10 rfl (by kernel_rfl) hS hgeS9 rfl rfl rfl ao hb9 (by simp) rfl fun ws17 hb9_ hcs17 hS => ?_;(try simp only [Sx.splice, qt] at hb9_);have hch := hch.s1 hcs17;have hb := hb.kq hcs17;have hb4 := hb4.kq hcs17;have hb5 := hb5.kq hcs17;have hb7 := hb7.kq hcs17;have hNv := hNv.keepBK hb9 hcs17 an;have hNq := hNq.keepBK hb9 hcs17 an;have hNi := hNi.keepBK hb9 hcs17 an;have hRt := hRt.keepBK hb9 hcs17 an;have hRv := hRv.keepBK hb9 hcs17 an;have hRb := hRb.keepBK hb9 hcs17 an;have hb9 := hb9_;refine wh 11 rfl hS (eA rfl) ?_;refine WH.done (by kernel_rfl) (kr20 _ _ _ ?_);exact ⟨rfl, b7, rv, b9, rb, hb, hNv, hNq, hb4, hNi, hb5, hRt, hb7, hRv, hb9, hRb, hch, by repeat (first | exact Subs.nil | refine Subs.cons rfl ?_)⟩
 rintro _ s' wJ ⟨rfl, b7, rv, b9, rb, hb, hNv, hNq, hb4, hNi, hb5, hRt, hb7, hRv, hb9, hRb, hch, hsub⟩;refine CW.sub hsub ?_;have hoi := hNi.one;have hot := hRt.one;have hov := hRv.one;have hob := hRb.one;refine zc fun _ kh21 => ?_;refine CW.regionHC 14 rfl hmix fun kR22 kr22 hS hdr => ?_;have hch := hch.ta hdr;have hb := hb.keep0 hdr;have hb5 := hb5.k0 hdr;have hb7 := hb7.k0 hdr;have hb9 := hb9.k0 hdr;have hNq := hNq.keep0 hdr;have hRt := hRt.keep0 hdr;have hRv := hRv.keep0 hdr;have hRb := hRb.keep0 hdr;have hb_r := hb;have hb5_r := hb5;have hb7_r := hb7;have hb9_r := hb9;refine wh 0 rfl hS (eM rfl) (wh 1 rfl hS (eP rfl) (wh 2 rfl hS (eF rfl) (wh 3 rfl hS (fun _ hw' => Ev.loadB rfl rfl (hb_r.keep0 hw') rfl rfl) ?_)))
 try simp only [List.drop_succ_cons, List.drop_zero, List.take_succ_cons, List.take_zero]
 refine wh 4 rfl hS (fun _ hw' => Ev.loadA rfl rfl (hb5_r.keep0 hw') rfl) ?_;refine WH.oneCall 5 rfl (by kernel_rfl) hasF180 rfl rfl (dCmp_spec _ _ _ _ _ _ _ _ _ hNq hRt (le_mil hokQ) (le_mil (getD_ok fun d h => mulD_ok h)) (e_mil hokQ) (e_mil (getD_ok fun d h => mulD_ok h))) fun v w9 h' => ?_;obtain ⟨rfl, hC⟩ := h';rw [val_wd, val_wd];have hch := hch.ta hC;have hRv := hRv.keep0 hC;have hRb := hRb.keep0 hC;have hS := hS.trans hC;refine ⟨hS, ?_⟩
 by_cases hq97 : cmpY S.Q ((mulD (intD S.pln) topD).getD Dy.zero) < 0
 ·refine wh 6 rfl hS (fun _ _ => Ev.lss rfl rfl) ?_;rw [show decide (cmpD _ _ _ _ _ _ < 0) = true from decide_eq_true hq97];refine wh 7 rfl hS (eM rfl) (wg 8 rfl rfl rfl rfl rfl hS (fun _ hw' => Ev.loadA rfl rfl (hb7_r.keep0 hw') rfl) (wg 9 rfl rfl rfl rfl rfl hS (fun _ hw' => Ev.loadA rfl rfl (hb9_r.keep0 hw') rfl) ?_));refine WH.oneCallG 10 rfl (by kernel_rfl) rfl rfl rfl rfl hasF180 rfl rfl (dCmp_spec _ _ _ _ _ _ _ _ _ hRv hRb (le_mil (getD_ok fun d h => mulD_ok h)) (le_mil (getD_ok fun d h => mulD_ok h)) (e_mil (getD_ok fun d h => mulD_ok h)) (e_mil (getD_ok fun d h => mulD_ok h))) fun v w10 h' => ?_;obtain ⟨rfl, hC⟩ := h';rw [val_wd, val_wd];have hch := hch.ta hC;have hS := hS.trans hC;refine ⟨hS, ?_⟩;refine wg 11 rfl rfl rfl rfl rfl hS (fun _ _ => Ev.leq rfl rfl) (wh 12 rfl hS (fun _ _ => Ev.pickT rfl rfl rfl) (wh 13 rfl hS (eA rfl) ?_));refine WH.done (by kernel_rfl) (kr22 _ _ _ ?_);refine kh21 ?_;refine zr (zr1 rfl rfl ?_);refine ⟨congrArg Value.bool (decide_eq_decide.2 ?_), hch⟩;unfold sumsP;rw [if_neg h0];exact ⟨fun z => ⟨h1, hq97, z⟩, fun z => z.2.2⟩
 refine wh 6 rfl hS (fun _ _ => Ev.lss rfl rfl) ?_;rw [show decide (cmpD _ _ _ _ _ _ < 0) = false from decide_eq_false hq97];refine wh 7 rfl hS (eM rfl) (wp 8 rfl rfl rfl rfl rfl hS (wp 9 rfl rfl rfl rfl rfl hS ?_));refine WH.passG1 10 rfl (by kernel_rfl) rfl rfl rfl rfl hS rfl ?_;refine wp 11 rfl rfl rfl rfl rfl hS (wh 12 rfl hS (fun _ _ => Ev.pickF rfl rfl rfl) (wh 13 rfl hS (eA rfl) ?_));refine WH.done (by kernel_rfl) (kr22 _ _ _ ?_);refine kh21 ?_;refine zr (zr1 rfl rfl ?_);refine ⟨congrArg Value.bool (decide_eq_false fun z => ?_).symm, hch⟩;unfold sumsP at z;rw [if_neg h0] at z;exact hq97 z.2.1

end

/- A shard that is read: what it is. No condition. -/
section
open Go Sx Wd Fl

def rdK (bs : List Nat) : Nat → List Nat × Nat × Bool
  | 0 => ([], 0, false)
  | n + 1 => ((rdK bs n).1 ++ [(rdC bs (rdK bs n).2.1 (rdK bs n).2.2).1], (rdC bs (rdK bs n).2.1 (rdK bs n).2.2).2)
theorem rdK_len (bs : List Nat) (n : Nat) : (rdK bs n).1.length = n := by
  induction n with
  | zero => rfl
  | succ n ih => rw [rdK]; simp [ih]
theorem rdC_le (bs : List Nat) (p : Nat) (bad : Bool) : (rdC bs p bad).1 ≤ 1099511627776 := by
  unfold rdC; split
  · exact Nat.zero_le _
  · omega
theorem rdK_le (bs : List Nat) (n : Nat) : ∀ x ∈ (rdK bs n).1, x ≤ 1099511627776 := by
  induction n with
  | zero => intro x hx; cases hx
  | succ n ih =>
    rw [rdK]
    intro x hx
    rcases List.mem_append.1 hx with hx | hx
    · exact ih x hx
    · rw [List.mem_singleton.1 hx]; exact rdC_le ..
def rdE (sm : Bool) (bs : List Nat) (p : Nat) (bad : Bool) : Nat × Nat × Nat × Bool := if sm = true then ((rdN bs p bad 8).1, (rdN bs (rdN bs p bad 8).2.1 (rdN bs p bad 8).2.2 8).1, (rdN bs (rdN bs p bad 8).2.1 (rdN bs p bad 8).2.2 8).2) else (0, 0, p, bad)
def spOf (l : List Nat) : SP := ⟨l.getD 0 0, l.getD 1 0, l.getD 2 0, l.getD 3 0, l.getD 4 0, l.getD 5 0⟩
def shOf (s : SP) (v q : Bool × List Nat × Int × Nat × Bool) (lo hi : Nat) : Sh := ⟨s, ⟨v.1, val v.2.1, v.2.2.1⟩, ⟨q.1, val q.2.1, q.2.2.1⟩, lo, hi⟩
def decE (bs : List Nat) (s : SP) (v q : Bool × List Nat × Int × Nat × Bool) (e : Nat × Nat × Nat × Bool) : Option Sh :=
  if e.2.2.2 = true ∨ 0 < bs.length - e.2.2.1 ∨ ¬ sumsP (shOf s v q e.1 e.2.1) ∨ ((shOf s v q e.1 e.2.1).some ∧ ¬ endsP (shOf s v q e.1 e.2.1)) then none else some (shOf s v q e.1 e.2.1)
def decV (bs : List Nat) (s : SP) (v q : Bool × List Nat × Int × Nat × Bool) : Option Sh := decE bs s v q (rdE (decide (s.na < s.al)) bs q.2.2.2.1 q.2.2.2.2)
def decD (bs : List Nat) (s : SP) (v : Bool × List Nat × Int × Nat × Bool) : Option Sh := decV bs s v (rdD bs v.2.2.2.1 v.2.2.2.2)
def decS (bs : List Nat) : Option Sh :=
  if (rdK bs 6).2.2 = true ∨ (Sh.mk (spOf (rdK bs 6).1) Dy.zero Dy.zero 0 0).fin < ((spOf (rdK bs 6).1).mi : Int) + (spOf (rdK bs 6).1).pl then none else decD bs (spOf (rdK bs 6).1) (rdD bs (rdK bs 6).2.1 (rdK bs 6).2.2)
theorem rdN_bad (bs : List Nat) (p k : Nat) : rdN bs p true k = (0, p, true) := if_pos (.inl rfl)
theorem rdD_bad (bs : List Nat) (p : Nat) : (rdD bs p true).2.2.2.2 = true := by
  unfold rdD; simp [rdN_bad, rdW]
theorem rdD_mono {bs : List Nat} {p : Nat} {bad : Bool} {x : Bool × List Nat × Int × Nat × Bool} (h : rdD bs p bad = x) (hx : x.2.2.2.2 = false) : bad = false := by
  cases bad with
  | false => rfl
  | true => have := rdD_bad bs p; rw [h, hx] at this; cases this
theorem rdE_mono {sm : Bool} {bs : List Nat} {p : Nat} {bad : Bool} {x : Nat × Nat × Nat × Bool} (h : rdE sm bs p bad = x) (hx : x.2.2.2 = false) : bad = false := by
  cases bad with
  | false => rfl
  | true =>
    subst h
    unfold rdE at hx
    split at hx
    · simp [rdN_bad] at hx
    · cases hx
theorem val_mod (x : Nat) (l : List Nat) : val (x :: l) % 2 = x % 2 := by rw [val]; omega
theorem rdD_ok {bs : List Nat} (hB : B8 bs) {p : Nat} {bad : Bool} (h : (rdD bs p bad).2.2.2.2 = false) : wd (val (rdD bs p bad).2.1) = (rdD bs p bad).2.1 ∧ (Dy.mk (rdD bs p bad).1 (val (rdD bs p bad).2.1) (rdD bs p bad).2.2.1).ok := by
  have g1 := rdN_ltk hB p bad 1
  unfold rdD at h ⊢
  generalize rdN bs p bad 1 = R1 at *
  obtain ⟨n1, p1, d1⟩ := R1
  dsimp only at *
  have g2 := rdN_ltk hB p1 d1 2
  generalize rdN bs p1 d1 2 = R2 at *
  obtain ⟨n2, p2, d2⟩ := R2
  dsimp only at *
  generalize rdN bs p2 d2 2 = R3 at *
  obtain ⟨n3, p3, d3⟩ := R3
  dsimp only at *
  by_cases hq : 1 < n1 ∨ 160 < n3
  · rw [if_pos hq] at h; cases h
  · rw [if_neg hq] at h ⊢
    have hl := rdW_len bs p3 d3 n3
    have hW := rdW_W hB p3 d3 n3
    generalize rdW bs p3 d3 n3 = RW at *
    obtain ⟨ws, q, bd⟩ := RW
    dsimp only at *
    by_cases h0 : n3 = 0
    · rw [if_pos h0] at h
      have h9 := of_decide_eq_false h
      have hws : ws = [] := List.length_eq_zero_iff.1 (by omega)
      subst hws
      have e1 : decide ((n1 : Int) = 1) = false := decide_eq_false fun z => h9 (.inr (.inl z))
      have e2 : (n2 : Int) - 4096 = 0 := Classical.byContradiction fun z => h9 (.inr (.inr z))
      rw [e1, e2]
      exact ⟨wd_zero, ok_zero⟩
    · rw [if_neg h0] at h
      have h := of_decide_eq_false h
      have hlast : ws.getD (ws.length - 1) 0 ≠ 0 := by rw [hl]; exact fun z => h (.inr (.inr z))
      have hwd := wd_of_last hW (.inr hlast)
      have hodd : val ws % 2 = 1 := by
        cases ws with
        | nil => simp at hl; omega
        | cons x l => rw [val_mod]; have : ¬ x % 2 = 0 := fun z => h (.inr (.inl (by simpa using z))); omega
      refine ⟨hwd, fun z => ?_, fun _ => hodd, ?_, ?_⟩
      · simp only at z; rw [z] at hodd; cases hodd
      · simp only [hwd]; omega
      · simp only; have : (256 : Nat) ^ 2 = 65536 := by decide
        omega
def cells14 (l : List Nat) : List Value := [.int .i64 (l.getD 0 0 : Nat), .int .i64 (l.getD 1 0 : Nat), .int .i64 (l.getD 2 0 : Nat), .int .i64 (l.getD 3 0 : Nat), .int .i64 (l.getD 4 0 : Nat), .int .i64 (l.getD 5 0 : Nat), .bool false, .slice none 0 0, .int .i64 0, .bool false, .slice none 0 0, .int .i64 0, .float .f64 0, .float .f64 0]
theorem cells14_set {l : List Nat} {i x : Nat} (hl : l.length = i) (hi : i < 6) : (cells14 l).set i (.int .i64 (x : Int)) = cells14 (l ++ [x]) := by
  subst hl
  rcases l with _ | ⟨a, _ | ⟨b, _ | ⟨c, _ | ⟨d, _ | ⟨e, _ | ⟨f, l⟩⟩⟩⟩⟩⟩
  · rfl
  · rfl
  · rfl
  · rfl
  · rfl
  · rfl
  · simp at hi; omega
theorem ptr6 {b i : Nat} (hi : i < 6) : [Value.pointer (some ⟨b, 0, none⟩), .pointer (some ⟨b, 1, none⟩), .pointer (some ⟨b, 2, none⟩), .pointer (some ⟨b, 3, none⟩), .pointer (some ⟨b, 4, none⟩), .pointer (some ⟨b, 5, none⟩)][i]? = some (.pointer (some ⟨b, i, none⟩)) := by
  match i, hi with
  | 0, _ => rfl
  | 1, _ => rfl
  | 2, _ => rfl
  | 3, _ => rfl
  | 4, _ => rfl
  | 5, _ => rfl
theorem list6 {l : List Nat} (h : l.length = 6) : ∃ a b c d e f, l = [a, b, c, d, e, f] := by
  rcases l with _ | ⟨a, _ | ⟨b, _ | ⟨c, _ | ⟨d, _ | ⟨e, _ | ⟨f, _ | ⟨g, l⟩⟩⟩⟩⟩⟩⟩
  · cases h
  · cases h
  · cases h
  · cases h
  · cases h
  · cases h
  · exact ⟨a, b, c, d, e, f, rfl⟩
  · simp at h
theorem NU.keepTp {w w' : World} {v : Value} {l : List Nat} {lo bt p : Nat} {bs : List Nat} {bad : Bool} (h : NU w v l) (hT : TpM lo w bt bs p bad) (hc : Chg [bt] w w') : NU w' v l := by
  obtain ⟨a, c, hb, _⟩ := hT
  exact h.keepBK hb hc (by intro v hv; simp only [List.mem_cons, List.not_mem_nil, or_false] at hv; rcases hv with rfl | rfl <;> rfl)
structure KDc (b10 b12 b37 : Nat) (bs : List Nat) (w0 : World) (i : Nat) (w : World) : Prop where
  hi : i ≤ 6
  t : TpM (b10 + 1) w b10 bs (rdK bs i).2.1 (rdK bs i).2.2
  h12 : BK w b12 109 (cells14 (rdK bs i).1)
  h37 : BK w b37 146 [.pointer (some ⟨b12, 0, none⟩), .pointer (some ⟨b12, 1, none⟩), .pointer (some ⟨b12, 2, none⟩), .pointer (some ⟨b12, 3, none⟩), .pointer (some ⟨b12, 4, none⟩), .pointer (some ⟨b12, 5, none⟩)]
  ch : Chg [] w0 w

theorem someB_spec (b : Nat) (s : SP) (v6 v7 v8 v9 v10 v11 v12 v13 : Value) (w : World) (hb : BK w b 109 [.int .i64 (s.na : Int), .int .i64 (s.up : Int), .int .i64 (s.dn : Int), .int .i64 (s.mi : Int), .int .i64 (s.pl : Int), .int .i64 (s.al : Int), v6, v7, v8, v9, v10, v11, v12, v13]) (hle : s.le 1099511627776) : Ret Tryz.prog 64 [.pointer (some ⟨b, 0, none⟩)] w fun u w' => u = .bool (decide (s.na < s.al)) ∧ Chg [] w w' := by
 obtain ⟨hs1, hs2, hs3, hs4, hs5, hs6⟩ := hle;have hch := crf w;refine zE1 Tryz.func64 rfl ?_;refine Sr fun _ kh1 => za rfl (zz (kh1 (zc fun _ kh3 => ?_)));refine CW.regionSC hmix (by kernel_rfl) fun kR4 kr4 hdr => ?_;have hch := hch.ta hdr;have hb := hb.keep0 hdr;refine ym rfl (yP rfl (yf rfl (yf rfl ?_)));refine WS.ev (Ev.load rfl rfl (hb.at_ rfl)) rfl ?_;refine ym rfl (yP rfl (yf rfl (yf rfl ?_)));refine WS.ev (Ev.load rfl rfl (hb.at_ rfl)) rfl ?_;refine WS.ev (Ev.gtr rfl rfl) rfl ?_;refine ya rfl ?_;refine WS.nil (kr4 _ _ ?_);refine kh3 ?_;refine zr (zr1 rfl rfl ?_);refine ⟨congrArg Value.bool (decide_eq_decide.2 ?_), hch⟩;omega

end

/- A shard's bytes, read again, are the shard. No condition. -/
section
open Go Sx Wd Fl

theorem leV_leB (n k : Nat) : leV (leB n k) = n % 256 ^ k := by
  induction k with
  | zero => rw [leB_zero, Nat.pow_zero, Nat.mod_one]; rfl
  | succ k ih =>
    rw [leB_succ, leV_snoc, leB_len, ih, Nat.pow_succ, Nat.mod_mul, Nat.mul_comm]
theorem leB_B8 (n k : Nat) : B8 (leB n k) := fun x hx => by
  unfold leB at hx
  obtain ⟨i, _, rfl⟩ := List.mem_map.1 hx
  exact Nat.mod_lt _ (by decide)
theorem B8.append {a b : List Nat} (ha : B8 a) (hb : B8 b) : B8 (a ++ b) := fun x hx => by
  rcases List.mem_append.1 hx with h | h
  · exact ha x h
  · exact hb x h
theorem B8.flat {α : Type} {l : List α} {f : α → List Nat} (h : ∀ x, B8 (f x)) : B8 (l.map f).flatten := fun x hx => by
  obtain ⟨m, hm, hx⟩ := List.mem_flatten.1 hx
  obtain ⟨a, _, rfl⟩ := List.mem_map.1 hm
  exact h a x hx
def AtB (bs : List Nat) (p : Nat) (r : List Nat) : Prop := p ≤ bs.length ∧ bs.drop p = r
theorem AtB.step {bs : List Nat} {p : Nat} {a r : List Nat} (h : AtB bs p (a ++ r)) {k : Nat} (hk : a.length = k) : AtB bs (p + k) r := by
  obtain ⟨h1, h2⟩ := h
  have hl : bs.length - p = a.length + r.length := by rw [← List.length_drop, h2, List.length_append]
  refine ⟨by omega, ?_⟩
  rw [← List.drop_drop, h2, ← hk, List.drop_left]
theorem rdN_s {bs : List Nat} {p n k : Nat} {r : List Nat} (h : AtB bs p (leB n k ++ r)) (hn : n < 256 ^ k) : rdN bs p false k = (n, p + k, false) ∧ AtB bs (p + k) r := by
  refine ⟨?_, h.step (leB_len n k)⟩
  obtain ⟨h1, h2⟩ := h
  have hl : bs.length - p = k + r.length := by rw [← List.length_drop, h2, List.length_append, leB_len]
  unfold rdN
  rw [if_neg (by simp; omega), h2, List.take_left' (leB_len n k), leV_leB, Nat.mod_eq_of_lt hn]
theorem rdC_s {bs : List Nat} {p n : Nat} {r : List Nat} (h : AtB bs p (leB n 8 ++ r)) (hn : n ≤ 1099511627776) : rdC bs p false = (n, p + 8, false) ∧ AtB bs (p + 8) r := by
  obtain ⟨h1, h2⟩ := rdN_s h (Nat.lt_of_le_of_lt hn (by decide))
  refine ⟨?_, h2⟩
  unfold rdC
  rw [h1, if_neg (by simp only; omega)]
theorem rdW_s {bs : List Nat} {p : Nat} {ws r : List Nat} (h : AtB bs p ((ws.map fun x => leB x 4).flatten ++ r)) (hW : W ws) : ∀ n, n ≤ ws.length → rdW bs p false n = (ws.take n, p + 4 * n, false) ∧ AtB bs (p + 4 * n) (((ws.drop n).map fun x => leB x 4).flatten ++ r) := by
  intro n
  induction n with
  | zero => intro _; exact ⟨by simp [rdW], by simpa using h⟩
  | succ n ih =>
    intro hn
    obtain ⟨h1, h2⟩ := ih (by omega)
    have hd : ws.drop n = ws.getD n 0 :: ws.drop (n + 1) := by
      rw [List.drop_eq_getElem_cons (by omega : n < ws.length), List.getD_eq_getElem?_getD, List.getElem?_eq_getElem (by omega)]; rfl
    rw [hd, List.map_cons, List.flatten_cons, List.append_assoc] at h2
    obtain ⟨h3, h4⟩ := rdN_s h2 (Nat.lt_of_lt_of_le (hW.getD n) (by decide))
    rw [show p + 4 * (n + 1) = p + 4 * n + 4 by omega]
    refine ⟨?_, h4⟩
    rw [rdW, h1]
    simp only [h3]
    rw [take_step (by omega)]
theorem wd_head {n : Nat} (h : n ≠ 0) : (wd n).getD 0 0 % 2 = n % 2 := by rw [wd_pos h]; simp
theorem wd_last {n : Nat} (h : n ≠ 0) : (wd n).getD ((wd n).length - 1) 0 ≠ 0 := by
  induction n using Nat.strongRecOn with
  | _ n ih =>
    rw [wd_pos h]
    by_cases h2 : n / 4294967296 = 0
    · rw [h2, wd_zero]; simp; omega
    · have h3 := ih _ (by omega) h2
      have h4 : 0 < (wd (n / 4294967296)).length := by rw [wd_pos h2]; simp
      rw [List.length_cons, show (wd (n / 4294967296)).length + 1 - 1 = ((wd (n / 4294967296)).length - 1) + 1 by omega]
      simpa using h3
theorem rdD_s {bs : List Nat} {p : Nat} {d : Dy} {r : List Nat} (h : AtB bs p (encD d ++ r)) (hok : d.ok) (he : -4096 ≤ d.e ∧ d.e ≤ 61439) (hl : (wd d.m).length ≤ 160) : rdD bs p false = (d.neg, wd d.m, d.e, p + (encD d).length, false) ∧ AtB bs (p + (encD d).length) r := by
  refine ⟨?_, h.step rfl⟩
  unfold encD at h
  simp only [List.append_assoc] at h
  obtain ⟨a1, h⟩ := rdN_s h (by split <;> decide)
  obtain ⟨a2, h⟩ := rdN_s h (by show (d.e + 4096).toNat < 65536; omega)
  obtain ⟨a3, h⟩ := rdN_s h (by show (wd d.m).length < 65536; omega)
  obtain ⟨a4, h⟩ := rdW_s h (W_wd _) _ (Nat.le_refl _)
  rw [List.take_length] at a4
  unfold rdD
  rw [a1]; dsimp only
  rw [a2]; dsimp only
  rw [a3]; dsimp only
  rw [if_neg (by split <;> omega), a4]; dsimp only
  have e1 : decide (((if d.neg = true then 1 else 0 : Nat) : Int) = 1) = d.neg := by cases d.neg <;> rfl
  have e2 : (((d.e + 4096).toNat : Nat) : Int) - 4096 = d.e := by omega
  rw [e1, e2, encD_len, show p + 1 + 2 + 2 + 4 * (wd d.m).length = p + (5 + 4 * (wd d.m).length) by omega]
  by_cases h0 : d.m = 0
  · have hz := hok.z h0
    rw [if_pos (by rw [wd_zero_iff]; exact h0)]
    have : d.neg = false ∧ d.e = 0 := by rw [hz]; exact ⟨rfl, rfl⟩
    rw [this.1, this.2]; simp
  · rw [if_neg (fun q => h0 (wd_zero_iff.1 q))]
    have h1 := hok.odd h0
    have h2 := wd_head h0
    have h3 := wd_last h0
    rw [decide_eq_false (by rintro (q | q | q); cases q; omega; exact h3 q)]
theorem rdK_s {bs : List Nat} {a b c d e f : Nat} {r : List Nat} (h : AtB bs 0 (leB a 8 ++ (leB b 8 ++ (leB c 8 ++ (leB d 8 ++ (leB e 8 ++ (leB f 8 ++ r)))))))
    (ha : a ≤ 1099511627776) (hb : b ≤ 1099511627776) (hc : c ≤ 1099511627776) (hd : d ≤ 1099511627776) (he : e ≤ 1099511627776) (hf : f ≤ 1099511627776) : rdK bs 6 = ([a, b, c, d, e, f], 48, false) ∧ AtB bs 48 r := by
  obtain ⟨a1, h⟩ := rdC_s h ha
  obtain ⟨a2, h⟩ := rdC_s h hb
  obtain ⟨a3, h⟩ := rdC_s h hc
  obtain ⟨a4, h⟩ := rdC_s h hd
  obtain ⟨a5, h⟩ := rdC_s h he
  obtain ⟨a6, h⟩ := rdC_s h hf
  simp only [Nat.zero_add, Nat.reduceAdd] at a1 a2 a3 a4 a5 a6 h
  refine ⟨?_, h⟩
  simp only [rdK, a1, a2, a3, a4, a5, a6]
  rfl
structure Sh.back (S : Sh) : Prop where
  wf : S.wf
  ex : S.ex
  no : ¬ S.some → S.lo = 0 ∧ S.hi = 0
  fin : (S.s.mi : Int) + S.s.pl ≤ S.fin
  sums : sumsP S
  ends : S.some → endsP S
theorem decS_encS {S : Sh} (h : S.back) : decS (encS S) = some S := by
  obtain ⟨⟨⟨s1, s2, s3, s4, s5, s6⟩, hV, hQ, hlo, hhi⟩, hex, hno, hfin, hsums, hends⟩ := h
  have h0 : AtB (encS S) 0 (encS S) := ⟨Nat.zero_le _, rfl⟩
  have h1 : AtB (encS S) 0 (leB S.s.na 8 ++ (leB S.s.up 8 ++ (leB S.s.dn 8 ++ (leB S.s.mi 8 ++ (leB S.s.pl 8 ++ (leB S.s.al 8 ++ (encD S.V ++ (encD S.Q ++ ((if S.some then leB S.lo 8 ++ leB S.hi 8 else []) ++ []))))))))) := by
    refine ⟨Nat.zero_le _, ?_⟩
    unfold encS
    simp only [List.append_assoc, List.drop_zero, List.append_nil]
  obtain ⟨k1, h2⟩ := rdK_s h1 s1 s2 s3 s4 s5 s6
  obtain ⟨d1, h3⟩ := rdD_s h2 hV hex.v hex.lv
  obtain ⟨d2, h4⟩ := rdD_s h3 hQ hex.q hex.lq
  have hsp : spOf [S.s.na, S.s.up, S.s.dn, S.s.mi, S.s.pl, S.s.al] = S.s := rfl
  unfold decS
  rw [k1]
  simp only [hsp]
  rw [if_neg (by rintro (q | q); cases q; exact absurd q (by have : (Sh.mk S.s Dy.zero Dy.zero 0 0).fin = S.fin := rfl; rw [this]; omega)), d1]
  unfold decD
  simp only [d2]
  unfold decV
  simp only
  have hsh : shOf S.s (S.V.neg, wd S.V.m, S.V.e, 48 + (encD S.V).length, false) (S.Q.neg, wd S.Q.m, S.Q.e, 48 + (encD S.V).length + (encD S.Q).length, false) S.lo S.hi = S := by
    unfold shOf
    simp only [val_wd]
  by_cases hs : S.some
  · rw [if_pos hs, List.append_assoc] at h4
    obtain ⟨e1, h5⟩ := rdN_s h4 hlo
    obtain ⟨e2, h6⟩ := rdN_s h5 hhi
    have hE : rdE (decide (S.s.na < S.s.al)) (encS S) (48 + (encD S.V).length + (encD S.Q).length) false = (S.lo, S.hi, 48 + (encD S.V).length + (encD S.Q).length + 8 + 8, false) := by
      unfold rdE
      rw [if_pos (show decide (S.s.na < S.s.al) = true from decide_eq_true hs), e1]; dsimp only
      rw [e2]
    rw [hE]
    unfold decE
    simp only [hsh]
    have hlen : (encS S).length - (48 + (encD S.V).length + (encD S.Q).length + 8 + 8) = 0 := by rw [← List.length_drop, h6.2]; rfl
    rw [if_neg]
    rintro (q | q | q | q)
    · cases q
    · rw [hlen] at q; omega
    · exact q hsums
    · exact q.2 (hends hs)
  · rw [if_neg hs] at h4
    have hE : rdE (decide (S.s.na < S.s.al)) (encS S) (48 + (encD S.V).length + (encD S.Q).length) false = (S.lo, S.hi, 48 + (encD S.V).length + (encD S.Q).length, false) := by
      unfold rdE
      rw [if_neg (by simpa [Sh.some] using hs), (hno hs).1, (hno hs).2]
    rw [hE]
    unfold decE
    simp only [hsh]
    have hlen : (encS S).length - (48 + (encD S.V).length + (encD S.Q).length) = 0 := by rw [← List.length_drop, h4.2]; rfl
    rw [if_neg]
    rintro (q | q | q | q)
    · cases q
    · rw [hlen] at q; omega
    · exact q hsums
    · exact hs q.1
theorem encS_B8 (S : Sh) : B8 (encS S) := by
  unfold encS encD
  refine ((((((((leB_B8 _ _).append (leB_B8 _ _)).append (leB_B8 _ _)).append (leB_B8 _ _)).append (leB_B8 _ _)).append (leB_B8 _ _)).append ?_).append ?_).append ?_
  · exact (((leB_B8 _ _).append (leB_B8 _ _)).append (leB_B8 _ _)).append (B8.flat fun x => leB_B8 x 4)
  · exact (((leB_B8 _ _).append (leB_B8 _ _)).append (leB_B8 _ _)).append (B8.flat fun x => leB_B8 x 4)
  · split
    · exact (leB_B8 _ _).append (leB_B8 _ _)
    · intro x hx; cases hx
end

/- Store: sizes, sums, records as bytes. No condition. -/
section
open Go Sx Wd Fl

def fnv (l : List Nat) : Nat := l.foldl (fun h c => (h ^^^ c) * 16777619 % 4294967296) 2166136261
def recB (nm data : List Nat) : List Nat := ([nm.length % 256] ++ nm) ++ leB data.length 3 ++ data
def laidB (nm data : List Nat) : List Nat := recB nm data ++ leB (fnv (recB nm data)) 4
end

/- Store: a record as bytes. No condition. -/
section
open Go Sx Wd Fl

end

/- Logs in memory. No condition. -/
section
open Go Sx Wd Fl

abbrev RG := ByteArray × List Nat × Value
def recC (G : List RG) : List Value := (G.map fun g => [Value.string g.1, g.2.2]).flatten
def szG (g : RG) : Nat := 8 + (sB g.1).length + g.2.1.length
def totG (G : List RG) : Nat := (G.map szG).sum
def bytG (G : List RG) : List Nat := (G.map fun g => laidB (sB g.1) g.2.1).flatten
structure LgM (lo : Nat) (w : World) (b : Nat) (G : List RG) : Prop where
  ex : ∃ v, BK w b 194 [v, .int .i64 ((totG G : Nat) : Int)] ∧ GRc w 121 2 lo [] v G.length (recC G)
  dat : ∀ g ∈ G, GR w 5 u8v 0 [] g.2.2 g.2.1 ∧ B8 g.2.1
  tot : totG G ≤ 1048576
namespace Sx
section
variable {P : Program} {n : Nat} {D : List Deferred} {s : Sl} {w : World} {ops : Array Oper} {K : KK} {rest : List Oper} {ty : TypeId} {pos : String} {af : Array Edge} {d : Nat} {x y : Operand} {S : World → Prop} {z fuel : Nat} {listed : Array Bool}
end
end Sx

end

/- Store: New, add. No condition. -/
section
open Go Sx Wd Fl

def DatM (w : World) (G : List RG) : Prop := ∀ g ∈ G, GR w 5 u8v 0 [] g.2.2 g.2.1 ∧ B8 g.2.1
end

/- Store: Append, Bytes. No condition. -/
section
open Go Sx Wd Fl

theorem encS_len {S : Sh} (h : S.ex) : (encS S).length ≤ 1354 := by
  have h1 := h.lv
  have h2 := h.lq
  unfold encS
  simp only [List.length_append, leB_len, encD_len]
  split
  · rw [List.length_append, leB_len, leB_len]; omega
  · rw [List.length_nil]; omega
end

end Go.Proofs.YtnbipejaidbihaaGreatDoor