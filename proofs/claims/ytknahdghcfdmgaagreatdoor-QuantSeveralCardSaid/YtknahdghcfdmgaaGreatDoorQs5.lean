/- Part 5 of what the proof rests on. No condition. -/
import Derived.Test.YtknahdghcfdmgaaGreatDoorQs4
set_option linter.unusedVariables false
set_option linter.unusedSimpArgs false
set_option maxRecDepth 100000
set_option maxHeartbeats 4000000
namespace Go.Proofs.YtknahdghcfdmgaaGreatDoor
/- Reference of layer 2: digit, Parts, Moved. No condition. -/
section
open Go Sx Wd

structure KDgs (la lb : List Nat) (w : World) (g : Nat × Nat × Value) (wr : World) : Prop where
  lt : g.1 < g.2.1
  le : g.2.1 ≤ 4294967296
  a : val lb * g.1 ≤ val la
  b : val la < val lb * g.2.1
  nu : NU wr g.2.2 (wd (val lb * g.1))
  fh : Fh w g.2.2
  ch : Chg [] w wr

theorem r2digit_spec (va vb : Value) (la lb : List Nat) (w : World) (ha : NU w va la) (hb : NU w vb lb) (hla : la.length ≤ 1099511627776) (hlb : lb.length ≤ 1099511627776) (hb1 : val la < val lb * 4294967296) : Ret Tryz.prog 333 [va, vb] w fun u w' => ∃ x, u = .tuple [.int .u32 ((val la / val lb : Nat) : Int), x].toArray ∧ NU w' x (wd (val lb * (val la / val lb))) ∧ Chg [] w w' ∧ Fh w x := by
 have ha0 := ha;have hb0 := hb;obtain ⟨⟨ala, cla, rfl, hcapla, hrla⟩, hWla, hlla⟩ := ha;obtain ⟨⟨alb, clb, rfl, hcaplb, hrlb⟩, hWlb, hllb⟩ := hb;have hch : Chg [] w w := Chg.refl _ _;refine zE2 Tryz.func333 rfl ?_;refine Sr fun _ kh1 => za rfl (za rfl (zz (kh1 (Sr fun _ kh3 => za rfl (zz (kh3 (Sr fun _ kh5 => za rfl (zz (kh5 (Sr fun _ kh7 => za rfl (zz (kh7 (zc fun _ kh9 => ?_)))))))))))));refine CW.block ?_;refine CW.loop (S := fun g : Nat × Nat × Value => [(0, .slice ala la.length cla), (1, .slice alb lb.length clb), (6, .int .u64 (g.1 : Int)), (7, .int .u64 (g.2.1 : Int)), (8, g.2.2)]) (Inv := KDgs la lb w) (mu := fun g => g.2.1 - g.1) ((0, 4294967296, .slice none 0 0)) ?_ ?_ ?_
 ·exact ⟨by decide, Nat.le_refl _, by rw [Nat.mul_zero]; exact Nat.zero_le _, hb1, by rw [Nat.mul_zero, wd_zero]; exact NU.nil, Fh.nil, hch⟩
 ·exact SLp
 ·rintro ⟨f, t, v0⟩ wr ⟨hft, ht, hfa, htb, hvb, hfb, hch⟩;dsimp only at hft ht hfa htb hvb hfb hch;dsimp only;refine zc fun _ kh10 => Sr fun _ kh11 => zm rfl (zm rfl ?_)
  first | refine WL.ev (Ev.sub64In rfl rfl (by omega) (by omega)) rfl ?_ | refine WL.ev (Ev.sub64 rfl rfl (by omega)) rfl ?_
  refine WL.ev (Ev.gtr rfl rfl) rfl ?_;refine zz (kh11 ?_);refine zy rfl ?_ ?_<;>intro hc1<;>try simp only [qs] at hc1
  ·have hm1 : f < (f + t) / 2 := by omega
   have hm2 : (f + t) / 2 < t := by omega
   refine zkk ?_;refine kh10 ?_;refine CW.block ?_;refine Sr fun _ kh13 => zm rfl (zm rfl ?_)
   first | refine WL.ev (Ev.add64In rfl rfl (by omega)) rfl ?_ | refine WL.ev (Ev.add64 rfl rfl) rfl ?_
   refine WL.ev (Ev.quoU (b := 2) rfl rfl (by omega) (in_u64 (by omega)).2) rfl ?_;refine za rfl (zz (kh13 (Sr fun _ kh15 => zm rfl (zm rfl ?_))));refine WL.ev (Ev.conv32 rfl rfl) rfl ?_;rw [Nat.mod_eq_of_lt (show (f + t) / 2 < 4294967296 by omega)];refine WL.buildSlice (m := 1) (cs := [u32v (((f + t) / 2))]) (by decide) (by decide) rfl (by kernel_rfl) rfl fun b22 w22 hn22 => ?_;have hcm22 := hn22.chg;have hge22 := hn22.ge;have hb22 : OB w22 b22 _ [((f + t) / 2)] := hn22.at_;have hgehch22 := Nat.le_trans hch.size hge22;have hch := hch.ta hcm22;have hvb := hvb.keep0 hcm22;refine WL.call hasF251 rfl rfl (r2Times_spec _ _ _ _ _ (hb0.keep0 hch) (NU.of_block (l := [((f + t) / 2)]) hb22 (W_cons.2 ⟨by omega, W_nil⟩) (by simp) rfl (by omega)) (by simp only [List.length_cons, List.length_nil]; omega)) fun v23 w1 h' => ?_;obtain ⟨hNx, hC, hFx⟩ := h';rw [wd_one _ (by omega)] at hNx;have hFx := hFx.mono hch.size;have hch := hch.ta hC;have hvb := hvb.keep0 hC;refine za rfl (zz (kh15 (Sr fun _ kh17 => zm rfl (zm rfl ?_))));refine WL.call hasF254 rfl rfl (r2Cmp_spec _ _ _ _ _ hNx (ha0.keep0 hch)) fun v w2 h' => ?_;obtain ⟨rfl, hC⟩ := h';rw [val_wd];have hch := hch.ta hC;have hvb := hvb.keep0 hC;have hNx := hNx.keep0 hC;refine WL.ev (Ev.leq rfl rfl) rfl ?_;refine zz (kh17 ?_);refine zy rfl ?_ ?_<;>intro hc2<;>try simp only [qs] at hc2
   ·have hle : val lb * ((f + t) / 2) ≤ val la := sgn_le.1 hc2
    refine Sr fun _ kh19 => zm rfl (za rfl (zz (kh19 ?_)));refine zR fun _ kr21 => ?_;refine zm rfl (za rfl ?_);refine WL.nil (kr21 _ _ _ ?_);refine ⟨rfl, (((f + t) / 2), t, v23), ?_, ?_, ?_⟩
    ·exact SLp
    ·exact ⟨hm2, ht, hle, htb, hNx, hFx, hch⟩
    ·show t - ((f + t) / 2) < t - f; omega
   ·have hle : val la < val lb * ((f + t) / 2) := Nat.lt_of_not_le fun q => by have := sgn_le.2 q; omega
    refine zR fun _ kr22 => ?_;refine zm rfl (za rfl ?_);refine WL.nil (kr22 _ _ _ ?_);refine ⟨rfl, (f, ((f + t) / 2), v0), ?_, ?_, ?_⟩
    ·exact SLp
    ·exact ⟨hm1, by dsimp only; omega, hfa, hle, hvb, hfb, hch⟩
    ·show ((f + t) / 2) - f < t - f; omega
  ·have et : t = f + 1 := by omega
   subst et;have hq : val la / val lb = f := Nat.div_eq_of_lt_le (by rw [Nat.mul_comm]; exact hfa) (by rw [Nat.mul_comm]; exact htb);refine CW.exit ?_;refine kh9 (Sr fun _ kh23 => zm rfl ?_);refine WL.ev (Ev.conv32 rfl rfl) rfl ?_;rw [Nat.mod_eq_of_lt (show f < 4294967296 by omega)];refine zm rfl (za rfl (za rfl (zz (kh23 ?_))));refine zr (zr2 rfl rfl rfl ?_);rw [hq];exact ⟨_, rfl, hvb, hch, hfb⟩

structure KPts (la : List Nat) (b : Nat) (w : World) (B : Nat) (g : Nat × List Nat × Nat × Value) (wr : World) : Prop where
  a : PartI la b g.1 g.2.1 g.2.2.1
  ob : OB wr B 219 g.2.1
  nu : NU wr g.2.2.2 (wd g.2.2.1)
  av : Av B g.2.2.2
  ch : Chg [] w wr

theorem r2Parts_spec (va vb : Value) (la lb : List Nat) (w : World) (ha : NU w va la) (hb : NU w vb lb) (hla : la.length ≤ 1099511627776) (hlb : lb.length ≤ 1099511627775) (hb1 : 0 < val lb) : Ret Tryz.prog 308 [va, vb] w fun u w' => ∃ x y, u = .tuple [x, y].toArray ∧ NU w' x (wd (val la / val lb)) ∧ NU w' y (wd (val la % val lb)) ∧ Chg [] w w' := by
 have ha0 := ha;have hb0 := hb;obtain ⟨⟨ala, cla, rfl, hcapla, hrla⟩, hWla, hlla⟩ := ha;obtain ⟨⟨alb, clb, rfl, hcaplb, hrlb⟩, hWlb, hllb⟩ := hb;have hch : Chg [] w w := Chg.refl _ _;refine zE2 Tryz.func308 rfl ?_;refine Sr fun _ kh1 => za rfl (za rfl (zz (kh1 (Sr fun _ kh3 => zm rfl (zn rfl ?_)))));refine WL.makeU ((la).length) ((la).length) rfl rfl (by omega) (by omega) (by omega) (by omega) (by omega) rfl fun b14 wm14 hb14 hcm14 hge14 => ?_;have hgehch14 := Nat.le_trans hch.size hge14;have hch := hch.ta hcm14;refine za rfl (zz (kh3 (Sr fun _ kh5 => za rfl (zz (kh5 (zc fun _ kh7 => Sr fun _ kh8 => zm rfl (zn rfl ?_)))))))
 first | refine WL.ev (Ev.subIn rfl rfl (by omega)) rfl ?_ | refine WL.ev (Ev.sub rfl rfl) rfl ?_
 refine za rfl (zz (kh8 ?_));refine CW.block ?_;refine CW.loop (S := fun g : Nat × List Nat × Nat × Value => [(0, .slice ala la.length cla), (1, .slice alb lb.length clb), (6, .slice (some ⟨b14, 0, none⟩) la.length la.length), (7, g.2.2.2), (8, .int .i64 ((g.1 : Int) - 1))]) (Inv := KPts la (val lb) w b14) (mu := fun g => g.1) ((la.length, List.replicate la.length 0, 0, .slice none 0 0)) ?_ ?_ ?_
 ·exact ⟨PartI.zero la hb1, hb14, by rw [wd_zero]; exact NU.nil, Av.nil, hch⟩
 ·exact SLp
 ·rintro ⟨k, Q, r, vr⟩ wr ⟨hI, hb14, hvr, hav, hch⟩;dsimp only at hI hb14 hvr hav hch;dsimp only;have hkl := hI.le;have hQl := hI.len;have hrl := hI.rl;have hge14 : w.heap.size ≤ b14 := hgehch14;refine zc fun _ kh10 => Sr fun _ kh11 => zm rfl ?_;refine WL.ev (Ev.geq rfl rfl) rfl ?_;refine zz (kh11 ?_);refine zy rfl ?_ ?_<;>intro hc1<;>try simp only [qs] at hc1
  ·have hbd := hI.bound hWla
   have hrn : (wd r).length ≤ lb.length := Nat.le_trans (wd_length_mono (Nat.le_of_lt hrl)) (wd_length_val_le hWlb);have hXn : (wd (la.getD (k - 1) 0 + 4294967296 * r)).length ≤ lb.length + 1 := len_up hbd (val_lt hWlb);refine zkk ?_;refine kh10 (zc fun _ kh13 => ?_);refine CW.block ?_;refine Sr fun _ kh14 => zm rfl (zm rfl ?_);refine WL.ev (Ev.ixR ((k - 1)) rfl rfl (hrla.keep0 hch) (by omega) (by omega) (by simp; omega)) rfl ?_;refine WL.ev (Ev.load rfl rfl ((hrla.keep0 hch).u32 (by first | omega | (simp; omega)))) rfl ?_;have hw25 := hWla.getD ((k - 1));refine WL.buildSlice (m := 1) (cs := [u32v ((la).getD ((k - 1)) 0)]) (by decide) (by decide) rfl (by kernel_rfl) rfl fun b26 w26 hn26 => ?_;have hcm26 := hn26.chg;have hge26 := hn26.ge;have hb26 : OB w26 b26 _ [(la).getD ((k - 1)) 0] := hn26.at_;have hgehch26 := Nat.le_trans hch.size hge26;have hch := hch.ta hcm26;have hvr := hvr.keep0 hcm26;have hneb1426 := zdd hb14.lt hge26;have hb14 := hb14.k0 hcm26;have hg_nx := GR.of_OB (lo := w.heap.size) (X := [b14]) (k := 1) hb26 (by simp) (by simp) hgehch26 (by simp; omega);rw [show List.take 1 [la.getD (k - 1) 0] = [la.getD (k - 1) 0] from rfl] at hg_nx;refine za rfl (zz (kh14 (zc fun _ kh16 => ?_)));have hv7 := hvr;obtain ⟨⟨ar, cr, rfl, hcapr, hrr⟩, hWr, hlr⟩ := hv7;refine zR fun _ kr17 => ?_;refine zm rfl (zm rfl ?_);refine WL.growR (f := u32v) (lo := w.heap.size) (X := [b14]) (l := [la.getD (k - 1) 0]) (news := (wd r)) (by rfl) (fun i => rfl) rfl rfl hg_nx (by first | rfl | (simp; done) | (simp; omega) | omega) hrr (by first | omega | exact hch.size | exact Nat.le_refl _) (by intro b hb; simp only [List.mem_singleton] at hb; subst hb; exact hb14.lt) (by simp only [List.length_append, List.length_cons, List.length_nil]; omega) (by simp only [List.length_append, List.length_cons, List.length_nil]; omega) rfl fun v29 w29 hg29 hcg29 => ?_;have hch := GR.frame hg_nx hcg29 hch (by first | omega | exact Nat.le_refl _);have hb14 := hb14.keep hcg29 (hg_nx.notin (by first | exact .inl (by simp) | exact .inr (by omega)));have hg_nx := hg29;refine za rfl ?_;refine WL.nil (kr17 _ _ _ (kh16 ?_));refine zc fun _ kh18 => ?_;have hval : val ([la.getD (k - 1) 0] ++ wd r) = (la.getD (k - 1) 0 + 4294967296 * r) := by rw [val_append, val_wd]; simp [val]
   refine zR fun _ kr19 => ?_;refine zm rfl ?_;refine WL.call hasF305 rfl rfl (r2Norm_spec _ _ _ (hg_nx.nu (W_append.2 ⟨W_cons.2 ⟨hWla.getD _, W_nil⟩, W_wd _⟩) (by simp only [List.length_append, List.length_cons, List.length_nil]; omega)) (by rw [hval]; omega)) fun v31 w1 h' => ?_;obtain ⟨hNx, hC, hFx⟩ := h';rw [hval] at hNx;have hAx := hFx.av hb14.lt;have hch := hch.ta hC;have hb14 := hb14.k0 hC;refine za rfl ?_;refine WL.nil (kr19 _ _ _ (kh18 ?_));refine Sr fun _ kh20 => zm rfl (zm rfl ?_);refine WL.call hasF254 rfl rfl (r2Cmp_spec _ _ _ _ _ hNx (hb0.keep0 hch)) fun v w2 h' => ?_;obtain ⟨rfl, hC⟩ := h';rw [val_wd];have hch := hch.ta hC;have hb14 := hb14.k0 hC;have hNx := hNx.keep0 hC;refine WL.ev (Ev.geq rfl rfl) rfl ?_;refine zz (kh20 ?_);refine zy rfl ?_ ?_<;>intro hc2<;>try simp only [qs] at hc2
   ·have hge : val lb ≤ (la.getD (k - 1) 0 + 4294967296 * r) := sgn_ge.1 hc2
    refine Sr fun _ kh22 => zm rfl (zm rfl ?_);refine WL.call hasF333 rfl rfl (r2digit_spec _ _ _ _ _ hNx (hb0.keep0 hch) (by omega) (by omega) (by rw [val_wd]; exact hbd)) fun v w3 h' => ?_;obtain ⟨x, rfl, hNd, hC, hFd⟩ := h';rw [val_wd] at hNd ⊢;have hAd := hFd.av hb14.lt;have hch := hch.ta hC;have hb14 := hb14.k0 hC;have hNx := hNx.keep0 hC;refine zm rfl (zx rfl rfl (zx rfl rfl (za rfl (za rfl (zz (kh22 (Sr fun _ kh24 => zm rfl (zm rfl (zm rfl ?_)))))))));refine WL.ev (Ev.ixB ((k - 1)) rfl rfl (by omega) (by omega)) rfl ?_;refine WL.storeU rfl rfl hb14 (by first | omega | (simp; omega)) fun ws7 hb14_ hcs7 => ?_;have hch := hch.s1 hcs7;have hNx := hNx.keepOB hb14 hcs7 (by assumption);have hNd := hNd.keepOB hb14 hcs7 (by assumption);have hb14 := hb14_;refine zz (kh24 ?_);refine zR fun _ kr26 => ?_;refine zm rfl (zm rfl ?_);refine WL.call hasF255 rfl rfl (r2Minus_spec _ _ _ _ _ hNx hNd (by omega) (by rw [val_wd, val_wd]; exact Nat.mul_div_le _ _)) fun v48 w4 h' => ?_;obtain ⟨hNm, hC, hFm⟩ := h';rw [val_wd, val_wd] at hNm;have hAm := hFm.av hb14.lt;have hch := hch.ta hC;have hb14 := hb14.k0 hC;refine za rfl ?_;refine WL.nil (kr26 _ _ _ (kh13 ?_));refine zR fun _ kr27 => ?_;refine zm rfl ?_
    first | refine WL.ev (Ev.subIn rfl rfl (by omega)) rfl ?_ | refine WL.ev (Ev.sub rfl rfl) rfl ?_
    refine za rfl ?_;refine WL.nil (kr27 _ _ _ ?_);refine ⟨rfl, (k - 1, Q.set (k - 1) ((la.getD (k - 1) 0 + 4294967296 * r) / val lb), (la.getD (k - 1) 0 + 4294967296 * r) - val lb * ((la.getD (k - 1) 0 + 4294967296 * r) / val lb), v48), ?_, ?_, ?_⟩
    ·exact SLp
    ·exact ⟨hI.step hWla (by omega), hb14, hNm, hAm, hch⟩
    ·show k - 1 < k; omega
   ·have hlt : (la.getD (k - 1) 0 + 4294967296 * r) < val lb := Nat.lt_of_not_le fun q => by have := sgn_ge.2 q; omega
    refine zkk ?_;refine kh13 ?_;refine zR fun _ kr28 => ?_;refine zm rfl ?_
    first | refine WL.ev (Ev.subIn rfl rfl (by omega)) rfl ?_ | refine WL.ev (Ev.sub rfl rfl) rfl ?_
    refine za rfl ?_;refine WL.nil (kr28 _ _ _ ?_);refine ⟨rfl, (k - 1, Q, (la.getD (k - 1) 0 + 4294967296 * r), v31), ?_, ?_, ?_⟩
    ·exact SLp
    ·exact ⟨hI.stay hWla (by omega) hlt, hb14, hNx, hAx, hch⟩
    ·show k - 1 < k; omega
  ·have hk0 : k = 0 := by omega
   subst hk0;obtain ⟨hq, hr⟩ := hI.done;subst hr;refine CW.exit ?_;refine kh7 (Sr fun _ kh29 => zm rfl ?_);refine WL.call hasF305 rfl rfl (r2Norm_spec _ _ _ (NU.of_block hb14 hI.w (by omega) (by omega) (Nat.le_refl _)) (by have := wd_length_val_le hI.w; omega)) fun v w5 h' => ?_;obtain ⟨hN, hC, hF⟩ := h';rw [hq] at hN;have hch := hch.ta hC;have hvr := hvr.keep0 hC;refine zm rfl (za rfl (za rfl (zz (kh29 ?_))));refine zr (zr2 rfl rfl rfl ?_);exact ⟨_, _, rfl, hN, hvr, hch⟩

theorem shift_drop {l : List Nat} {q : Nat} (h : W l) (hk : q / 32 ≤ l.length) : val (l.drop (q / 32)) / 2 ^ (q % 32) = val l / 2 ^ q := by
  rw [val_drop h _ hk, Nat.div_div_eq_div_mul, ← Nat.pow_add, show 32 * (q / 32) + q % 32 = q by omega]
theorem shift_out {l : List Nat} {q : Nat} (h : W l) (hk : l.length ≤ q / 32) : val l / 2 ^ q = 0 := by
  refine Nat.div_eq_of_lt (Nat.lt_of_lt_of_le (val_lt h) (Nat.pow_le_pow_right (by decide) (by omega)))
theorem Ev.negN {P : Program} {s : Sl} {w : World} {ty t : TypeId} {x : Operand} {q : Nat} (hx : opnd s x = some (.int .i64 (-(q : Int)))) (h : q ≤ 9223372036854775807) : Ev P s (.unOp .neg t x) ty w (.int .i64 (q : Int)) w := by
  have := Ev.negIn (P := P) (w := w) (ty := ty) (t := t) hx (by omega)
  rwa [show - -(q : Int) = (q : Int) by omega] at this
theorem Ev.shlOne {P : Program} {s : Sl} {w : World} {ty t t' : TypeId} {x y : Operand} {k' : IntKind} {r : Nat} (hx : opnd s x = some (.int .u32 1)) (hy : opnd s y = some (.int k' (r : Int))) (h : 2 ^ r < 4294967296) : Ev P s (.binOp .shl t x y t') ty w (.int .u32 ((2 ^ r : Nat) : Int)) w := by
  have := Ev.shlU32 (P := P) (w := w) (ty := ty) (t := t) (t' := t') (a := 1) hx hy
  rwa [Nat.one_mul, Nat.mod_eq_of_lt h] at this
theorem pow_lt32 {r : Nat} (h : r < 32) : 2 ^ r < 4294967296 := by
  have : 2 ^ r ≤ 2 ^ 31 := Nat.pow_le_pow_right (by decide) (by omega)
  omega

theorem r2MovedDown_spec (v : Value) (l : List Nat) (w : World) (h : NU w v l) (q : Nat) (hq0 : 0 < q) (hq : q ≤ 1099511627776) (hlm : l.length ≤ 1099511627776) : Ret Tryz.prog 252 [v, .int .i64 (-(q : Int))] w fun u w' => NU w' u (wd (val l / 2 ^ q)) ∧ Chg [] w w' := by
 have hv0 := h;obtain ⟨⟨al, cl, rfl, hcapl, hrl⟩, hWl, hll⟩ := h;have hch : Chg [] w w := Chg.refl _ _;have hp32 := pow_lt32 (r := q % 32) (Nat.mod_lt _ (by decide));refine zE2 Tryz.func252 rfl ?_;refine Sr fun _ kh1 => za rfl (zz (kh1 (zc fun _ kh3 => Sr fun _ kh4 => zm rfl ?_)));refine WL.ev (Ev.lss rfl rfl) rfl ?_;refine zz (kh4 ?_);refine zy rfl ?_ ?_<;>intro hc1<;>try simp only [qs] at hc1
 ·refine Sr fun _ kh6 => zm rfl ?_
  refine WL.ev (Ev.negIn rfl (by omega)) rfl ?_;rw [show - -(q : Int) = (q : Int) by omega];refine WL.ev (Ev.quoIn (b := 32) rfl rfl (by omega) (by simp only [IntKind.max, IntKind.signed, IntKind.bits]; omega) (by omega)) rfl ?_;rw [show (q : Int) / 32 = ((q / 32 : Nat) : Int) by omega];refine za rfl (zz (kh6 (zc fun _ kh8 => ?_)));refine CW.seqM 21 (decide (l.length ≤ q / 32)) ?_ ?_
  ·refine zR fun _ kr9 => ?_;refine zm rfl (zm rfl (zn rfl ?_));refine WL.ev (Ev.geq rfl rfl) rfl ?_;refine zm rfl ?_;refine zb ?_ ?_<;>intro hg2<;>try simp only [qs] at hg2
   ·refine zv rfl (zv rfl (zt rfl rfl ?_));refine WL.nil (kr9 _ _ _ ?_);refine ⟨rfl, rfl, Subs.consB rfl ?_ ?_⟩
    ·first | (simp; omega) | (refine decide_eq_decide.2 ?_; omega)
    ·exact SMg
   ·refine zw rfl (zm rfl (zw rfl ?_));refine WL.ev (Ev.lss rfl rfl) rfl ?_
    refine ze rfl rfl ?_;refine WL.nil (kr9 _ _ _ ?_);refine ⟨rfl, rfl, Subs.consB rfl ?_ ?_⟩
    ·first | (simp; omega) | (refine decide_eq_decide.2 ?_; omega)
    ·exact SMg
  ·refine zy rfl ?_ ?_<;>intro hc3<;>try simp only [qs] at hc3
   ·refine Sr fun _ kh10 => za rfl (zz (kh10 ?_));refine zr (zr1 rfl rfl ?_);rw [shift_out hWl (by omega), wd_zero];exact ⟨NU.nil, hch⟩
   ·have hsd := shift_drop hWl (q := q) (by omega);have hNd : NU w (.slice (cutAt al (q / 32) cl 1) (l.length - q / 32) (cl - q / 32)) (l.drop (q / 32)) := NU.of_row (by rw [List.map_drop]; exact hrl.cut _ _ (by simp; omega) (by simp; omega)) (hWl.drop _) (by simp; omega) (by simp) (by omega);have hNdl : (l.drop (q / 32)).length ≤ 1099511627776 := by simp; omega
    refine zkk ?_;refine kh8 (zc fun _ kh12 => ?_);refine CW.regionHC 15 rfl hmix fun kR13 kr13 hS hdr => ?_;have hch := hch.ta hdr;refine wh 0 rfl hS (fun _ _ => Ev.move rfl) (wh 1 rfl hS (fun _ _ => Ev.move rfl) (wh 2 rfl hS (fun _ _ => Ev.sliceLn ((q / 32)) rfl rfl (by omega) (by omega)) (wh 4 rfl hS (fun _ _ => Ev.move rfl) (wh 5 rfl hS (fun _ _ => Ev.negN rfl (by omega)) (wh 6 rfl hS (fun _ _ => Ev.remU (b := 32) rfl rfl (by omega)) (wh 7 rfl hS (fun _ _ => Ev.shlOne rfl rfl hp32) ?_))))));refine WH.all2 3 8 (by kernel_rfl) ?_ ?_
    ·refine WHat.call 3 rfl hasF305 rfl rfl (r2Norm_spec _ _ _ (hNd.keep0 hch) (by have := wd_length_val_le hNd.hw; omega)) fun v w1 h' => ?_;obtain ⟨hNn, hC, hF26⟩ := h';have hch := hch.ta hC;have hS := hS.trans hC;refine ⟨hS, ?_⟩;refine WH.buildSliceC 8 rfl (by kernel_rfl) hS (m := 1) (cs := [u32v (2 ^ (q % 32))]) (by decide) (by decide) rfl (by kernel_rfl) rfl fun b31 w31 hn31 hS => ?_;have hcm31 := hn31.chg;have hge31 := hn31.ge;have hb31 : OB w31 b31 _ [2 ^ (q % 32)] := hn31.at_;have hgehch31 := Nat.le_trans hch.size hge31;have hch := hch.ta hcm31;have hNn := hNn.keep0 hcm31;refine WH.oneCall 9 rfl (by kernel_rfl) hasF308 rfl rfl (r2Parts_spec _ _ _ _ _ hNn (NU.of_block hb31 (W_cons.2 ⟨hp32, W_nil⟩) (by simp) rfl (by omega)) (by have := wd_length_val_le hNd.hw; omega) (by simp) (by rw [wd_one _ hp32]; exact Nat.two_pow_pos _)) fun v w2 h' => ?_;obtain ⟨x, y, rfl, hNq, hNr, hC⟩ := h';rw [val_wd, wd_one _ hp32, hsd] at hNq;have hch := hch.ta hC;have hS := hS.trans hC;refine ⟨hS, ?_⟩;refine wh 10 rfl hS (fun _ _ => Ev.move rfl) (wh 11 rfl hS (fun _ _ => Ev.extract rfl rfl) (wh 12 rfl hS (fun _ _ => Ev.extract rfl rfl) (wh 13 rfl hS (fun _ _ => Ev.assign rfl) (wh 14 rfl hS (fun _ _ => Ev.assign rfl) ?_))));refine WH.done (by kernel_rfl) (kr13 _ _ _ ?_);refine kh12 (Sr fun _ kh14 => zm rfl (za rfl (zz (kh14 ?_))));refine zr (zr1 rfl rfl ?_);exact ⟨hNq, hch⟩
    ·refine WHat.buildSlice 8 rfl hS (m := 1) (cs := [u32v (2 ^ (q % 32))]) (by decide) (by decide) rfl (by kernel_rfl) rfl fun b31 w31 hn31 hS => ?_;have hcm31 := hn31.chg;have hge31 := hn31.ge;have hb31 : OB w31 b31 _ [2 ^ (q % 32)] := hn31.at_;have hgehch31 := Nat.le_trans hch.size hge31;have hch := hch.ta hcm31;refine WH.oneCall 3 rfl (by kernel_rfl) hasF305 rfl rfl (r2Norm_spec _ _ _ (hNd.keep0 hch) (by have := wd_length_val_le hNd.hw; omega)) fun v w3 h' => ?_;obtain ⟨hNn, hC, hF26⟩ := h';have hch := hch.ta hC;have hb31 := hb31.k0 hC;have hS := hS.trans hC;refine ⟨hS, ?_⟩;refine WH.oneCall 9 rfl (by kernel_rfl) hasF308 rfl rfl (r2Parts_spec _ _ _ _ _ hNn (NU.of_block hb31 (W_cons.2 ⟨hp32, W_nil⟩) (by simp) rfl (by omega)) (by have := wd_length_val_le hNd.hw; omega) (by simp) (by rw [wd_one _ hp32]; exact Nat.two_pow_pos _)) fun v w4 h' => ?_;obtain ⟨x, y, rfl, hNq, hNr, hC⟩ := h';rw [val_wd, wd_one _ hp32, hsd] at hNq;have hch := hch.ta hC;have hS := hS.trans hC;refine ⟨hS, ?_⟩;refine wh 10 rfl hS (fun _ _ => Ev.move rfl) (wh 11 rfl hS (fun _ _ => Ev.extract rfl rfl) (wh 12 rfl hS (fun _ _ => Ev.extract rfl rfl) (wh 13 rfl hS (fun _ _ => Ev.assign rfl) (wh 14 rfl hS (fun _ _ => Ev.assign rfl) ?_))));refine WH.done (by kernel_rfl) (kr13 _ _ _ ?_);refine kh12 (Sr fun _ kh16 => zm rfl (za rfl (zz (kh16 ?_))));refine zr (zr1 rfl rfl ?_);exact ⟨hNq, hch⟩
 ·exfalso; omega

theorem up_pow (n q : Nat) : n * 2 ^ (32 * (q / 32)) * 2 ^ (q % 32) = n * 2 ^ q := by
  rw [Nat.mul_assoc, ← Nat.pow_add, show 32 * (q / 32) + q % 32 = q by omega]

theorem r2MovedUp_spec (v : Value) (l : List Nat) (w : World) (h : NU w v l) (q : Nat) (hq : q ≤ 1099511627776) (hlm : l.length ≤ 1099511627776) : Ret Tryz.prog 252 [v, .int .i64 (q : Int)] w fun u w' => NU w' u (wd (val l * 2 ^ q)) ∧ Chg [] w w' ∧ Fh w u := by
 obtain ⟨⟨al, cl, rfl, hcapl, hrl⟩, hWl, hll⟩ := h;have hch : Chg [] w w := Chg.refl _ _;have hp32 := pow_lt32 (r := q % 32) (Nat.mod_lt _ (by decide));refine zE2 Tryz.func252 rfl ?_;refine Sr fun _ kh1 => za rfl (zz (kh1 (zc fun _ kh3 => Sr fun _ kh4 => zm rfl ?_)));refine WL.ev (Ev.lss rfl rfl) rfl ?_;refine zz (kh4 ?_);refine zy rfl ?_ ?_<;>intro hc1<;>try simp only [qs] at hc1
 ·exfalso; omega
 ·refine zkk ?_
  refine kh3 (Sr fun _ kh6 => zm rfl ?_);refine WL.ev (Ev.quoIn (b := 32) rfl rfl (by omega) (by simp only [IntKind.max, IntKind.signed, IntKind.bits]; omega) (by omega)) rfl ?_;rw [show (q : Int) / 32 = ((q / 32 : Nat) : Int) by omega];refine WL.makeU ((q / 32)) ((q / 32)) rfl rfl (by omega) (by omega) (by omega) (by omega) (by omega) rfl fun b38 wm38 hb38 hcm38 hge38 => ?_;have hgehch38 := Nat.le_trans hch.size hge38;have hch := hch.ta hcm38;have hg_ou := GR.of_OB (lo := w.heap.size) (X := []) (k := q / 32) hb38 (by simp) (by simp; omega) hgehch38 (by simp);rw [List.take_replicate, Nat.min_self, List.length_replicate] at hg_ou;refine za rfl (zz (kh6 (Sr fun _ kh8 => zm rfl (zm rfl ?_))));refine WL.growR (f := u32v) (lo := w.heap.size) (X := []) (l := (List.replicate (q / 32) 0)) (news := l) (by rfl) (fun i => rfl) rfl rfl hg_ou (by first | rfl | (simp; done) | (simp; omega) | omega) (hrl.keep0 hch) (by first | omega | exact hch.size | exact Nat.le_refl _) (by simp) (by simp only [List.length_replicate]; omega) (by simp only [List.length_replicate]; omega) rfl fun v41 w41 hg41 hcg41 => ?_;have hch := GR.frame hg_ou hcg41 hch (by first | omega | exact Nat.le_refl _);have hg_ou := hg41;refine za rfl (zz (kh8 (Sr fun _ kh10 => zm rfl (zm rfl ?_))));refine WL.ev (Ev.remU (b := 32) rfl rfl (by omega)) rfl ?_;refine WL.ev (Ev.shlOne rfl rfl hp32) rfl ?_;refine WL.buildSlice (m := 1) (cs := [u32v (2 ^ (q % 32))]) (by decide) (by decide) rfl (by kernel_rfl) rfl fun b46 w46 hn46 => ?_;have hcm46 := hn46.chg;have hge46 := hn46.ge;have hb46 : OB w46 b46 _ [2 ^ (q % 32)] := hn46.at_;have hgehch46 := Nat.le_trans hch.size hge46;have hch := hch.ta hcm46;have hg_ou := hg_ou.keep0 hcm46;refine WL.call hasF251 rfl rfl (r2Times_spec _ _ _ _ _ (hg_ou.nu (W_append.2 ⟨W_replicate _, hWl⟩) (by simp only [List.length_append, List.length_replicate]; omega)) (NU.of_block (l := [2 ^ (q % 32)]) hb46 (W_cons.2 ⟨hp32, W_nil⟩) (by simp) rfl (by omega)) (by simp only [List.length_append, List.length_replicate, List.length_cons, List.length_nil]; omega)) fun v w1 h' => ?_;obtain ⟨hN, hC, hF⟩ := h';rw [val_zeros, wd_one _ hp32, up_pow] at hN;have hF := hF.mono hch.size;have hch := hch.ta hC;refine za rfl (zz (kh10 ?_));refine zr (zr1 rfl rfl ?_);exact ⟨hN, hch, hF⟩

end

/- Reference of layer 3: forms. No condition. -/
section
open Go Sx Wd

/-- A form, and whether it may be. -/
def FO (w : World) (u : Value) (x : Option Dy) : Prop := (∃ r d, x = some d ∧ u = .tuple [.agg [.bool d.neg, r, .int .i64 d.e].toArray, .bool true].toArray ∧ NU w r (wd d.m)) ∨ (x = none ∧ u = .tuple [.agg [.bool false, .slice none 0 0, .int .i64 0].toArray, .bool false].toArray)
theorem r2MovedNeg_spec (v : Value) (l : List Nat) (q : Nat) (w : World) (h : NU w v l) (hq : q ≤ 1099511627776) (hlm : l.length ≤ 1099511627776) : Ret Tryz.prog 252 [v, .int .i64 (-(q : Int))] w fun u w' => NU w' u (wd (val l / 2 ^ q)) ∧ Chg [] w w' := by
  rcases Nat.eq_zero_or_pos q with rfl | h0
  · rw [show (-((0 : Nat) : Int)) = ((0 : Nat) : Int) by simp]
    have := r2MovedUp_spec v l w h 0 (by omega) hlm;refine Ret.mono this fun u w' hR => ?_;obtain ⟨h1, h2, _⟩ := hR;rw [Nat.pow_zero, Nat.mul_one] at h1;exact ⟨by rw [Nat.pow_zero, Nat.div_one]; exact h1, h2⟩
  · exact r2MovedDown_spec v l w h q h0 hq hlm

theorem r3Form_spec (neg : Bool) (v : Value) (l : List Nat) (e : Int) (w : World) (h : NU w v l) (he : -9223372036854775808 ≤ e ∧ e ≤ 9223372036854775807) (hlm : l.length ≤ 34359738368) : Ret Tryz.prog 263 [.bool neg, v, .int .i64 e] w fun u w' => FO w' u (formD neg (val l) e) ∧ Chg [] w w' := by
 obtain ⟨A, hA⟩ : ∃ A, A = wd (val l) := ⟨_, rfl⟩;have hvA : val A = val l := by rw [hA]; exact val_wd _
 have hAl := wd_length_val_le h.hw;rw [← hA] at hAl;have hch : Chg [] w w := Chg.refl _ _;refine zE3 Tryz.func263 rfl ?_;refine Sr fun _ kh1 => ?_;refine zAh rfl rfl hch fun b6 wm6 hb6 hcm6 hge6 hgehch6 hch => ?_;refine za rfl (zz (kh1 (Sr fun _ kh3 => zm rfl ?_)));refine WL.call hasF305 rfl rfl (r2Norm_spec _ _ _ (h.keep0 hch) (by rw [← hA]; omega)) fun v w1 h' => ?_;obtain ⟨hN1, hC11, hF1⟩ := h';rw [← hA] at hN1;have hN1d := hN1;obtain ⟨⟨a1, c1, rfl, hcap1, hr1⟩, hW1, hl1⟩ := hN1d;have hch := hch.ta hC11;have hb6 := hb6.k0 hC11;refine za rfl (zz (kh3 (zc fun _ kh5 => Sr fun _ kh6 => zm rfl (zn rfl (zq rfl rfl (zz (kh6 ?_)))))));refine zy rfl ?_ ?_<;>intro hc1<;>try simp only [qs] at hc1
 ·refine Sr fun _ kh8 => ?_
  refine WL.ev (Ev.build (vs := _) (cs := [_, _, _]) rfl rfl) rfl ?_;refine zss rfl rfl ao hb6 rfl fun ws1 hb6_ hcs1 => ?_;(try simp only [Sx.splice, qt] at hb6_);have hch := hch.s1 hcs1;have hb6 := hb6_;refine za rfl (zz (kh8 ?_));refine zr (bodyA.retR2 rfl (RVal.cell rfl (hb6.varA rfl rfl)) (RVal.tmp rfl) ?_);have hv0 : val l = 0 := by rw [← hvA, List.length_eq_zero_iff.1 (show A.length = 0 by omega)]; rfl
  rw [hv0, formD_zero];exact ⟨.inl ⟨_, _, rfl, rfl, by rw [show Dy.zero.m = 0 from rfl, wd_zero]; exact NU.nil⟩, hch⟩
 ·have hn0 : val l ≠ 0 := fun e0 => by rw [e0, wd_zero] at hA; rw [hA] at hc1; exact hc1 rfl
  obtain ⟨q, hq⟩ : ∃ q, q = tz (val l) := ⟨_, rfl⟩;have hqb := tz_lt_bl hn0;have hbA : bl (val l) ≤ 32 * A.length := by rw [bl_words, ← hA]; exact Nat.le_refl _
  rw [← hq] at hqb;refine zkk ?_;refine kh5 (Sr fun _ kh10 => zm rfl ?_);refine WL.call hasF315 rfl rfl (r2Low_spec _ _ _ hN1 (by omega)) fun v w2 h' => ?_;obtain ⟨rfl, rfl⟩ := h';rw [hvA, ← hq];refine za rfl (zz (kh10 (zc fun _ kh12 => ?_)));refine CW.seqM 31 (decide ((1048576 < e ∨ 1048576 < e + (q : Int)) ∨ e + (q : Int) < -1048576)) ?_ ?_
  ·refine zR fun _ kr13 => ?_;refine zm rfl ?_;refine WL.ev (Ev.gtr rfl rfl) rfl ?_;refine zm rfl ?_;refine zb ?_ ?_<;>intro hg2<;>try simp only [qs] at hg2
   ·refine zv rfl (zv rfl (zv rfl (zv rfl (zt rfl rfl (zm rfl (zv rfl (zv rfl (zv rfl (zv rfl (zt rfl rfl ?_))))))))));refine WL.nil (kr13 _ _ _ ?_);refine ⟨rfl, rfl, Subs.consB rfl ?_ ?_⟩
    ·first | (simp; omega) | (simp_all; done) | (refine decide_eq_decide.2 ?_; omega)
    ·exact SMg
   ·refine zw rfl (zm rfl (zw rfl (zm rfl (zw rfl ?_))));(first | refine zi rfl rfl ?_ | refine zo rfl rfl ?_);refine zw rfl ?_
    refine WL.ev (Ev.gtr rfl rfl) rfl ?_;refine ze rfl rfl (zm rfl ?_);refine zb ?_ ?_<;>intro hg3<;>try simp only [qs] at hg3
    ·refine zv rfl (zv rfl (zv rfl (zv rfl (zt rfl rfl ?_))));refine WL.nil (kr13 _ _ _ ?_);refine ⟨rfl, rfl, Subs.consB rfl ?_ ?_⟩
     ·first | (simp; omega) | (simp_all; done) | (refine decide_eq_decide.2 ?_; omega)
     ·exact SMg
    ·refine zw rfl (zm rfl (zw rfl (zm rfl (zw rfl ?_))));(first | refine zi rfl rfl ?_ | refine zo rfl rfl ?_);refine zw rfl ?_
     refine WL.ev (Ev.lss rfl rfl) rfl ?_;refine ze rfl rfl ?_;refine WL.nil (kr13 _ _ _ ?_);refine ⟨rfl, rfl, Subs.consB rfl ?_ ?_⟩
     ·first | (simp; omega) | (simp_all; done) | (refine decide_eq_decide.2 ?_; omega)
     ·exact SMg
  ·refine zy rfl ?_ ?_<;>intro hc4<;>try simp only [qs] at hc4
   ·refine Sr fun _ kh14 => ?_
    refine WL.ev (Ev.build (vs := _) (cs := [_, _, _]) rfl rfl) rfl ?_;refine zss rfl rfl ao hb6 rfl fun ws2 hb6_ hcs2 => ?_;(try simp only [Sx.splice, qt] at hb6_);have hch := hch.s1 hcs2;have hb6 := hb6_;refine za rfl (zz (kh14 ?_));refine zr (bodyA.retR2 rfl (RVal.cell rfl (hb6.varA rfl rfl)) (RVal.tmp rfl) ?_);rw [formD_none hn0 (by rw [← hq]; omega)];exact ⟨.inr ⟨rfl, rfl⟩, hch⟩
   ·refine zkk ?_
    refine kh12 (Sr fun _ kh16 => zm rfl (zm rfl ?_));refine WL.ev (Ev.negIn rfl (by omega)) rfl ?_;refine WL.call hasF252 rfl rfl (r2MovedNeg_spec _ _ q _ hN1 (by omega) (by omega)) fun v w3 h' => ?_;obtain ⟨hN2, hC36⟩ := h';rw [hvA] at hN2;obtain ⟨B, hB⟩ : ∃ B, B = wd (val l / 2 ^ q) := ⟨_, rfl⟩;rw [← hB] at hN2;have hN2d := hN2;obtain ⟨⟨a2, c2, rfl, hcap2, hr2⟩, hW2, hl2⟩ := hN2d;have hch := hch.ta hC36;have hb6 := hb6.k0 hC36;refine za rfl (zz (kh16 (zc fun _ kh18 => Sr fun _ kh19 => zm rfl (zn rfl ?_))));refine WL.ev (Ev.gtr rfl rfl) rfl ?_;refine zz (kh19 ?_);refine zy rfl ?_ ?_<;>intro hc5<;>try simp only [qs] at hc5
    ·refine Sr fun _ kh21 => ?_
     refine WL.ev (Ev.build (vs := _) (cs := [_, _, _]) rfl rfl) rfl ?_;refine zss rfl rfl ao hb6 rfl fun ws3 hb6_ hcs3 => ?_;(try simp only [Sx.splice, qt] at hb6_);have hch := hch.s1 hcs3;have hb6 := hb6_;refine za rfl (zz (kh21 ?_));refine zr (bodyA.retR2 rfl (RVal.cell rfl (hb6.varA rfl rfl)) (RVal.tmp rfl) ?_);rw [formD_none hn0 (by rw [← hq, ← hB]; omega)];exact ⟨.inr ⟨rfl, rfl⟩, hch⟩
    ·refine zkk ?_
     refine kh18 (Sr fun _ kh23 => zm rfl (zm rfl (zm rfl (zm rfl ?_))));(first | refine zi rfl rfl ?_ | refine zo rfl rfl ?_);refine WL.ev (Ev.build (vs := _) (cs := [_, _, _]) rfl rfl) rfl ?_;refine zss rfl rfl ao hb6 rfl fun ws4 hb6_ hcs4 => ?_;(try simp only [Sx.splice, qt] at hb6_);have hch := hch.s1 hcs4;have hN2 := hN2.keepBK hb6 hcs4 an;have hb6 := hb6_;refine za rfl (zz (kh23 ?_));refine zr (bodyA.retR2 rfl (RVal.cell rfl (hb6.varA rfl rfl)) (RVal.tmp rfl) ?_);rw [formD_some hn0 (by rw [← hq, ← hB]; omega), ← hq];refine ⟨.inl ⟨_, _, rfl, rfl, ?_⟩, hch⟩;simp only;rw [← hB];exact hN2

theorem r3told_spec (neg : Bool) (v : Value) (l : List Nat) (e : Int) (w : World) (h : NU w v l) (he : -9223372036854775808 ≤ e ∧ e ≤ 9223372036854775807) (hlm : l.length ≤ 34359738368) : Ret Tryz.prog 250 [.bool neg, v, .int .i64 e] w fun u w' => DR w' u (formD neg (val l) e) ∧ Chg [] w w' := by
 have hch : Chg [] w w := Chg.refl _ _;refine zE3 Tryz.func250 rfl ?_;refine Sr fun _ kh1 => ?_;refine zAh rfl rfl hch fun b6 wm6 hb6 hcm6 hge6 hgehch6 hch => ?_;have h := h.keep0 hcm6;refine za rfl (zz (kh1 (Sr fun _ kh3 => zm rfl (zm rfl (zm rfl ?_)))));refine WL.call hasF263 rfl rfl (r3Form_spec neg v l e _ h he hlm) fun v w1 h' => ?_;obtain ⟨hD1, hC1⟩ := h';have hch := hch.ta hC1;have hb6 := hb6.k0 hC1;rcases hD1 with ⟨r1, d1, hd1, rfl, hNr1⟩ | ⟨hd1, rfl⟩
 ·refine zm rfl (zx rfl rfl (zx rfl rfl ?_));refine zAh rfl rfl hch fun b8 wm8 hb8 hcm8 hge8 hgehch8 hch => ?_;have hNr1 := hNr1.keep0 hcm8;have hneb68 := zdd hb6.lt hge8;have hb6 := hb6.k0 hcm8;refine zss rfl rfl ao hb8 rfl fun ws5 hb8_ hcs5 => ?_;(try simp only [Sx.splice, qt] at hb8_);have hch := hch.s1 hcs5;have hb6 := hb6.kq hcs5;have hNr1 := hNr1.keepBK hb8 hcs5 an;have hb8 := hb8_;refine za rfl (zz (kh3 (zc fun _ kh5 => Sr fun _ kh6 => zm rfl ?_)));refine WL.ev (Ev.not rfl) rfl ?_;refine zz (kh6 ?_);refine CW.condF rfl ?_;refine zkk ?_;refine kh5 (Sr fun _ kh8 => zg hb8 rfl ?_);refine zss rfl rfl ao hb6 rfl fun ws6 hb6_ hcs6 => ?_;(try simp only [Sx.splice, qt] at hb6_);have hch := hch.s1 hcs6;have hNr1 := hNr1.keepBK hb6 hcs6 an;have hb6 := hb6_;refine za rfl (zz (kh8 ?_));refine zr (bodyA.retR2 rfl (RVal.cell rfl (hb6.varA rfl rfl)) (RVal.tmp rfl) ?_);exact ⟨.inl ⟨r1, d1, hd1, rfl, hNr1⟩, hch⟩
 ·refine zm rfl (zx rfl rfl (zx rfl rfl ?_));refine zAh rfl rfl hch fun b8 wm8 hb8 hcm8 hge8 hgehch8 hch => ?_;have hneb68 := zdd hb6.lt hge8;have hb6 := hb6.k0 hcm8;refine zss rfl rfl ao hb8 rfl fun ws7 hb8_ hcs7 => ?_;have hch := hch.s1 hcs7;have hb6 := hb6.kq hcs7;refine za rfl (zz (kh3 (zc fun _ kh10 => Sr fun _ kh11 => zm rfl ?_)));refine WL.ev (Ev.not rfl) rfl ?_;refine zz (kh11 ?_);refine CW.condT rfl ?_;refine Sr fun _ kh13 => ?_;refine WL.ev (Ev.build (vs := _) (cs := [_, _, _]) rfl rfl) rfl ?_;refine zss rfl rfl ao hb6 rfl fun ws8 hb6_ hcs8 => ?_;(try simp only [Sx.splice, qt] at hb6_);have hch := hch.s1 hcs8;have hb6 := hb6_;refine za rfl (zz (kh13 ?_));refine zr (bodyA.retR2 rfl (RVal.cell rfl (hb6.varA rfl rfl)) (RVal.tmp rfl) ?_);exact ⟨.inr ⟨hd1, rfl⟩, hch⟩

theorem r3Made_spec (na : Bool) (va : Value) (la : List Nat) (ea : Int) (w : World) (ha : NU w va la) (hea : -9223372036854775808 ≤ ea ∧ ea ≤ 9223372036854775807) (hla : la.length ≤ 34359738368) : Ret Tryz.prog 240 [.agg [.bool na, va, .int .i64 ea].toArray] w fun u w' => FO w' u (formD na (val la) ea) ∧ Chg [] w w' := by
 have hch : Chg [] w w := Chg.refl _ _;have hoa := ha.one;refine zE1 Tryz.func240 rfl ?_;refine Sr fun _ kh1 => ?_;refine zBh rfl rfl rfl hch fun b1 wm1 hb1 hcm1 hge1 hgehch1 hch => ?_;have ha := ha.keep0 hcm1;refine zAh rfl rfl hch fun b2 wm2 hb2 hcm2 hge2 hgehch2 hch => ?_;have ha := ha.keep0 hcm2;have hneb12 := zdd hb1.lt hge2;have hb1 := hb1.k0 hcm2;refine za rfl (zz (kh1 (Sr fun _ kh3 => zf rfl (zl hb1 rfl rfl (zf rfl (zl hb1 rfl rfl (zf rfl (zl hb1 rfl rfl ?_))))))));refine WL.call hasF263 rfl rfl (r3Form_spec na va la ea _ ha hea hla) fun v w1 h' => ?_;obtain ⟨hD1, hC1⟩ := h';have hch := hch.ta hC1;have hb2 := hb2.k0 hC1;rcases hD1 with ⟨r1, d1, hd1, rfl, hNr1⟩ | ⟨hd1, rfl⟩
 ·refine zx rfl rfl (zx rfl rfl ?_);refine zss rfl rfl ao hb2 rfl fun ws9 hb2_ hcs9 => ?_;(try simp only [Sx.splice, qt] at hb2_);have hch := hch.s1 hcs9;have hNr1 := hNr1.keepBK hb2 hcs9 an;have hb2 := hb2_;refine za rfl (zz (kh3 ?_));refine zr (bodyA.retR2 rfl (RVal.cell rfl (hb2.varA rfl rfl)) (RVal.tmp rfl) ?_);exact ⟨.inl ⟨r1, d1, hd1, rfl, hNr1⟩, hch⟩
 ·refine zx rfl rfl (zx rfl rfl ?_);refine zss rfl rfl ao hb2 rfl fun ws10 hb2_ hcs10 => ?_;(try simp only [Sx.splice, qt] at hb2_);have hch := hch.s1 hcs10;have hb2 := hb2_;refine za rfl (zz (kh3 ?_));refine zr (bodyA.retR2 rfl (RVal.cell rfl (hb2.varA rfl rfl)) (RVal.tmp rfl) ?_);exact ⟨.inr ⟨hd1, rfl⟩, hch⟩

theorem r3Of64_spec (w : World) : Ret Tryz.prog 248 [] w fun u w' => u = .agg [.int .i64 53, .int .i64 (-1074), .int .u64 9218868437227405312].toArray ∧ Chg [] w w' := by
 have hch : Chg [] w w := Chg.refl _ _;refine zE0 Tryz.func248 rfl ?_;refine Sr fun _ kh1 => ?_;refine WL.allocB (l := [.int .i64 0, .int .i64 0, .int .u64 0]) rfl rfl fun b0 wm0 hb0 hcm0 hge0 => ?_;have hgehch0 := Nat.le_trans hch.size hge0;have hch := hch.ta hcm0;refine zz (kh1 (Sr fun _ kh3 => ?_));refine WL.ev (Ev.build (vs := _) (cs := [_, _, _]) rfl rfl) rfl ?_;refine zss rfl rfl ao hb0 rfl fun ws11 hb0_ hcs11 => ?_;(try simp only [Sx.splice, qt] at hb0_);have hch := hch.s1 hcs11;have hb0 := hb0_;refine zz (kh3 ?_);refine zr (bodyA.retR1 rfl (RVal.cell rfl (hb0.varA rfl rfl)) ?_);exact ⟨rfl, hch⟩

end

/- Reference of layer 3: Number, Bits, Of, Int, Neg, Sign. No condition. -/
section
open Go Sx Wd

/-- The k-th number: a whole number, and its power of two. -/
def numM (k : Nat) : Nat := if k / 4503599627370496 = 0 then k % 4503599627370496 else 4503599627370496 + k % 4503599627370496
def numE (k : Nat) : Int := if k / 4503599627370496 = 0 then -1074 else -1074 + ((k / 4503599627370496 : Nat) : Int) - 1
theorem numM_lt (k : Nat) : numM k < 9007199254740992 := by unfold numM; split <;> omega
theorem numE_le (k : Nat) (h : k < 18446744073709551616) : -1074 ≤ numE k ∧ numE k ≤ 3100 := by unfold numE; split <;> omega
def bitsD (neg : Bool) (k : Nat) : Option Dy := if 9218868437227405312 ≤ k then none else formD neg (numM k) (numE k)

theorem r3Number_spec (k : Nat) (w : World) (hk : k < 18446744073709551616) : Ret Tryz.prog 307 [.agg [.int .i64 53, .int .i64 (-1074), .int .u64 9218868437227405312].toArray, .int .u64 (k : Int)] w fun u w' => (∃ r, u = .tuple [r, .int .i64 (numE k)].toArray ∧ NU w' r (wd (numM k))) ∧ Chg [] w w' := by
 have hch : Chg [] w w := Chg.refl _ _;refine zE2 Tryz.func307 rfl ?_;refine Sr fun _ kh1 => ?_;refine zBh rfl rfl rfl hch fun b2 wm2 hb2 hcm2 hge2 hgehch2 hch => ?_;refine za rfl (za rfl (zz (kh1 (Sr fun _ kh3 => zf rfl (zl hb2 rfl rfl ?_)))));refine WL.ev (Ev.subIn rfl rfl (by omega)) rfl ?_;rw [show (53 : Int) - 1 = ((52 : Nat) : Int) by omega];refine WL.ev (Ev.convIn rfl rfl (in_u64 (by omega))) rfl ?_;refine WL.ev (Ev.shlU64 (a := 1) (b := 52) rfl rfl) rfl ?_;rw [show 1 * 2 ^ 52 % 18446744073709551616 = 4503599627370496 from rfl];refine za rfl (zz (kh3 (Sr fun _ kh5 => zm rfl (zm rfl ?_))));refine WL.ev (Ev.quoU (b := 4503599627370496) rfl rfl (by omega) (in_u64 (by omega)).2) rfl ?_;refine za rfl (zz (kh5 (Sr fun _ kh7 => zm rfl (zm rfl ?_))));refine WL.ev (Ev.remU (b := 4503599627370496) rfl rfl (by omega)) rfl ?_;refine za rfl (zz (kh7 (zc fun _ kh9 => Sr fun _ kh10 => zm rfl (zq rfl rfl (zz (kh10 ?_))))));refine zy rfl ?_ ?_<;>intro hc1<;>try simp only [qs] at hc1
 ·have hz : k / 4503599627370496 = 0 := by omega
  have e1 : numM k = k % 4503599627370496 := by unfold numM; rw [if_pos hz]
  have e2 : numE k = -1074 := by unfold numE; rw [if_pos hz]
  refine zc fun _ kh12 => ?_;refine CW.regionHC 6 rfl hmix fun kR13 kr13 hS hdr => ?_;have hch := hch.ta hdr;have hb2 := hb2.k0 hdr;have hb2_r := hb2;refine wh 0 rfl hS (fun _ _ => Ev.move rfl) (wh 2 rfl hS (fun _ _ => Ev.fieldAddr rfl) (wh 3 rfl hS (fun _ hw' => Ev.load rfl rfl ((hb2_r.keep0 hw').at_ rfl)) ?_));refine WH.oneCall 1 rfl (by kernel_rfl) hasF245 rfl rfl (r2Of_spec (k % 4503599627370496) _ (by omega)) fun v w1 h' => ?_;obtain ⟨hN, hC, hF⟩ := h';rw [← e1] at hN;have hch := hch.ta hC;have hS := hS.trans hC;refine ⟨hS, ?_⟩;refine wh 4 rfl hS (fun _ _ => Ev.assign rfl) (wh 5 rfl hS (fun _ _ => Ev.assign rfl) ?_);refine WH.done (by kernel_rfl) (kr13 _ _ _ ?_);refine kh12 ?_;refine zr (zr2 rfl rfl rfl ?_);rw [e2];exact ⟨⟨_, rfl, hN⟩, hch⟩
 ·have hz : k / 4503599627370496 ≠ 0 := by omega
  have e1 : numM k = 4503599627370496 + k % 4503599627370496 := by unfold numM; rw [if_neg hz]
  have e2 : numE k = -1074 + ((k / 4503599627370496 : Nat) : Int) - 1 := by unfold numE; rw [if_neg hz]
  refine zkk ?_;refine kh9 (zc fun _ kh14 => ?_);refine CW.regionHC 12 rfl hmix fun kR15 kr15 hS hdr => ?_;have hch := hch.ta hdr;have hb2 := hb2.k0 hdr;have hb2_r := hb2;refine wh 0 rfl hS (fun _ _ => Ev.move rfl) (wh 1 rfl hS (fun _ _ => Ev.move rfl) (wh 2 rfl hS (fun _ _ => Ev.add64In rfl rfl (by omega)) (wh 4 rfl hS (fun _ _ => Ev.fieldAddr rfl) (wh 5 rfl hS (fun _ hw' => Ev.load rfl rfl ((hb2_r.keep0 hw').at_ rfl)) (wh 6 rfl hS (fun _ _ => Ev.move rfl) (wh 7 rfl hS (fun _ _ => Ev.convIn rfl rfl (in_i64 (by omega))) (wh 8 rfl hS (fun _ _ => Ev.addIn rfl rfl (by omega)) (wh 9 rfl hS (fun _ _ => Ev.subIn rfl rfl (by omega)) ?_))))))));refine WH.oneCall 3 rfl (by kernel_rfl) hasF245 rfl rfl (r2Of_spec (4503599627370496 + k % 4503599627370496) _ (by omega)) fun v w2 h' => ?_;obtain ⟨hN, hC, hF⟩ := h';rw [← e1] at hN;have hch := hch.ta hC;have hS := hS.trans hC;refine ⟨hS, ?_⟩;refine wh 10 rfl hS (fun _ _ => Ev.assign rfl) (wh 11 rfl hS (fun _ _ => Ev.assign rfl) ?_);refine WH.done (by kernel_rfl) (kr15 _ _ _ ?_);refine kh14 ?_;refine zr (zr2 rfl rfl rfl ?_);rw [e2];exact ⟨⟨_, rfl, hN⟩, hch⟩

theorem r3Bits_spec (neg : Bool) (k : Nat) (w : World) (hk : k < 18446744073709551616) : Ret Tryz.prog 249 [.agg [.int .i64 53, .int .i64 (-1074), .int .u64 9218868437227405312].toArray, .bool neg, .int .u64 (k : Int)] w fun u w' => FO w' u (bitsD neg k) ∧ Chg [] w w' := by
 have hch : Chg [] w w := Chg.refl _ _;have hnm := numM_lt k;have hne := numE_le k hk;refine zE3 Tryz.func249 rfl ?_;refine Sr fun _ kh1 => ?_;refine zBh rfl rfl rfl hch fun b3 wm3 hb3 hcm3 hge3 hgehch3 hch => ?_;refine zAh rfl rfl hch fun b6 wm6 hb6 hcm6 hge6 hgehch6 hch => ?_;have hneb36 := zdd hb3.lt hge6;have hb3 := hb3.k0 hcm6;refine za rfl (zz (kh1 (zc fun _ kh3 => Sr fun _ kh4 => zm rfl (zf rfl (zl hb3 rfl rfl ?_)))));refine WL.ev (Ev.geq rfl rfl) rfl ?_;refine zz (kh4 ?_);refine zy rfl ?_ ?_<;>intro hc1<;>try simp only [qs] at hc1
 ·have hge : 9218868437227405312 ≤ k := by omega
  refine Sr fun _ kh6 => ?_;refine WL.ev (Ev.build (vs := _) (cs := [_, _, _]) rfl rfl) rfl ?_;refine zss rfl rfl ao hb6 rfl fun ws12 hb6_ hcs12 => ?_;(try simp only [Sx.splice, qt] at hb6_);have hch := hch.s1 hcs12;have hb6 := hb6_;refine za rfl (zz (kh6 ?_));refine zr (bodyA.retR2 rfl (RVal.cell rfl (hb6.varA rfl rfl)) (RVal.tmp rfl) ?_);unfold bitsD; rw [if_pos hge];exact ⟨.inr ⟨rfl, rfl⟩, hch⟩
 ·have hlt : ¬ 9218868437227405312 ≤ k := by omega
  refine zkk ?_;refine kh3 (Sr fun _ kh8 => zg hb3 rfl (zm rfl ?_));refine WL.call hasF307 rfl rfl (r3Number_spec k _ hk) fun v w1 h' => ?_;obtain ⟨⟨r, rfl, hN⟩, hC⟩ := h';have hch := hch.ta hC;have hb6 := hb6.k0 hC;refine zm rfl (zx rfl rfl (zx rfl rfl (za rfl (za rfl (zz (kh8 (Sr fun _ kh10 => zm rfl (zm rfl (zm rfl ?_)))))))));refine WL.call hasF263 rfl rfl (r3Form_spec neg r _ (numE k) _ hN (by omega) (by have := wd_length_le (n := numM k) (k := 2); have := this.2 (by omega); omega)) fun v w2 h' => ?_;obtain ⟨hD1, hC1⟩ := h';have hch := hch.ta hC1;have hb6 := hb6.k0 hC1;rcases hD1 with ⟨r1, d1, hd1, rfl, hNr1⟩ | ⟨hd1, rfl⟩
  ·rw [val_wd] at hd1;refine zx rfl rfl (zx rfl rfl ?_);refine zss rfl rfl ao hb6 rfl fun ws13 hb6_ hcs13 => ?_;(try simp only [Sx.splice, qt] at hb6_);have hch := hch.s1 hcs13;have hNr1 := hNr1.keepBK hb6 hcs13 an;have hb6 := hb6_;refine za rfl (zz (kh10 ?_));refine zr (bodyA.retR2 rfl (RVal.cell rfl (hb6.varA rfl rfl)) (RVal.tmp rfl) ?_);unfold bitsD; rw [if_neg hlt];exact ⟨.inl ⟨r1, d1, hd1, rfl, hNr1⟩, hch⟩
  ·rw [val_wd] at hd1;refine zx rfl rfl (zx rfl rfl ?_);refine zss rfl rfl ao hb6 rfl fun ws14 hb6_ hcs14 => ?_;(try simp only [Sx.splice, qt] at hb6_);have hch := hch.s1 hcs14;have hb6 := hb6_;refine za rfl (zz (kh10 ?_));refine zr (bodyA.retR2 rfl (RVal.cell rfl (hb6.varA rfl rfl)) (RVal.tmp rfl) ?_);unfold bitsD; rw [if_neg hlt];exact ⟨.inr ⟨hd1, rfl⟩, hch⟩

/-- A number's value, or that it has none. -/
def OF (w : World) (u : Value) (x : Option Dy) : Prop := (∃ r d, x = some d ∧ u = .tuple [.agg [.bool d.neg, r, .int .i64 d.e].toArray, .int .i64 0].toArray ∧ NU w r (wd d.m)) ∨ (x = none ∧ u = .tuple [.agg [.bool false, .slice none 0 0, .int .i64 0].toArray, .int .i64 30].toArray)
def floatD (x : Nat) : Option Dy := bitsD (decide (x / 9223372036854775808 = 1)) (x % 9223372036854775808)

theorem r3Of_spec (x : Nat) (w : World) (hx : x < 18446744073709551616) : Ret Tryz.prog 163 [.float .f64 x] w fun u w' => OF w' u (floatD x) ∧ Chg [] w w' := by
 have hch : Chg [] w w := Chg.refl _ _;refine zE1 Tryz.func163 rfl ?_;refine Sr fun _ kh1 => ?_;refine zAh rfl rfl hch fun b2 wm2 hb2 hcm2 hge2 hgehch2 hch => ?_;refine za rfl (zz (kh1 (Sr fun _ kh3 => zm rfl ?_)));refine WL.ev (Ev.ext rfl (ext63 _ _)) rfl ?_;refine za rfl (zz (kh3 (Sr fun _ kh5 => ?_)));refine WL.call hasF248 rfl rfl (r3Of64_spec _) fun v w1 h' => ?_;obtain ⟨rfl, hC⟩ := h';have hch := hch.ta hC;have hb2 := hb2.k0 hC;refine zm rfl ?_;refine WL.ev (Ev.shrU (b := 63) rfl rfl (by simp only [IntKind.bits]; omega)) rfl ?_;rw [show x / 2 ^ 63 = x / 9223372036854775808 from rfl];refine zq rfl rfl ?_;rw [show decide (((x / 9223372036854775808 : Nat) : Int) = 1) = decide (x / 9223372036854775808 = 1) from decide_eq_decide.2 (by omega)];refine zm rfl ?_;refine WL.ev (Ev.shlU64 (b := 1) rfl rfl) rfl ?_;refine WL.ev (Ev.shrU (b := 1) rfl rfl (by simp only [IntKind.bits]; omega)) rfl ?_;rw [show x * 2 ^ 1 % 18446744073709551616 / 2 ^ 1 = x % 9223372036854775808 by omega];refine WL.call hasF249 rfl rfl (r3Bits_spec _ (x % 9223372036854775808) _ (by omega)) fun v w2 h' => ?_;obtain ⟨hD1, hC1⟩ := h';have hch := hch.ta hC1;have hb2 := hb2.k0 hC1;rcases hD1 with ⟨r1, d1, hd1, rfl, hNr1⟩ | ⟨hd1, rfl⟩
 ·refine zm rfl (zx rfl rfl (zx rfl rfl ?_));refine zAh rfl rfl hch fun b5 wm5 hb5 hcm5 hge5 hgehch5 hch => ?_;have hNr1 := hNr1.keep0 hcm5;have hneb25 := zdd hb2.lt hge5;have hb2 := hb2.k0 hcm5;refine zss rfl rfl ao hb5 rfl fun ws15 hb5_ hcs15 => ?_;(try simp only [Sx.splice, qt] at hb5_);have hch := hch.s1 hcs15;have hb2 := hb2.kq hcs15;have hNr1 := hNr1.keepBK hb5 hcs15 an;have hb5 := hb5_;refine za rfl (zz (kh5 (zc fun _ kh7 => Sr fun _ kh8 => zm rfl ?_)));refine WL.ev (Ev.not rfl) rfl ?_;refine zz (kh8 ?_);refine CW.condF rfl ?_;refine zkk ?_;refine kh7 (Sr fun _ kh10 => zg hb5 rfl ?_);refine zss rfl rfl ao hb2 rfl fun ws16 hb2_ hcs16 => ?_;(try simp only [Sx.splice, qt] at hb2_);have hch := hch.s1 hcs16;have hNr1 := hNr1.keepBK hb2 hcs16 an;have hb2 := hb2_;refine za rfl (zz (kh10 ?_));refine zr (bodyA.retR2 rfl (RVal.cell rfl (hb2.varA rfl rfl)) (RVal.tmp rfl) ?_);exact ⟨.inl ⟨r1, d1, hd1, rfl, hNr1⟩, hch⟩
 ·refine zm rfl (zx rfl rfl (zx rfl rfl ?_));refine zAh rfl rfl hch fun b5 wm5 hb5 hcm5 hge5 hgehch5 hch => ?_;have hneb25 := zdd hb2.lt hge5;have hb2 := hb2.k0 hcm5;refine zss rfl rfl ao hb5 rfl fun ws17 hb5_ hcs17 => ?_;have hch := hch.s1 hcs17;have hb2 := hb2.kq hcs17;refine za rfl (zz (kh5 (zc fun _ kh12 => Sr fun _ kh13 => zm rfl ?_)));refine WL.ev (Ev.not rfl) rfl ?_;refine zz (kh13 ?_);refine CW.condT rfl ?_;refine Sr fun _ kh15 => ?_;refine WL.ev (Ev.build (vs := _) (cs := [_, _, _]) rfl rfl) rfl ?_;refine zss rfl rfl ao hb2 rfl fun ws18 hb2_ hcs18 => ?_;(try simp only [Sx.splice, qt] at hb2_);have hch := hch.s1 hcs18;have hb2 := hb2_;refine za rfl (zz (kh15 ?_));refine zr (bodyA.retR2 rfl (RVal.cell rfl (hb2.varA rfl rfl)) (RVal.tmp rfl) ?_);exact ⟨.inr ⟨hd1, rfl⟩, hch⟩

theorem r3Int_spec (n : Int) (w : World) (hn : -9223372036854775808 ≤ n ∧ n ≤ 9223372036854775807) : Ret Tryz.prog 172 [.int .i64 n] w fun u w' => DY w' u (intD n) ∧ Chg [] w w' := by
 have hch : Chg [] w w := Chg.refl _ _;refine zE1 Tryz.func172 rfl ?_;refine Sr fun _ kh1 => ?_;refine zAh rfl rfl hch fun b2 wm2 hb2 hcm2 hge2 hgehch2 hch => ?_;refine zz (kh1 (Sr fun _ kh3 => zm rfl ?_));refine WL.ev (Ev.conv rfl rfl) rfl ?_;rw [wrap_u64i];refine za rfl (zz (kh3 (zc fun _ kh5 => Sr fun _ kh6 => zm rfl ?_)));refine WL.ev (Ev.lss rfl rfl) rfl ?_;refine zz (kh6 ?_);refine zy rfl ?_ ?_<;>intro hc1<;>try simp only [qs] at hc1
 ·refine zR fun _ kr8 => ?_
  refine zm rfl ?_;refine WL.ev (Ev.sub rfl rfl) rfl ?_;rw [wrap_u64i, show (0 - n % 18446744073709551616) % 18446744073709551616 = ((n.natAbs : Nat) : Int) by omega];have hab : n.natAbs = n.natAbs := rfl;refine za rfl ?_;refine WL.nil (kr8 _ _ _ (kh5 ?_));refine Sr fun _ kh9 => zm rfl ?_;refine WL.ev (Ev.lss rfl rfl) rfl ?_;refine zm rfl ?_;refine WL.call hasF245 rfl rfl (r2Of_spec n.natAbs _ (by omega)) fun v w1 h' => ?_;obtain ⟨hN16, hC16, hF16⟩ := h';have hch := hch.ta hC16;have hb2 := hb2.k0 hC16;refine WL.call hasF263 rfl rfl (r3Form_spec _ _ _ 0 _ hN16 (by omega) (by have := wd_length_le (n := n.natAbs) (k := 2); have := this.2 (by omega); omega)) fun v w2 h' => ?_;obtain ⟨hD, hC17⟩ := h';rw [val_wd, hab, intD_eq (by omega)] at hD;rcases hD with ⟨r, d, hd, rfl, hNr⟩ | ⟨hd, rfl⟩
  rotate_left
  · cases hd
  cases hd;have hch := hch.ta hC17;have hb2 := hb2.k0 hC17;refine zm rfl (zx rfl rfl (zx rfl rfl ?_));refine zAh rfl rfl hch fun b4 wm4 hb4 hcm4 hge4 hgehch4 hch => ?_;have hNr := hNr.keep0 hcm4;have hneb24 := zdd hb2.lt hge4;have hb2 := hb2.k0 hcm4;refine zss rfl rfl ao hb4 rfl fun ws19 hb4_ hcs19 => ?_;(try simp only [Sx.splice, qt] at hb4_);have hch := hch.s1 hcs19;have hb2 := hb2.kq hcs19;have hNr := hNr.keepBK hb4 hcs19 an;have hb4 := hb4_;refine za rfl (zz (kh9 (Sr fun _ kh11 => zg hb4 rfl ?_)));refine zss rfl rfl ao hb2 rfl fun ws20 hb2_ hcs20 => ?_;(try simp only [Sx.splice, qt] at hb2_);have hch := hch.s1 hcs20;have hNr := hNr.keepBK hb2 hcs20 an;have hb2 := hb2_;refine zz (kh11 ?_);refine zr (bodyA.retR1 rfl (RVal.cell rfl (hb2.varA rfl rfl)) ?_);exact ⟨⟨⟨_, rfl, hNr⟩⟩, hch⟩
 ·rw [show n % 18446744073709551616 = ((n.natAbs : Nat) : Int) by omega]
  have hab : n.natAbs = n.natAbs := rfl;refine zkk ?_;refine kh5 (Sr fun _ kh13 => zm rfl ?_);refine WL.ev (Ev.lss rfl rfl) rfl ?_;refine zm rfl ?_;refine WL.call hasF245 rfl rfl (r2Of_spec n.natAbs _ (by omega)) fun v w3 h' => ?_;obtain ⟨hN16, hC16, hF16⟩ := h';have hch := hch.ta hC16;have hb2 := hb2.k0 hC16;refine WL.call hasF263 rfl rfl (r3Form_spec _ _ _ 0 _ hN16 (by omega) (by have := wd_length_le (n := n.natAbs) (k := 2); have := this.2 (by omega); omega)) fun v w4 h' => ?_;obtain ⟨hD, hC17⟩ := h';rw [val_wd, hab, intD_eq (by omega)] at hD;rcases hD with ⟨r, d, hd, rfl, hNr⟩ | ⟨hd, rfl⟩
  rotate_left
  · cases hd
  cases hd;have hch := hch.ta hC17;have hb2 := hb2.k0 hC17;refine zm rfl (zx rfl rfl (zx rfl rfl ?_));refine zAh rfl rfl hch fun b4 wm4 hb4 hcm4 hge4 hgehch4 hch => ?_;have hNr := hNr.keep0 hcm4;have hneb24 := zdd hb2.lt hge4;have hb2 := hb2.k0 hcm4;refine zss rfl rfl ao hb4 rfl fun ws21 hb4_ hcs21 => ?_;(try simp only [Sx.splice, qt] at hb4_);have hch := hch.s1 hcs21;have hb2 := hb2.kq hcs21;have hNr := hNr.keepBK hb4 hcs21 an;have hb4 := hb4_;refine za rfl (zz (kh13 (Sr fun _ kh15 => zg hb4 rfl ?_)));refine zss rfl rfl ao hb2 rfl fun ws22 hb2_ hcs22 => ?_;(try simp only [Sx.splice, qt] at hb2_);have hch := hch.s1 hcs22;have hNr := hNr.keepBK hb2 hcs22 an;have hb2 := hb2_;refine zz (kh15 ?_);refine zr (bodyA.retR1 rfl (RVal.cell rfl (hb2.varA rfl rfl)) ?_);exact ⟨⟨⟨_, rfl, hNr⟩⟩, hch⟩

theorem r3Sign_spec (na : Bool) (va : Value) (la : List Nat) (ea : Int) (w : World) (ha : NU w va la) (hla : la.length ≤ 35184372088832) : Ret Tryz.prog 243 [.agg [.bool na, va, .int .i64 ea].toArray] w fun u w' => u = .int .i64 (sgD na (val la)) ∧ Chg [] w w' := by
 have hch : Chg [] w w := Chg.refl _ _;have hoa := ha.one;have hbz := bl_eq_zero (n := val la);refine zE1 Tryz.func243 rfl ?_;refine Sr fun _ kh1 => ?_;refine zBh rfl rfl rfl hch fun b1 wm1 hb1 hcm1 hge1 hgehch1 hch => ?_;have ha := ha.keep0 hcm1;refine za rfl (zz (kh1 (zc fun _ kh3 => Sr fun _ kh4 => zf rfl (zl hb1 rfl rfl ?_))));refine WL.call hasF304 rfl rfl (r2Len_spec _ _ _ ha hla) fun v w1 h' => ?_;obtain ⟨rfl, rfl⟩ := h';refine zq rfl rfl (zz (kh4 ?_));refine zy rfl ?_ ?_<;>intro hc1<;>try simp only [qs] at hc1
 ·refine Sr fun _ kh6 => za rfl (zz (kh6 ?_));refine zr (zr1 rfl rfl ?_);unfold sgD; rw [if_pos (by omega)];exact ⟨rfl, hch⟩
 ·refine zkk ?_
  refine kh3 (zc fun _ kh8 => Sr fun _ kh9 => zf rfl (zl hb1 rfl rfl (zz (kh9 ?_))));refine zy rfl ?_ ?_<;>intro hc2<;>try simp only [qs] at hc2
  ·have hcc := hc2
   refine Sr fun _ kh11 => za rfl (zz (kh11 ?_));refine zr (zr1 rfl rfl ?_);unfold sgD; rw [if_neg (show ¬ val la = 0 by omega), if_pos hcc];exact ⟨rfl, hch⟩
  ·have hcc := hc2
   refine zkk ?_;refine kh8 (Sr fun _ kh13 => za rfl (zz (kh13 ?_)));refine zr (zr1 rfl rfl ?_);unfold sgD; rw [if_neg (show ¬ val la = 0 by omega), if_neg (by rw [hcc]; decide)];exact ⟨rfl, hch⟩

end

/- Reference of layer 3: Add, Mul, Against. No condition. -/
section
open Go Sx Wd

theorem mulD_form {x y : Dy} (hx : x.ok) (hy : y.ok) : formD (x.neg != y.neg) (x.m * y.m) (x.e + y.e) = mulD x y := by
  unfold mulD
  split
  · rename_i h
    have h0 : x.m * y.m ≠ 0 := fun e => by rw [e, wd_zero] at h; simp at h
    have h1 : x.m ≠ 0 := fun e => h0 (by rw [e, Nat.zero_mul])
    have h2 : y.m ≠ 0 := fun e => h0 (by rw [e, Nat.mul_zero])
    have ho : x.m * y.m % 2 = 1 := by rw [Nat.mul_mod, hx.odd h1, hy.odd h2]
    have ht := tz_odd ho
    exact formD_none h0 (by rw [ht, Nat.pow_zero, Nat.div_one]; omega)
  · rfl
theorem up_len_gen {m k a b : Nat} (hm : (wd m).length ≤ a) (hk : k ≤ 32 * b) : (wd (m * 2 ^ k)).length ≤ a + b := by
  refine wd_length_le.2 ?_
  have h1 := wd_length_le.1 hm
  have h2 : 2 ^ k ≤ 2 ^ (32 * b) := Nat.pow_le_pow_right (by decide) hk
  refine Nat.lt_of_lt_of_le (Nat.mul_lt_mul_of_lt_of_le h1 h2 (Nat.two_pow_pos _)) ?_
  rw [← Nat.pow_add, ← Nat.mul_add]
  exact Nat.le_refl _
theorem sum_len_gen {p q a : Nat} (hp : (wd p).length ≤ a) (hq : (wd q).length ≤ a) : (wd (p + q)).length ≤ a + 1 := by
  refine wd_length_le.2 ?_
  have h1 := wd_length_le.1 hp
  have h2 := wd_length_le.1 hq
  rw [two32]
  generalize 2 ^ (32 * a) = z at *
  omega
theorem mul_len {x y a b : Nat} (hx : (wd x).length ≤ a) (hy : (wd y).length ≤ b) : (wd (x * y)).length ≤ a + b := by
  refine wd_length_le.2 ?_
  rw [Nat.mul_add, Nat.pow_add]
  exact Nat.mul_lt_mul_of_lt_of_lt (wd_length_le.1 hx) (wd_length_le.1 hy)
theorem up_len {m k : Nat} (hm : (wd m).length ≤ 8192) (hk : k ≤ 4194304) : (wd (m * 2 ^ k)).length ≤ 139264 := up_len_gen hm (b := 131072) (by omega)
theorem sum_len {p q : Nat} (hp : (wd p).length ≤ 8192) (hq : (wd q).length ≤ 8192) : (wd (p + q)).length ≤ 8193 := sum_len_gen hp hq

theorem r3Add_spec (na nb : Bool) (va vb : Value) (la lb : List Nat) (ea eb : Int) (w : World) (ha : NU w va la) (hb : NU w vb lb) (hea : -9223372036854775808 ≤ ea ∧ ea ≤ 9223372036854775807) (heb : -9223372036854775808 ≤ eb ∧ eb ≤ 9223372036854775807) (hla : la.length ≤ 34359738368) (hlb : lb.length ≤ 34359738368) : Ret Tryz.prog 165 [.agg [.bool na, va, .int .i64 ea].toArray, .agg [.bool nb, vb, .int .i64 eb].toArray] w fun u w' => DR w' u (both2 addD (formD na (val la) ea) (formD nb (val lb) eb)) ∧ Chg [] w w' := by
 have hch : Chg [] w w := Chg.refl _ _;have hoa := ha.one;have hob := hb.one;refine zE2 Tryz.func165 rfl ?_;refine Sr fun _ kh1 => ?_;refine zBh rfl rfl rfl hch fun b2 wm2 hb2 hcm2 hge2 hgehch2 hch => ?_;have ha := ha.keep0 hcm2;have hb := hb.keep0 hcm2;refine zBh rfl rfl rfl hch fun b3 wm3 hb3 hcm3 hge3 hgehch3 hch => ?_;have ha := ha.keep0 hcm3;have hb := hb.keep0 hcm3;have hneb23 := zdd hb2.lt hge3;have hb2 := hb2.k0 hcm3;refine zAh rfl rfl hch fun b4 wm4 hb4 hcm4 hge4 hgehch4 hch => ?_;have ha := ha.keep0 hcm4;have hb := hb.keep0 hcm4;have hneb24 := zdd hb2.lt hge4;have hb2 := hb2.k0 hcm4;have hneb34 := zdd hb3.lt hge4;have hb3 := hb3.k0 hcm4;refine za rfl (zz (kh1 (Sr fun _ kh3 => zg hb2 rfl ?_)));refine WL.call hasF240 rfl rfl (r3Made_spec na va la ea _ ha hea hla) fun v w1 h' => ?_;obtain ⟨hD1, hC1⟩ := h';have hch := hch.ta hC1;have hb3 := hb3.k0 hC1;have hb4 := hb4.k0 hC1;have hb := hb.keep0 hC1;rcases hD1 with ⟨r1, d1, hd1, rfl, hNr1⟩ | ⟨hd1, rfl⟩
 ·have hok1 := formD_ok hd1;have he1 := hok1.e;have hl1 := hok1.len;obtain ⟨⟨a1, c1, rfl, hcap1, hr1⟩, hW1, hl1⟩ := hNr1;have hNr1 : NU _ (.slice a1 (wd d1.m).length c1) (wd d1.m) := NU.of_row hr1 hW1 hl1 rfl hcap1;have hw1 : (wd d1.m).length = 0 ↔ d1.m = 0 := by rw [List.length_eq_zero_iff, wd_eq_nil]
  refine zm rfl (zx rfl rfl (zx rfl rfl ?_));refine zAh rfl rfl hch fun b6 wm6 hb6 hcm6 hge6 hgehch6 hch => ?_;have hb := hb.keep0 hcm6;have hNr1 := hNr1.keep0 hcm6;have hneb36 := zdd hb3.lt hge6;have hb3 := hb3.k0 hcm6;have hneb46 := zdd hb4.lt hge6;have hb4 := hb4.k0 hcm6;refine zss rfl rfl ao hb6 rfl fun ws27 hb6_ hcs27 => ?_;(try simp only [Sx.splice, qt] at hb6_);have hch := hch.s1 hcs27;have hb3 := hb3.kq hcs27;have hb4 := hb4.kq hcs27;have hb := hb.keepBK hb6 hcs27 an;have hNr1 := hNr1.keepBK hb6 hcs27 an;have hb6 := hb6_;refine za rfl (zz (kh3 (Sr fun _ kh5 => zg hb3 rfl ?_)));refine WL.call hasF240 rfl rfl (r3Made_spec nb vb lb eb _ hb heb hlb) fun v w2 h' => ?_;obtain ⟨hD2, hC2⟩ := h';have hch := hch.ta hC2;have hb4 := hb4.k0 hC2;have hb6 := hb6.k0 hC2;have hNr1 := hNr1.keep0 hC2;rcases hD2 with ⟨r2, d2, hd2, rfl, hNr2⟩ | ⟨hd2, rfl⟩
  ·have hok2 := formD_ok hd2;have he2 := hok2.e;have hl2 := hok2.len;obtain ⟨⟨a2, c2, rfl, hcap2, hr2⟩, hW2, hl2⟩ := hNr2;have hNr2 : NU _ (.slice a2 (wd d2.m).length c2) (wd d2.m) := NU.of_row hr2 hW2 hl2 rfl hcap2;have hw2 : (wd d2.m).length = 0 ↔ d2.m = 0 := by rw [List.length_eq_zero_iff, wd_eq_nil]
   refine zm rfl (zx rfl rfl (zx rfl rfl ?_));refine zAh rfl rfl hch fun b8 wm8 hb8 hcm8 hge8 hgehch8 hch => ?_;have hNr1 := hNr1.keep0 hcm8;have hNr2 := hNr2.keep0 hcm8;have hneb48 := zdd hb4.lt hge8;have hb4 := hb4.k0 hcm8;have hneb68 := zdd hb6.lt hge8;have hb6 := hb6.k0 hcm8;refine zss rfl rfl ao hb8 rfl fun ws28 hb8_ hcs28 => ?_;(try simp only [Sx.splice, qt] at hb8_);have hch := hch.s1 hcs28;have hb4 := hb4.kq hcs28;have hb6 := hb6.kq hcs28;have hNr1 := hNr1.keepBK hb8 hcs28 an;have hNr2 := hNr2.keepBK hb8 hcs28 an;have hb8 := hb8_;refine za rfl (zz (kh5 (zc fun _ kh7 => Sr fun _ kh8 => zm rfl ?_)));refine WL.ev (Ev.not rfl) rfl ?_;refine zm rfl (zw rfl (zm rfl (zw rfl ?_)));refine WL.ev (Ev.not rfl) rfl ?_;refine ze rfl rfl (zz (kh8 ?_));refine CW.condF rfl ?_;refine zkk ?_;refine kh7 (zc fun _ kh10 => Sr fun _ kh11 => zf rfl (zl hb6 rfl rfl (zn rfl (zq rfl rfl (zz (kh11 ?_))))));refine zy rfl ?_ ?_<;>intro hc1<;>try simp only [qs] at hc1
   ·have h01 : d1.m = 0 := by omega
    refine Sr fun _ kh13 => zg hb8 rfl ?_;refine zss rfl rfl ao hb4 rfl fun ws29 hb4_ hcs29 => ?_;(try simp only [Sx.splice, qt] at hb4_);have hch := hch.s1 hcs29;have hNr2 := hNr2.keepBK hb4 hcs29 an;have hb4 := hb4_;refine za rfl (zz (kh13 ?_));refine zr (bodyA.retR2 rfl (RVal.cell rfl (hb4.varA rfl rfl)) (RVal.tmp rfl) ?_);rw [hd1, hd2];exact ⟨.inl ⟨_, d2, by show addD d1 d2 = _; unfold addD; rw [if_pos h01], rfl, hNr2⟩, hch⟩
   ·have h01 : d1.m ≠ 0 := by omega
    refine zkk ?_;refine kh10 (zc fun _ kh15 => Sr fun _ kh16 => zf rfl (zl hb8 rfl rfl (zn rfl (zq rfl rfl (zz (kh16 ?_))))));refine zy rfl ?_ ?_<;>intro hc2<;>try simp only [qs] at hc2
    ·have h02 : d2.m = 0 := by omega
     refine Sr fun _ kh18 => zg hb6 rfl ?_;refine zss rfl rfl ao hb4 rfl fun ws30 hb4_ hcs30 => ?_;(try simp only [Sx.splice, qt] at hb4_);have hch := hch.s1 hcs30;have hNr1 := hNr1.keepBK hb4 hcs30 an;have hb4 := hb4_;refine za rfl (zz (kh18 ?_));refine zr (bodyA.retR2 rfl (RVal.cell rfl (hb4.varA rfl rfl)) (RVal.tmp rfl) ?_);rw [hd1, hd2];exact ⟨.inl ⟨_, d1, by show addD d1 d2 = _; unfold addD; rw [if_neg h01, if_pos h02], rfl, hNr1⟩, hch⟩
    ·have h02 : d2.m ≠ 0 := by omega
     obtain ⟨k1, hk1⟩ : ∃ k : Nat, (k : Int) = d1.e - min d1.e d2.e := ⟨(d1.e - min d1.e d2.e).toNat, by omega⟩;obtain ⟨k2, hk2⟩ : ∃ k : Nat, (k : Int) = d2.e - min d1.e d2.e := ⟨(d2.e - min d1.e d2.e).toNat, by omega⟩;refine zkk ?_;refine kh15 (Sr fun _ kh20 => zf rfl (zl hb6 rfl rfl (zf rfl (zl hb8 rfl rfl ?_))));refine WL.ev (Ev.minI rfl rfl) rfl ?_;refine za rfl (zz (kh20 (Sr fun _ kh22 => zf rfl (zl hb6 rfl rfl (zf rfl (zl hb6 rfl rfl (zm rfl ?_)))))));refine WL.ev (Ev.subIn rfl rfl (by omega)) rfl ?_;rw [← hk1];refine WL.call hasF252 rfl rfl (r2MovedUp_spec _ _ _ hNr1 k1 (by omega) (by omega)) fun v w3 h' => ?_;obtain ⟨hNp, hC, hFrp⟩ := h';rw [val_wd] at hNp;obtain ⟨p, hp⟩ : ∃ p, p = d1.m * 2 ^ k1 := ⟨_, rfl⟩;rw [← hp] at hNp;have hlp := up_len hok1.len (k := k1) (by omega);rw [← hp] at hlp;have hNpd := hNp;obtain ⟨⟨ap, cp, rfl, hcapp, hrp⟩, hWp, hllp⟩ := hNpd;have hch := hch.ta hC;have hb4 := hb4.k0 hC;have hb6 := hb6.k0 hC;have hb8 := hb8.k0 hC;have hNr2 := hNr2.keep0 hC;refine za rfl (zz (kh22 (Sr fun _ kh24 => zf rfl (zl hb8 rfl rfl (zf rfl (zl hb8 rfl rfl (zm rfl ?_)))))));refine WL.ev (Ev.subIn rfl rfl (by omega)) rfl ?_;rw [← hk2];refine WL.call hasF252 rfl rfl (r2MovedUp_spec _ _ _ hNr2 k2 (by omega) (by omega)) fun v w4 h' => ?_;obtain ⟨hNq, hC, hFrq⟩ := h';rw [val_wd] at hNq;obtain ⟨q, hq⟩ : ∃ q, q = d2.m * 2 ^ k2 := ⟨_, rfl⟩;rw [← hq] at hNq;have hlq := up_len hok2.len (k := k2) (by omega);rw [← hq] at hlq;have hNqd := hNq;obtain ⟨⟨aq, cq, rfl, hcapq, hrq⟩, hWq, hllq⟩ := hNqd;have hch := hch.ta hC;have hb4 := hb4.k0 hC;have hb6 := hb6.k0 hC;have hb8 := hb8.k0 hC;have hNp := hNp.keep0 hC;refine za rfl (zz (kh24 (zc fun _ kh26 => ?_)));refine CW.seqM 66 (decide (8192 < (wd p).length ∨ 8192 < (wd q).length)) ?_ ?_
     ·refine zR fun _ kr27 => ?_;refine zm rfl (zn rfl ?_);refine WL.ev (Ev.gtr rfl rfl) rfl ?_;refine zm rfl ?_;refine zb ?_ ?_<;>intro hg3<;>try simp only [qs] at hg3
      ·refine zv rfl (zv rfl (zv rfl (zt rfl rfl ?_)));refine WL.nil (kr27 _ _ _ ?_);refine ⟨rfl, rfl, Subs.consB rfl ?_ ?_⟩
       ·first | (simp; omega) | (simp_all; done) | (refine decide_eq_decide.2 ?_; omega)
       ·exact SMg
      ·refine zw rfl (zm rfl (zw rfl (zn rfl (zw rfl ?_))));refine WL.ev (Ev.gtr rfl rfl) rfl ?_
       refine ze rfl rfl ?_;refine WL.nil (kr27 _ _ _ ?_);refine ⟨rfl, rfl, Subs.consB rfl ?_ ?_⟩
       ·first | (simp; omega) | (simp_all; done) | (refine decide_eq_decide.2 ?_; omega)
       ·exact SMg
     ·have hpq1 : p = d1.m * 2 ^ (d1.e - min d1.e d2.e).toNat := by rw [hp, ← hk1]; rfl
      have hpq2 : q = d2.m * 2 ^ (d2.e - min d1.e d2.e).toNat := by rw [hq, ← hk2]; rfl
      refine zy rfl ?_ ?_<;>intro hc4<;>try simp only [qs] at hc4
      ·have hlong := hc4
       refine Sr fun _ kh28 => ?_;refine WL.ev (Ev.build (vs := _) (cs := [_, _, _]) rfl rfl) rfl ?_;refine zss rfl rfl ao hb4 rfl fun ws31 hb4_ hcs31 => ?_;(try simp only [Sx.splice, qt] at hb4_);have hch := hch.s1 hcs31;have hb4 := hb4_;refine za rfl (zz (kh28 ?_));refine zr (bodyA.retR2 rfl (RVal.cell rfl (hb4.varA rfl rfl)) (RVal.tmp rfl) ?_);rw [hd1, hd2];exact ⟨.inr ⟨by show addD d1 d2 = _; rw [addD_eq h01 h02 hpq1 hpq2, if_pos hlong], rfl⟩, hch⟩
      ·have hnl : ¬ (8192 < (wd p).length ∨ 8192 < (wd q).length) := hc4
       have hsl := sum_len (p := p) (q := q) (by omega) (by omega);refine zkk ?_;refine kh26 (zc fun _ kh30 => Sr fun _ kh31 => zf rfl (zl hb6 rfl rfl (zf rfl (zl hb8 rfl rfl ?_))));refine WL.ev (Ev.eql_bool rfl rfl) rfl ?_;refine zz (kh31 ?_);refine zy rfl ?_ ?_<;>intro hc5<;>try simp only [qs] at hc5
       ·have hsg : d1.neg = d2.neg := by simpa using hc5
        refine zc fun _ kh33 => ?_;refine CW.regionKC 9 11 rfl hmix fun kR34 kr34 hS hdr => ?_;have hch := hch.ta hdr;have hb4 := hb4.k0 hdr;have hb6 := hb6.k0 hdr;have hNp := hNp.keep0 hdr;have hNq := hNq.keep0 hdr;have hb6_r := hb6;refine wk 0 rfl hS (fun _ _ => Ev.fieldAddr rfl) (wk 1 rfl hS (fun _ hw' => Ev.load rfl rfl ((hb6_r.keep0 hw').at_ rfl)) (wk 2 rfl hS (fun _ _ => Ev.move rfl) (wk 3 rfl hS (fun _ _ => Ev.move rfl) (wk 5 rfl hS (fun _ _ => Ev.move rfl) ?_))));refine WK.oneCall 4 rfl (by kernel_rfl) hasF253 rfl rfl (r2Plus_spec _ _ _ _ _ hNp hNq (by omega) (by omega)) fun v w5 h' => ?_;obtain ⟨hNs, hC, hFs⟩ := h';rw [val_wd, val_wd] at hNs;have hch := hch.ta hC;have hb4 := hb4.k0 hC;have hS := hS.trans hC;refine ⟨hS, ?_⟩;refine WK.oneCall 6 rfl (by kernel_rfl) hasF250 rfl rfl (r3told_spec _ _ _ _ _ hNs (by omega) (by omega)) fun v w6 h' => ?_;obtain ⟨hD3, hC3⟩ := h';rw [val_wd] at hD3;have hch := hch.ta hC3;have hb4 := hb4.k0 hC3;have hS := hS.trans hC3;refine ⟨hS, ?_⟩;rcases hD3 with ⟨r, d, hd, rfl, hNr⟩ | ⟨hd, rfl⟩
        ·refine wk 7 rfl hS (fun _ _ => Ev.extract rfl rfl) (wk 8 rfl hS (fun _ _ => Ev.extract rfl rfl) ?_);refine WK.storeB 9 rfl (by kernel_rfl) (by kernel_rfl) rfl rfl rfl ao hb4 (by simp) rfl fun ws32 hb4_ hcs32 => ?_;(try simp only [Sx.splice, qt] at hb4_);have hch := hch.s1 hcs32;have hNr := hNr.keepBK hb4 hcs32 an;have hb4 := hb4_;refine WK.after 10 rfl (by kernel_rfl) (by kernel_rfl) (Ev.assign rfl) rfl ?_;refine WK.done (by kernel_rfl) (kr34 _ _ _ ?_);refine kh33 ?_;refine zr (bodyA.retR2 rfl (RVal.cell rfl (hb4.varA rfl rfl)) (RVal.tmp rfl) ?_);rw [hd1, hd2];exact ⟨.inl ⟨r, d, by show addD d1 d2 = _; rw [addD_eq h01 h02 hpq1 hpq2, if_neg hnl, if_pos hsg]; exact hd, rfl, hNr⟩, hch⟩
        ·refine wk 7 rfl hS (fun _ _ => Ev.extract rfl rfl) (wk 8 rfl hS (fun _ _ => Ev.extract rfl rfl) ?_);refine WK.storeB 9 rfl (by kernel_rfl) (by kernel_rfl) rfl rfl rfl ao hb4 (by simp) rfl fun ws33 hb4_ hcs33 => ?_;(try simp only [Sx.splice, qt] at hb4_);have hch := hch.s1 hcs33;have hb4 := hb4_;refine WK.after 10 rfl (by kernel_rfl) (by kernel_rfl) (Ev.assign rfl) rfl ?_;refine WK.done (by kernel_rfl) (kr34 _ _ _ ?_);refine kh33 ?_;refine zr (bodyA.retR2 rfl (RVal.cell rfl (hb4.varA rfl rfl)) (RVal.tmp rfl) ?_);rw [hd1, hd2];exact ⟨.inr ⟨by show addD d1 d2 = _; rw [addD_eq h01 h02 hpq1 hpq2, if_neg hnl, if_pos hsg]; exact hd, rfl⟩, hch⟩
       ·have hsg : d1.neg ≠ d2.neg := by simpa using hc5
        refine zkk ?_;refine kh30 (zc fun _ kh35 => Sr fun _ kh36 => zm rfl (zm rfl ?_));refine WL.call hasF254 rfl rfl (r2Cmp_spec _ _ _ _ _ hNp hNq) fun v w7 h' => ?_;obtain ⟨rfl, hC⟩ := h';rw [val_wd, val_wd];have hch := hch.ta hC;have hb4 := hb4.k0 hC;have hb6 := hb6.k0 hC;have hb8 := hb8.k0 hC;have hNp := hNp.keep0 hC;have hNq := hNq.keep0 hC;refine WL.ev (Ev.geq rfl rfl) rfl ?_;refine zz (kh36 ?_);refine zy rfl ?_ ?_<;>intro hc6<;>try simp only [qs] at hc6
        ·have hge : q ≤ p := sgn_ge.1 hc6
         have hml := wd_length_mono (Nat.sub_le p q);refine zc fun _ kh38 => ?_;refine CW.regionKC 9 11 rfl hmix fun kR39 kr39 hS hdr => ?_;have hch := hch.ta hdr;have hb4 := hb4.k0 hdr;have hb6 := hb6.k0 hdr;have hNp := hNp.keep0 hdr;have hNq := hNq.keep0 hdr;have hb6_r := hb6;refine wk 0 rfl hS (fun _ _ => Ev.fieldAddr rfl) (wk 1 rfl hS (fun _ hw' => Ev.load rfl rfl ((hb6_r.keep0 hw').at_ rfl)) (wk 2 rfl hS (fun _ _ => Ev.move rfl) (wk 3 rfl hS (fun _ _ => Ev.move rfl) (wk 5 rfl hS (fun _ _ => Ev.move rfl) ?_))));refine WK.oneCall 4 rfl (by kernel_rfl) hasF255 rfl rfl (r2Minus_spec _ _ _ _ _ hNp hNq (by omega) (by rw [val_wd, val_wd]; exact hge)) fun v w8 h' => ?_;obtain ⟨hNs, hC, hFs⟩ := h';rw [val_wd, val_wd] at hNs;have hch := hch.ta hC;have hb4 := hb4.k0 hC;have hS := hS.trans hC;refine ⟨hS, ?_⟩;refine WK.oneCall 6 rfl (by kernel_rfl) hasF250 rfl rfl (r3told_spec _ _ _ _ _ hNs (by omega) (by omega)) fun v w9 h' => ?_;obtain ⟨hD3, hC3⟩ := h';rw [val_wd] at hD3;have hch := hch.ta hC3;have hb4 := hb4.k0 hC3;have hS := hS.trans hC3;refine ⟨hS, ?_⟩;rcases hD3 with ⟨r, d, hd, rfl, hNr⟩ | ⟨hd, rfl⟩
         ·refine wk 7 rfl hS (fun _ _ => Ev.extract rfl rfl) (wk 8 rfl hS (fun _ _ => Ev.extract rfl rfl) ?_);refine WK.storeB 9 rfl (by kernel_rfl) (by kernel_rfl) rfl rfl rfl ao hb4 (by simp) rfl fun ws34 hb4_ hcs34 => ?_;(try simp only [Sx.splice, qt] at hb4_);have hch := hch.s1 hcs34;have hNr := hNr.keepBK hb4 hcs34 an;have hb4 := hb4_;refine WK.after 10 rfl (by kernel_rfl) (by kernel_rfl) (Ev.assign rfl) rfl ?_;refine WK.done (by kernel_rfl) (kr39 _ _ _ ?_);refine kh38 ?_;refine zr (bodyA.retR2 rfl (RVal.cell rfl (hb4.varA rfl rfl)) (RVal.tmp rfl) ?_);rw [hd1, hd2];exact ⟨.inl ⟨r, d, by show addD d1 d2 = _; rw [addD_eq h01 h02 hpq1 hpq2, if_neg hnl, if_neg hsg, if_neg (show ¬ p < q by omega)]; exact hd, rfl, hNr⟩, hch⟩
         ·refine wk 7 rfl hS (fun _ _ => Ev.extract rfl rfl) (wk 8 rfl hS (fun _ _ => Ev.extract rfl rfl) ?_);refine WK.storeB 9 rfl (by kernel_rfl) (by kernel_rfl) rfl rfl rfl ao hb4 (by simp) rfl fun ws35 hb4_ hcs35 => ?_;(try simp only [Sx.splice, qt] at hb4_);have hch := hch.s1 hcs35;have hb4 := hb4_;refine WK.after 10 rfl (by kernel_rfl) (by kernel_rfl) (Ev.assign rfl) rfl ?_;refine WK.done (by kernel_rfl) (kr39 _ _ _ ?_);refine kh38 ?_;refine zr (bodyA.retR2 rfl (RVal.cell rfl (hb4.varA rfl rfl)) (RVal.tmp rfl) ?_);rw [hd1, hd2];exact ⟨.inr ⟨by show addD d1 d2 = _; rw [addD_eq h01 h02 hpq1 hpq2, if_neg hnl, if_neg hsg, if_neg (show ¬ p < q by omega)]; exact hd, rfl⟩, hch⟩
        ·have hlt : p < q := Nat.lt_of_not_le fun hn => by have := sgn_ge.2 hn; omega
         have hml := wd_length_mono (Nat.sub_le q p);refine zkk ?_;refine kh35 (zc fun _ kh40 => ?_);refine CW.regionKC 9 11 rfl hmix fun kR41 kr41 hS hdr => ?_;have hch := hch.ta hdr;have hb4 := hb4.k0 hdr;have hb8 := hb8.k0 hdr;have hNp := hNp.keep0 hdr;have hNq := hNq.keep0 hdr;have hb8_r := hb8;refine wk 0 rfl hS (fun _ _ => Ev.fieldAddr rfl) (wk 1 rfl hS (fun _ hw' => Ev.load rfl rfl ((hb8_r.keep0 hw').at_ rfl)) (wk 2 rfl hS (fun _ _ => Ev.move rfl) (wk 3 rfl hS (fun _ _ => Ev.move rfl) (wk 5 rfl hS (fun _ _ => Ev.move rfl) ?_))));refine WK.oneCall 4 rfl (by kernel_rfl) hasF255 rfl rfl (r2Minus_spec _ _ _ _ _ hNq hNp (by omega) (by rw [val_wd, val_wd]; omega)) fun v w10 h' => ?_;obtain ⟨hNs, hC, hFs⟩ := h';rw [val_wd, val_wd] at hNs;have hch := hch.ta hC;have hb4 := hb4.k0 hC;have hS := hS.trans hC;refine ⟨hS, ?_⟩;refine WK.oneCall 6 rfl (by kernel_rfl) hasF250 rfl rfl (r3told_spec _ _ _ _ _ hNs (by omega) (by omega)) fun v w11 h' => ?_;obtain ⟨hD3, hC3⟩ := h';rw [val_wd] at hD3;have hch := hch.ta hC3;have hb4 := hb4.k0 hC3;have hS := hS.trans hC3;refine ⟨hS, ?_⟩;rcases hD3 with ⟨r, d, hd, rfl, hNr⟩ | ⟨hd, rfl⟩
         ·refine wk 7 rfl hS (fun _ _ => Ev.extract rfl rfl) (wk 8 rfl hS (fun _ _ => Ev.extract rfl rfl) ?_);refine WK.storeB 9 rfl (by kernel_rfl) (by kernel_rfl) rfl rfl rfl ao hb4 (by simp) rfl fun ws36 hb4_ hcs36 => ?_;(try simp only [Sx.splice, qt] at hb4_);have hch := hch.s1 hcs36;have hNr := hNr.keepBK hb4 hcs36 an;have hb4 := hb4_;refine WK.after 10 rfl (by kernel_rfl) (by kernel_rfl) (Ev.assign rfl) rfl ?_;refine WK.done (by kernel_rfl) (kr41 _ _ _ ?_);refine kh40 ?_;refine zr (bodyA.retR2 rfl (RVal.cell rfl (hb4.varA rfl rfl)) (RVal.tmp rfl) ?_);rw [hd1, hd2];exact ⟨.inl ⟨r, d, by show addD d1 d2 = _; rw [addD_eq h01 h02 hpq1 hpq2, if_neg hnl, if_neg hsg, if_pos hlt]; exact hd, rfl, hNr⟩, hch⟩
         ·refine wk 7 rfl hS (fun _ _ => Ev.extract rfl rfl) (wk 8 rfl hS (fun _ _ => Ev.extract rfl rfl) ?_);refine WK.storeB 9 rfl (by kernel_rfl) (by kernel_rfl) rfl rfl rfl ao hb4 (by simp) rfl fun ws37 hb4_ hcs37 => ?_;(try simp only [Sx.splice, qt] at hb4_);have hch := hch.s1 hcs37;have hb4 := hb4_;refine WK.after 10 rfl (by kernel_rfl) (by kernel_rfl) (Ev.assign rfl) rfl ?_;refine WK.done (by kernel_rfl) (kr41 _ _ _ ?_);refine kh40 ?_;refine zr (bodyA.retR2 rfl (RVal.cell rfl (hb4.varA rfl rfl)) (RVal.tmp rfl) ?_);rw [hd1, hd2];exact ⟨.inr ⟨by show addD d1 d2 = _; rw [addD_eq h01 h02 hpq1 hpq2, if_neg hnl, if_neg hsg, if_pos hlt]; exact hd, rfl⟩, hch⟩
  ·refine zm rfl (zx rfl rfl (zx rfl rfl ?_));refine zAh rfl rfl hch fun b8 wm8 hb8 hcm8 hge8 hgehch8 hch => ?_;have hneb48 := zdd hb4.lt hge8;have hb4 := hb4.k0 hcm8;refine zss rfl rfl ao hb8 rfl fun ws38 hb8_ hcs38 => ?_;have hch := hch.s1 hcs38;have hb4 := hb4.kq hcs38;refine za rfl (zz (kh5 (zc fun _ kh42 => Sr fun _ kh43 => zm rfl ?_)));refine WL.ev (Ev.not rfl) rfl ?_;refine zm rfl (zw rfl (zm rfl (zw rfl ?_)));refine WL.ev (Ev.not rfl) rfl ?_;refine ze rfl rfl (zz (kh43 ?_));refine CW.condT rfl ?_;refine Sr fun _ kh45 => ?_;refine WL.ev (Ev.build (vs := _) (cs := [_, _, _]) rfl rfl) rfl ?_;refine zss rfl rfl ao hb4 rfl fun ws39 hb4_ hcs39 => ?_;(try simp only [Sx.splice, qt] at hb4_);have hch := hch.s1 hcs39;have hb4 := hb4_;refine za rfl (zz (kh45 ?_));refine zr (bodyA.retR2 rfl (RVal.cell rfl (hb4.varA rfl rfl)) (RVal.tmp rfl) ?_);rw [hd2, both2_none_right];exact ⟨.inr ⟨rfl, rfl⟩, hch⟩
 ·refine zm rfl (zx rfl rfl (zx rfl rfl ?_));refine zAh rfl rfl hch fun b6 wm6 hb6 hcm6 hge6 hgehch6 hch => ?_;have hb := hb.keep0 hcm6;have hneb36 := zdd hb3.lt hge6;have hb3 := hb3.k0 hcm6;have hneb46 := zdd hb4.lt hge6;have hb4 := hb4.k0 hcm6;refine zss rfl rfl ao hb6 rfl fun ws40 hb6_ hcs40 => ?_;have hch := hch.s1 hcs40;have hb3 := hb3.kq hcs40;have hb4 := hb4.kq hcs40;have hb := hb.keepBK hb6 hcs40 an;refine za rfl (zz (kh3 (Sr fun _ kh47 => zg hb3 rfl ?_)));refine WL.call hasF240 rfl rfl (r3Made_spec nb vb lb eb _ hb heb hlb) fun v w12 h' => ?_;obtain ⟨hD2, hC2⟩ := h';have hch := hch.ta hC2;have hb4 := hb4.k0 hC2;rcases hD2 with ⟨r2, d2, hd2, rfl, hNr2⟩ | ⟨hd2, rfl⟩
  ·refine zm rfl (zx rfl rfl (zx rfl rfl ?_));refine zAh rfl rfl hch fun b8 wm8 hb8 hcm8 hge8 hgehch8 hch => ?_;have hneb48 := zdd hb4.lt hge8;have hb4 := hb4.k0 hcm8;refine zss rfl rfl ao hb8 rfl fun ws41 hb8_ hcs41 => ?_;have hch := hch.s1 hcs41;have hb4 := hb4.kq hcs41;refine za rfl (zz (kh47 (zc fun _ kh49 => Sr fun _ kh50 => zm rfl ?_)));refine WL.ev (Ev.not rfl) rfl ?_;refine zm rfl (zv rfl (zv rfl (zt rfl rfl (zz (kh50 ?_)))));refine CW.condT rfl ?_;refine Sr fun _ kh52 => ?_;refine WL.ev (Ev.build (vs := _) (cs := [_, _, _]) rfl rfl) rfl ?_;refine zss rfl rfl ao hb4 rfl fun ws42 hb4_ hcs42 => ?_;(try simp only [Sx.splice, qt] at hb4_);have hch := hch.s1 hcs42;have hb4 := hb4_;refine za rfl (zz (kh52 ?_));refine zr (bodyA.retR2 rfl (RVal.cell rfl (hb4.varA rfl rfl)) (RVal.tmp rfl) ?_);rw [hd1, both2_none_left];exact ⟨.inr ⟨rfl, rfl⟩, hch⟩
  ·refine zm rfl (zx rfl rfl (zx rfl rfl ?_));refine zAh rfl rfl hch fun b8 wm8 hb8 hcm8 hge8 hgehch8 hch => ?_;have hneb48 := zdd hb4.lt hge8;have hb4 := hb4.k0 hcm8;refine zss rfl rfl ao hb8 rfl fun ws43 hb8_ hcs43 => ?_;have hch := hch.s1 hcs43;have hb4 := hb4.kq hcs43;refine za rfl (zz (kh47 (zc fun _ kh54 => Sr fun _ kh55 => zm rfl ?_)));refine WL.ev (Ev.not rfl) rfl ?_;refine zm rfl (zv rfl (zv rfl (zt rfl rfl (zz (kh55 ?_)))));refine CW.condT rfl ?_;refine Sr fun _ kh57 => ?_;refine WL.ev (Ev.build (vs := _) (cs := [_, _, _]) rfl rfl) rfl ?_;refine zss rfl rfl ao hb4 rfl fun ws44 hb4_ hcs44 => ?_;(try simp only [Sx.splice, qt] at hb4_);have hch := hch.s1 hcs44;have hb4 := hb4_;refine za rfl (zz (kh57 ?_));refine zr (bodyA.retR2 rfl (RVal.cell rfl (hb4.varA rfl rfl)) (RVal.tmp rfl) ?_);rw [hd1, both2_none_left];exact ⟨.inr ⟨rfl, rfl⟩, hch⟩

theorem r3Mul_spec (na nb : Bool) (va vb : Value) (la lb : List Nat) (ea eb : Int) (w : World) (ha : NU w va la) (hb : NU w vb lb) (hea : -9223372036854775808 ≤ ea ∧ ea ≤ 9223372036854775807) (heb : -9223372036854775808 ≤ eb ∧ eb ≤ 9223372036854775807) (hla : la.length ≤ 34359738368) (hlb : lb.length ≤ 34359738368) : Ret Tryz.prog 164 [.agg [.bool na, va, .int .i64 ea].toArray, .agg [.bool nb, vb, .int .i64 eb].toArray] w fun u w' => DR w' u (both2 mulD (formD na (val la) ea) (formD nb (val lb) eb)) ∧ Chg [] w w' := by
 have hch : Chg [] w w := Chg.refl _ _;have hoa := ha.one;have hob := hb.one;refine zE2 Tryz.func164 rfl ?_;refine Sr fun _ kh1 => ?_;refine zBh rfl rfl rfl hch fun b2 wm2 hb2 hcm2 hge2 hgehch2 hch => ?_;have ha := ha.keep0 hcm2;have hb := hb.keep0 hcm2;refine zBh rfl rfl rfl hch fun b3 wm3 hb3 hcm3 hge3 hgehch3 hch => ?_;have ha := ha.keep0 hcm3;have hb := hb.keep0 hcm3;have hneb23 := zdd hb2.lt hge3;have hb2 := hb2.k0 hcm3;refine zAh rfl rfl hch fun b4 wm4 hb4 hcm4 hge4 hgehch4 hch => ?_;have ha := ha.keep0 hcm4;have hb := hb.keep0 hcm4;have hneb24 := zdd hb2.lt hge4;have hb2 := hb2.k0 hcm4;have hneb34 := zdd hb3.lt hge4;have hb3 := hb3.k0 hcm4;refine za rfl (zz (kh1 (Sr fun _ kh3 => zg hb2 rfl ?_)));refine WL.call hasF240 rfl rfl (r3Made_spec na va la ea _ ha hea hla) fun v w1 h' => ?_;obtain ⟨hD1, hC1⟩ := h';have hch := hch.ta hC1;have hb3 := hb3.k0 hC1;have hb4 := hb4.k0 hC1;have hb := hb.keep0 hC1;rcases hD1 with ⟨r1, d1, hd1, rfl, hNr1⟩ | ⟨hd1, rfl⟩
 ·have hok1 := formD_ok hd1;have he1 := hok1.e;have hl1 := hok1.len;obtain ⟨⟨a1, c1, rfl, hcap1, hr1⟩, hW1, hl1⟩ := hNr1;have hNr1 : NU _ (.slice a1 (wd d1.m).length c1) (wd d1.m) := NU.of_row hr1 hW1 hl1 rfl hcap1;have hw1 : (wd d1.m).length = 0 ↔ d1.m = 0 := by rw [List.length_eq_zero_iff, wd_eq_nil]
  refine zm rfl (zx rfl rfl (zx rfl rfl ?_));refine zAh rfl rfl hch fun b6 wm6 hb6 hcm6 hge6 hgehch6 hch => ?_;have hb := hb.keep0 hcm6;have hNr1 := hNr1.keep0 hcm6;have hneb36 := zdd hb3.lt hge6;have hb3 := hb3.k0 hcm6;have hneb46 := zdd hb4.lt hge6;have hb4 := hb4.k0 hcm6;refine zss rfl rfl ao hb6 rfl fun ws45 hb6_ hcs45 => ?_;(try simp only [Sx.splice, qt] at hb6_);have hch := hch.s1 hcs45;have hb3 := hb3.kq hcs45;have hb4 := hb4.kq hcs45;have hb := hb.keepBK hb6 hcs45 an;have hNr1 := hNr1.keepBK hb6 hcs45 an;have hb6 := hb6_;refine za rfl (zz (kh3 (Sr fun _ kh5 => zg hb3 rfl ?_)));refine WL.call hasF240 rfl rfl (r3Made_spec nb vb lb eb _ hb heb hlb) fun v w2 h' => ?_;obtain ⟨hD2, hC2⟩ := h';have hch := hch.ta hC2;have hb4 := hb4.k0 hC2;have hb6 := hb6.k0 hC2;have hNr1 := hNr1.keep0 hC2;rcases hD2 with ⟨r2, d2, hd2, rfl, hNr2⟩ | ⟨hd2, rfl⟩
  ·have hok2 := formD_ok hd2;have he2 := hok2.e;have hl2 := hok2.len;obtain ⟨⟨a2, c2, rfl, hcap2, hr2⟩, hW2, hl2⟩ := hNr2;have hNr2 : NU _ (.slice a2 (wd d2.m).length c2) (wd d2.m) := NU.of_row hr2 hW2 hl2 rfl hcap2;have hw2 : (wd d2.m).length = 0 ↔ d2.m = 0 := by rw [List.length_eq_zero_iff, wd_eq_nil]
   refine zm rfl (zx rfl rfl (zx rfl rfl ?_));refine zAh rfl rfl hch fun b8 wm8 hb8 hcm8 hge8 hgehch8 hch => ?_;have hNr1 := hNr1.keep0 hcm8;have hNr2 := hNr2.keep0 hcm8;have hneb48 := zdd hb4.lt hge8;have hb4 := hb4.k0 hcm8;have hneb68 := zdd hb6.lt hge8;have hb6 := hb6.k0 hcm8;refine zss rfl rfl ao hb8 rfl fun ws46 hb8_ hcs46 => ?_;(try simp only [Sx.splice, qt] at hb8_);have hch := hch.s1 hcs46;have hb4 := hb4.kq hcs46;have hb6 := hb6.kq hcs46;have hNr1 := hNr1.keepBK hb8 hcs46 an;have hNr2 := hNr2.keepBK hb8 hcs46 an;have hb8 := hb8_;refine za rfl (zz (kh5 (zc fun _ kh7 => Sr fun _ kh8 => zm rfl ?_)));refine WL.ev (Ev.not rfl) rfl ?_;refine zm rfl (zw rfl (zm rfl (zw rfl ?_)));refine WL.ev (Ev.not rfl) rfl ?_;refine ze rfl rfl (zz (kh8 ?_));refine CW.condF rfl ?_;refine zkk ?_;refine kh7 (zc fun _ kh10 => ?_);refine CW.regionKC 18 20 rfl hmix fun kR11 kr11 hS hdr => ?_;have hch := hch.ta hdr;have hb4 := hb4.k0 hdr;have hb6 := hb6.k0 hdr;have hb8 := hb8.k0 hdr;have hNr1 := hNr1.keep0 hdr;have hNr2 := hNr2.keep0 hdr;have hb6_r := hb6;have hb8_r := hb8;refine wk 0 rfl hS (fun _ _ => Ev.fieldAddr rfl) (wk 1 rfl hS (fun _ hw' => Ev.load rfl rfl ((hb6_r.keep0 hw').at_ rfl)) (wk 2 rfl hS (fun _ _ => Ev.fieldAddr rfl) (wk 3 rfl hS (fun _ hw' => Ev.load rfl rfl ((hb8_r.keep0 hw').at_ rfl)) (wk 4 rfl hS (fun _ _ => Ev.neq_bool rfl rfl) (wk 5 rfl hS (fun _ _ => Ev.fieldAddr rfl) (wk 6 rfl hS (fun _ hw' => Ev.load rfl rfl ((hb6_r.keep0 hw').at_ rfl)) (wk 7 rfl hS (fun _ _ => Ev.fieldAddr rfl) (wk 8 rfl hS (fun _ hw' => Ev.load rfl rfl ((hb8_r.keep0 hw').at_ rfl)) (wk 10 rfl hS (fun _ _ => Ev.fieldAddr rfl) (wk 11 rfl hS (fun _ hw' => Ev.load rfl rfl ((hb6_r.keep0 hw').at_ rfl)) (wk 12 rfl hS (fun _ _ => Ev.fieldAddr rfl) (wk 13 rfl hS (fun _ hw' => Ev.load rfl rfl ((hb8_r.keep0 hw').at_ rfl)) (wk 14 rfl hS (fun _ _ => Ev.addIn rfl rfl (by omega)) ?_)))))))))))));refine WK.oneCall 9 rfl (by kernel_rfl) hasF251 rfl rfl (r2Times_spec _ _ _ _ _ hNr1 hNr2 (by omega)) fun v w3 h' => ?_;obtain ⟨hNs, hC, hFs⟩ := h';rw [val_wd, val_wd] at hNs;have hml : (wd (d1.m * d2.m)).length ≤ 16384 := mul_len hok1.len hok2.len;have hch := hch.ta hC;have hb4 := hb4.k0 hC;have hS := hS.trans hC;refine ⟨hS, ?_⟩;refine WK.oneCall 15 rfl (by kernel_rfl) hasF250 rfl rfl (r3told_spec _ _ _ _ _ hNs (by omega) (by omega)) fun v w4 h' => ?_
   obtain ⟨hD3, hC3⟩ := h';rw [val_wd, mulD_form hok1 hok2] at hD3;have hch := hch.ta hC3;have hb4 := hb4.k0 hC3;have hS := hS.trans hC3;refine ⟨hS, ?_⟩;rcases hD3 with ⟨r, d, hd, rfl, hNr⟩ | ⟨hd, rfl⟩
   ·refine wk 16 rfl hS (fun _ _ => Ev.extract rfl rfl) (wk 17 rfl hS (fun _ _ => Ev.extract rfl rfl) ?_);refine WK.storeB 18 rfl (by kernel_rfl) (by kernel_rfl) rfl rfl rfl ao hb4 (by simp) rfl fun ws47 hb4_ hcs47 => ?_;(try simp only [Sx.splice, qt] at hb4_);have hch := hch.s1 hcs47;have hNr := hNr.keepBK hb4 hcs47 an;have hb4 := hb4_;refine WK.after 19 rfl (by kernel_rfl) (by kernel_rfl) (Ev.assign rfl) rfl ?_;refine WK.done (by kernel_rfl) (kr11 _ _ _ ?_);refine kh10 ?_;refine zr (bodyA.retR2 rfl (RVal.cell rfl (hb4.varA rfl rfl)) (RVal.tmp rfl) ?_);rw [hd1, hd2];exact ⟨.inl ⟨r, d, by exact hd, rfl, hNr⟩, hch⟩
   ·refine wk 16 rfl hS (fun _ _ => Ev.extract rfl rfl) (wk 17 rfl hS (fun _ _ => Ev.extract rfl rfl) ?_);refine WK.storeB 18 rfl (by kernel_rfl) (by kernel_rfl) rfl rfl rfl ao hb4 (by simp) rfl fun ws48 hb4_ hcs48 => ?_;(try simp only [Sx.splice, qt] at hb4_);have hch := hch.s1 hcs48;have hb4 := hb4_;refine WK.after 19 rfl (by kernel_rfl) (by kernel_rfl) (Ev.assign rfl) rfl ?_;refine WK.done (by kernel_rfl) (kr11 _ _ _ ?_);refine kh10 ?_;refine zr (bodyA.retR2 rfl (RVal.cell rfl (hb4.varA rfl rfl)) (RVal.tmp rfl) ?_);rw [hd1, hd2];exact ⟨.inr ⟨by exact hd, rfl⟩, hch⟩
  ·refine zm rfl (zx rfl rfl (zx rfl rfl ?_));refine zAh rfl rfl hch fun b8 wm8 hb8 hcm8 hge8 hgehch8 hch => ?_;have hneb48 := zdd hb4.lt hge8;have hb4 := hb4.k0 hcm8;refine zss rfl rfl ao hb8 rfl fun ws49 hb8_ hcs49 => ?_;have hch := hch.s1 hcs49;have hb4 := hb4.kq hcs49;refine za rfl (zz (kh5 (zc fun _ kh12 => Sr fun _ kh13 => zm rfl ?_)));refine WL.ev (Ev.not rfl) rfl ?_;refine zm rfl (zw rfl (zm rfl (zw rfl ?_)));refine WL.ev (Ev.not rfl) rfl ?_;refine ze rfl rfl (zz (kh13 ?_));refine CW.condT rfl ?_;refine Sr fun _ kh15 => ?_;refine WL.ev (Ev.build (vs := _) (cs := [_, _, _]) rfl rfl) rfl ?_;refine zss rfl rfl ao hb4 rfl fun ws50 hb4_ hcs50 => ?_;(try simp only [Sx.splice, qt] at hb4_);have hch := hch.s1 hcs50;have hb4 := hb4_;refine za rfl (zz (kh15 ?_));refine zr (bodyA.retR2 rfl (RVal.cell rfl (hb4.varA rfl rfl)) (RVal.tmp rfl) ?_);rw [hd2, both2_none_right];exact ⟨.inr ⟨rfl, rfl⟩, hch⟩
 ·refine zm rfl (zx rfl rfl (zx rfl rfl ?_));refine zAh rfl rfl hch fun b6 wm6 hb6 hcm6 hge6 hgehch6 hch => ?_;have hb := hb.keep0 hcm6;have hneb36 := zdd hb3.lt hge6;have hb3 := hb3.k0 hcm6;have hneb46 := zdd hb4.lt hge6;have hb4 := hb4.k0 hcm6;refine zss rfl rfl ao hb6 rfl fun ws51 hb6_ hcs51 => ?_;have hch := hch.s1 hcs51;have hb3 := hb3.kq hcs51;have hb4 := hb4.kq hcs51;have hb := hb.keepBK hb6 hcs51 an;refine za rfl (zz (kh3 (Sr fun _ kh17 => zg hb3 rfl ?_)));refine WL.call hasF240 rfl rfl (r3Made_spec nb vb lb eb _ hb heb hlb) fun v w5 h' => ?_;obtain ⟨hD2, hC2⟩ := h';have hch := hch.ta hC2;have hb4 := hb4.k0 hC2;rcases hD2 with ⟨r2, d2, hd2, rfl, hNr2⟩ | ⟨hd2, rfl⟩
  ·refine zm rfl (zx rfl rfl (zx rfl rfl ?_));refine zAh rfl rfl hch fun b8 wm8 hb8 hcm8 hge8 hgehch8 hch => ?_;have hneb48 := zdd hb4.lt hge8;have hb4 := hb4.k0 hcm8;refine zss rfl rfl ao hb8 rfl fun ws52 hb8_ hcs52 => ?_;have hch := hch.s1 hcs52;have hb4 := hb4.kq hcs52;refine za rfl (zz (kh17 (zc fun _ kh19 => Sr fun _ kh20 => zm rfl ?_)));refine WL.ev (Ev.not rfl) rfl ?_;refine zm rfl (zv rfl (zv rfl (zt rfl rfl (zz (kh20 ?_)))));refine CW.condT rfl ?_;refine Sr fun _ kh22 => ?_;refine WL.ev (Ev.build (vs := _) (cs := [_, _, _]) rfl rfl) rfl ?_;refine zss rfl rfl ao hb4 rfl fun ws53 hb4_ hcs53 => ?_;(try simp only [Sx.splice, qt] at hb4_);have hch := hch.s1 hcs53;have hb4 := hb4_;refine za rfl (zz (kh22 ?_));refine zr (bodyA.retR2 rfl (RVal.cell rfl (hb4.varA rfl rfl)) (RVal.tmp rfl) ?_);rw [hd1, both2_none_left];exact ⟨.inr ⟨rfl, rfl⟩, hch⟩
  ·refine zm rfl (zx rfl rfl (zx rfl rfl ?_));refine zAh rfl rfl hch fun b8 wm8 hb8 hcm8 hge8 hgehch8 hch => ?_;have hneb48 := zdd hb4.lt hge8;have hb4 := hb4.k0 hcm8;refine zss rfl rfl ao hb8 rfl fun ws54 hb8_ hcs54 => ?_;have hch := hch.s1 hcs54;have hb4 := hb4.kq hcs54;refine za rfl (zz (kh17 (zc fun _ kh24 => Sr fun _ kh25 => zm rfl ?_)));refine WL.ev (Ev.not rfl) rfl ?_;refine zm rfl (zv rfl (zv rfl (zt rfl rfl (zz (kh25 ?_)))));refine CW.condT rfl ?_;refine Sr fun _ kh27 => ?_;refine WL.ev (Ev.build (vs := _) (cs := [_, _, _]) rfl rfl) rfl ?_;refine zss rfl rfl ao hb4 rfl fun ws55 hb4_ hcs55 => ?_;(try simp only [Sx.splice, qt] at hb4_);have hch := hch.s1 hcs55;have hb4 := hb4_;refine za rfl (zz (kh27 ?_));refine zr (bodyA.retR2 rfl (RVal.cell rfl (hb4.varA rfl rfl)) (RVal.tmp rfl) ?_);rw [hd1, both2_none_left];exact ⟨.inr ⟨rfl, rfl⟩, hch⟩

end

/- Reference of layer 3: Against. No condition. -/
section
open Go Sx Wd

theorem sgn_neg (a b : Nat) : -(sgn a b) = sgn b a := by unfold sgn; split <;> split <;> (try split) <;> omega
theorem sgn_pos {a b : Nat} (h : b < a) : sgn a b = 1 := by unfold sgn; rw [if_neg (by omega), if_pos h]
theorem sgn_lt {a b : Nat} (h : a < b) : sgn a b = -1 := by unfold sgn; rw [if_pos h]
theorem sgn_mulr {a b : Nat} (h : a = 0 ∨ b = 0) (d : Nat) : sgn (a * 2 ^ d) b = sgn a b := by
  have hp := Nat.two_pow_pos d
  rcases h with h | h
  · rw [h, Nat.zero_mul]
  · subst h
    rcases Nat.eq_zero_or_pos a with h1 | h1
    · rw [h1, Nat.zero_mul]
    · rw [sgn_pos h1, sgn_pos (Nat.mul_pos h1 hp)]
theorem bl_up_gt {m n d : Nat} (hm : m ≠ 0) (h : bl n < bl m + d) : n < m * 2 ^ d := by
  rw [← bl_mul_pow hm] at h
  exact Nat.lt_of_lt_of_le (bl_lt n) (lt_bl.1 h)
theorem bl_up_lt {m n d : Nat} (hm : m ≠ 0) (h : bl m + d < bl n) : m * 2 ^ d < n := by
  rw [← bl_mul_pow hm] at h
  exact Nat.lt_of_lt_of_le (bl_lt _) (lt_bl.1 h)
/-- How m times 2^e stands to n times 2^f. -/
def cmpX (m : Nat) (e : Int) (n : Nat) (f : Int) : Int := sgn (m * 2 ^ (e - min e f).toNat) (n * 2 ^ (f - min e f).toNat)

theorem r3AgainstGe_spec (va vb : Value) (la lb : List Nat) (e f : Int) (w : World) (ha : NU w va la) (hb : NU w vb lb) (he : -9223372036854775808 ≤ e ∧ e ≤ 9223372036854775807) (hf : -9223372036854775808 ≤ f ∧ f ≤ 9223372036854775807) (hla : la.length ≤ 17179869184) (hlb : lb.length ≤ 17179869184) (hfe : f ≤ e) : Ret Tryz.prog 306 [va, .int .i64 e, vb, .int .i64 f] w fun u w' => u = .int .i64 (sgn (val la * 2 ^ (e - f).toNat) (val lb)) ∧ Chg [] w w' := by
 obtain ⟨d, hd⟩ : ∃ d : Nat, (d : Int) = e - f := ⟨(e - f).toNat, by omega⟩;rw [show (e - f).toNat = d by omega];have ha0 := ha;have hb0 := hb;have hba := bl_le.2 (val_lt ha.hw);have hbb := bl_le.2 (val_lt hb.hw);have hza := bl_eq_zero (n := val la);have hzb := bl_eq_zero (n := val lb);obtain ⟨i, hi⟩ : ∃ i, i = bl (val la) := ⟨_, rfl⟩;obtain ⟨k, hk⟩ : ∃ k, k = bl (val lb) := ⟨_, rfl⟩;rw [← hi] at hba hza;rw [← hk] at hbb hzb;have hch : Chg [] w w := Chg.refl _ _;refine zE4 Tryz.func306 rfl ?_;refine Sr fun _ kh1 => za rfl (zz (kh1 (Sr fun _ kh3 => zm rfl ?_)));refine WL.call hasF304 rfl rfl (r2Len_spec _ _ _ (ha.keep0 hch) (by omega)) fun v w1 h' => ?_;obtain ⟨rfl, rfl⟩ := h';rw [← hi];refine WL.ev (Ev.convIn rfl rfl (in_u64 (by omega))) rfl ?_;refine za rfl (zz (kh3 (Sr fun _ kh5 => zm rfl ?_)));refine WL.call hasF304 rfl rfl (r2Len_spec _ _ _ (hb.keep0 hch) (by omega)) fun v w2 h' => ?_;obtain ⟨rfl, rfl⟩ := h';rw [← hk];refine WL.ev (Ev.convIn rfl rfl (in_u64 (by omega))) rfl ?_;refine za rfl (zz (kh5 (zc fun _ kh7 => ?_)));refine CW.seqM 23 (decide (i = 0 ∨ k = 0)) ?_ ?_
 ·refine zR fun _ kr8 => ?_;refine zm rfl (zq rfl rfl (zm rfl ?_));refine zb ?_ ?_<;>intro hg1<;>try simp only [qs] at hg1
  ·refine zv rfl (zv rfl (zt rfl rfl ?_));refine WL.nil (kr8 _ _ _ ?_);refine ⟨rfl, rfl, Subs.consB rfl ?_ ?_⟩
   ·first | (simp; omega) | (simp_all; done) | (refine decide_eq_decide.2 ?_; omega)
   ·exact SMg
  ·refine zw rfl (zm rfl (zw rfl (zq rfl rfl (ze rfl rfl ?_))));refine WL.nil (kr8 _ _ _ ?_);refine ⟨rfl, rfl, Subs.consB rfl ?_ ?_⟩
   ·first | (simp; omega) | (simp_all; done) | (refine decide_eq_decide.2 ?_; omega)
   ·exact SMg
 ·refine zy rfl ?_ ?_<;>intro hc2<;>try simp only [qs] at hc2
  ·have hz := hc2
   refine Sr fun _ kh9 => zm rfl (zm rfl ?_);refine WL.call hasF254 rfl rfl (r2Cmp_spec _ _ _ _ _ (ha.keep0 hch) (hb.keep0 hch)) fun v w3 h' => ?_;obtain ⟨rfl, hC⟩ := h';have hch := hch.ta hC;refine za rfl (zz (kh9 ?_));refine zr (zr1 rfl rfl ?_);rw [sgn_mulr (by omega)];exact ⟨rfl, hch⟩
  ·have hz := hc2
   have hm0 : val la ≠ 0 := by omega
   refine zkk ?_;refine kh7 (zc fun _ kh11 => Sr fun _ kh12 => zm rfl (zm rfl ?_));refine WL.ev (Ev.lss rfl rfl) rfl ?_;refine zz (kh12 ?_);refine zy rfl ?_ ?_<;>intro hc3<;>try simp only [qs] at hc3
   ·exfalso; omega
   ·refine zkk ?_
    refine kh11 (Sr fun _ kh14 => zm rfl ?_);refine WL.ev (Ev.conv rfl rfl) rfl ?_;rw [wrap_u64i];refine zm rfl ?_;refine WL.ev (Ev.conv rfl rfl) rfl ?_;rw [wrap_u64i];refine WL.ev (Ev.sub rfl rfl) rfl ?_;rw [wrap_u64i, show (e % 18446744073709551616 - f % 18446744073709551616) % 18446744073709551616 = ((d : Nat) : Int) by omega];refine za rfl (zz (kh14 (zc fun _ kh16 => ?_)));refine CW.seqM 49 (decide (1099511627776 < d ∨ k < i + d)) ?_ ?_
    ·refine zR fun _ kr17 => ?_;refine zm rfl ?_;refine WL.ev (Ev.gtr rfl rfl) rfl ?_;refine zm rfl ?_;refine zb ?_ ?_<;>intro hg4<;>try simp only [qs] at hg4
     ·refine zv rfl (zv rfl (zv rfl (zv rfl (zv rfl (zt rfl rfl ?_)))));refine WL.nil (kr17 _ _ _ ?_);refine ⟨rfl, rfl, Subs.consB rfl ?_ ?_⟩
      ·first | (simp; omega) | (simp_all; done) | (refine decide_eq_decide.2 ?_; omega)
      ·exact SMg
     ·refine zw rfl (zm rfl (zw rfl (zm rfl (zw rfl ?_))))
      first | refine WL.ev (Ev.add64In rfl rfl (by omega)) rfl ?_ | refine WL.ev (Ev.add64 rfl rfl) rfl ?_
      refine zw rfl (zm rfl (zw rfl ?_));refine WL.ev (Ev.gtr rfl rfl) rfl ?_;refine ze rfl rfl ?_;refine WL.nil (kr17 _ _ _ ?_);refine ⟨rfl, rfl, Subs.consB rfl ?_ ?_⟩
      ·first | (simp; omega) | (simp_all; done) | (refine decide_eq_decide.2 ?_; omega)
      ·exact SMg
    ·refine zy rfl ?_ ?_<;>intro hc5<;>try simp only [qs] at hc5
     ·have hz := hc5
      refine Sr fun _ kh18 => za rfl (zz (kh18 ?_));refine zr (zr1 rfl rfl ?_);rw [sgn_pos (bl_up_gt hm0 (by omega))];exact ⟨rfl, hch⟩
     ·refine zkk ?_
      refine kh16 (zc fun _ kh20 => Sr fun _ kh21 => zm rfl (zm rfl ?_))
      first | refine WL.ev (Ev.add64In rfl rfl (by omega)) rfl ?_ | refine WL.ev (Ev.add64 rfl rfl) rfl ?_
      refine zm rfl ?_;refine WL.ev (Ev.lss rfl rfl) rfl ?_;refine zz (kh21 ?_);refine zy rfl ?_ ?_<;>intro hc6<;>try simp only [qs] at hc6
      ·have hz2 := hc6
       refine Sr fun _ kh23 => za rfl (zz (kh23 ?_));refine zr (zr1 rfl rfl ?_);rw [sgn_lt (bl_up_lt hm0 (by omega))];exact ⟨rfl, hch⟩
      ·refine zkk ?_
       refine kh20 (Sr fun _ kh25 => zm rfl (zm rfl ?_));refine WL.ev (Ev.convIn rfl rfl (in_i64 (by omega))) rfl ?_;refine WL.call hasF252 rfl rfl (r2MovedUp_spec _ _ _ (ha.keep0 hch) d (by omega) (by omega)) fun v w4 h' => ?_;obtain ⟨hNm, hC, hFm⟩ := h';have hch := hch.ta hC;refine zm rfl ?_;refine WL.call hasF254 rfl rfl (r2Cmp_spec _ _ _ _ _ hNm (hb.keep0 hch)) fun v w5 h' => ?_;obtain ⟨rfl, hC⟩ := h';rw [val_wd];have hch := hch.ta hC;refine za rfl (zz (kh25 ?_));refine zr (zr1 rfl rfl ?_);exact ⟨rfl, hch⟩

theorem r3AgainstLt_spec (va vb : Value) (la lb : List Nat) (e f : Int) (w : World) (ha : NU w va la) (hb : NU w vb lb) (he : -9223372036854775808 ≤ e ∧ e ≤ 9223372036854775807) (hf : -9223372036854775808 ≤ f ∧ f ≤ 9223372036854775807) (hla : la.length ≤ 17179869184) (hlb : lb.length ≤ 17179869184) (hef : e < f) : Ret Tryz.prog 306 [va, .int .i64 e, vb, .int .i64 f] w fun u w' => u = .int .i64 (sgn (val la) (val lb * 2 ^ (f - e).toNat)) ∧ Chg [] w w' := by
 have ha0 := ha;have hb0 := hb;have hba := bl_le.2 (val_lt ha.hw);have hbb := bl_le.2 (val_lt hb.hw);have hza := bl_eq_zero (n := val la);have hzb := bl_eq_zero (n := val lb);obtain ⟨i, hi⟩ : ∃ i, i = bl (val la) := ⟨_, rfl⟩;obtain ⟨k, hk⟩ : ∃ k, k = bl (val lb) := ⟨_, rfl⟩;rw [← hi] at hba hza;rw [← hk] at hbb hzb;have hch : Chg [] w w := Chg.refl _ _;refine zE4 Tryz.func306 rfl ?_;refine Sr fun _ kh1 => za rfl (zz (kh1 (Sr fun _ kh3 => zm rfl ?_)));refine WL.call hasF304 rfl rfl (r2Len_spec _ _ _ (ha.keep0 hch) (by omega)) fun v w1 h' => ?_;obtain ⟨rfl, rfl⟩ := h';rw [← hi];refine WL.ev (Ev.convIn rfl rfl (in_u64 (by omega))) rfl ?_;refine za rfl (zz (kh3 (Sr fun _ kh5 => zm rfl ?_)));refine WL.call hasF304 rfl rfl (r2Len_spec _ _ _ (hb.keep0 hch) (by omega)) fun v w2 h' => ?_;obtain ⟨rfl, rfl⟩ := h';rw [← hk];refine WL.ev (Ev.convIn rfl rfl (in_u64 (by omega))) rfl ?_;refine za rfl (zz (kh5 (zc fun _ kh7 => ?_)));refine CW.seqM 23 (decide (i = 0 ∨ k = 0)) ?_ ?_
 ·refine zR fun _ kr8 => ?_;refine zm rfl (zq rfl rfl (zm rfl ?_));refine zb ?_ ?_<;>intro hg1<;>try simp only [qs] at hg1
  ·refine zv rfl (zv rfl (zt rfl rfl ?_));refine WL.nil (kr8 _ _ _ ?_);refine ⟨rfl, rfl, Subs.consB rfl ?_ ?_⟩
   ·first | (simp; omega) | (simp_all; done) | (refine decide_eq_decide.2 ?_; omega)
   ·exact SMg
  ·refine zw rfl (zm rfl (zw rfl (zq rfl rfl (ze rfl rfl ?_))));refine WL.nil (kr8 _ _ _ ?_);refine ⟨rfl, rfl, Subs.consB rfl ?_ ?_⟩
   ·first | (simp; omega) | (simp_all; done) | (refine decide_eq_decide.2 ?_; omega)
   ·exact SMg
 ·refine zy rfl ?_ ?_<;>intro hc2<;>try simp only [qs] at hc2
  ·have hz := hc2
   refine Sr fun _ kh9 => zm rfl (zm rfl ?_);refine WL.call hasF254 rfl rfl (r2Cmp_spec _ _ _ _ _ (ha.keep0 hch) (hb.keep0 hch)) fun v w3 h' => ?_;obtain ⟨rfl, hC⟩ := h';have hch := hch.ta hC;refine za rfl (zz (kh9 ?_));refine zr (zr1 rfl rfl ?_);rw [← sgn_neg (val lb * 2 ^ (f - e).toNat) (val la), sgn_mulr (by omega), sgn_neg];exact ⟨rfl, hch⟩
  ·refine zkk ?_
   refine kh7 (zc fun _ kh11 => Sr fun _ kh12 => zm rfl (zm rfl ?_));refine WL.ev (Ev.lss rfl rfl) rfl ?_;refine zz (kh12 ?_);refine zy rfl ?_ ?_<;>intro hc3<;>try simp only [qs] at hc3
   ·refine Sr fun _ kh14 => zm rfl (zm rfl (zm rfl (zm rfl ?_)));refine WL.call hasF306 rfl rfl (r3AgainstGe_spec _ _ _ _ f e _ (hb.keep0 hch) (ha.keep0 hch) hf he hlb hla (by omega)) fun v w4 h' => ?_
    obtain ⟨rfl, hC⟩ := h';have hch := hch.ta hC;refine WL.ev (Ev.negIn rfl (by have := sgn_le (a := val lb * 2 ^ (f - e).toNat) (b := val la); unfold sgn; split <;> (try split) <;> omega)) rfl ?_;rw [sgn_neg];refine za rfl (zz (kh14 ?_));refine zr (zr1 rfl rfl ?_);exact ⟨rfl, hch⟩
   ·exfalso; omega

theorem r3Against_spec (va vb : Value) (la lb : List Nat) (e f : Int) (w : World) (ha : NU w va la) (hb : NU w vb lb) (he : -9223372036854775808 ≤ e ∧ e ≤ 9223372036854775807) (hf : -9223372036854775808 ≤ f ∧ f ≤ 9223372036854775807) (hla : la.length ≤ 17179869184) (hlb : lb.length ≤ 17179869184) : Ret Tryz.prog 306 [va, .int .i64 e, vb, .int .i64 f] w fun u w' => u = .int .i64 (cmpX (val la) e (val lb) f) ∧ Chg [] w w' := by
  by_cases h : f ≤ e
  · have := r3AgainstGe_spec va vb la lb e f w ha hb he hf hla hlb h
    unfold cmpX;rw [show e - min e f = e - f by omega, show (f - min e f).toNat = 0 by omega, Nat.pow_zero, Nat.mul_one];exact this
  · have := r3AgainstLt_spec va vb la lb e f w ha hb he hf hla hlb (by omega)
    unfold cmpX;rw [show f - min e f = f - e by omega, show (e - min e f).toNat = 0 by omega, Nat.pow_zero, Nat.mul_one];exact this

end

/- Sums of forms as whole numbers of the lowest unit. No condition. -/
section
open Go Sx Wd

theorem tz_scale {m : Nat} (h : m ≠ 0) (k : Nat) : tz (m * 2 ^ k) = tz m + k := by
  obtain ⟨h1, h2⟩ := tz_spec h
  refine tz_unique (m := m / 2 ^ tz m) ?_ h1
  rw [Nat.pow_add, ← Nat.mul_assoc, ← h2]
theorem formD_scale {neg : Bool} {m k : Nat} {e f : Int} (he : f = e - (k : Int)) : formD neg (m * 2 ^ k) f = formD neg m e := by
  by_cases h0 : m = 0
  · subst h0; rw [Nat.zero_mul, formD_zero, formD_zero]
  · have hk := Nat.two_pow_pos k
    have hn : m * 2 ^ k ≠ 0 := Nat.mul_ne_zero h0 (by omega)
    have ht := tz_scale h0 k
    have hd : m * 2 ^ k / 2 ^ tz (m * 2 ^ k) = m / 2 ^ tz m := by
      rw [ht, Nat.pow_add, Nat.mul_comm (2 ^ tz m), ← Nat.div_div_eq_div_mul, Nat.mul_div_cancel _ hk]
    unfold formD
    rw [if_neg hn, if_neg h0, hd, ht, he]
    have e1 : (1048576 - ((tz m + k : Nat) : Int) < e - (k : Int) ∨ e - (k : Int) < -1048576 - ((tz m + k : Nat) : Int) ∨ 8192 < (wd (m / 2 ^ tz m)).length) ↔ (1048576 - (tz m : Int) < e ∨ e < -1048576 - (tz m : Int) ∨ 8192 < (wd (m / 2 ^ tz m)).length) := by omega
    by_cases h : 1048576 - (tz m : Int) < e ∨ e < -1048576 - (tz m : Int) ∨ 8192 < (wd (m / 2 ^ tz m)).length
    · rw [if_pos (e1.2 h), if_pos h]
    · rw [if_neg (fun q => h (e1.1 q)), if_neg h, show e - (k : Int) + ((tz m + k : Nat) : Int) = e + (tz m : Int) by omega]
/-- Sums that an accumulator may have. -/
def InB (S : Int) : Prop := -((16384 * BB : Nat) : Int) < S ∧ S < (16384 * BB : Nat)
theorem InB.lt {S : Int} (h : InB S) : S.natAbs < 2 ^ 4238 := by
  obtain ⟨h1, h2⟩ := h
  rw [← BB_pow]; omega
theorem sumD_some {S : Int} (h : InB S) {neg : Bool} (hn : S ≠ 0 → neg = decide (S < 0)) : formD neg S.natAbs (-2148) = some (sumD S) := by
  obtain ⟨h1, h2⟩ := h
  have e := sumD_eq h1 h2 (decide (S < 0))
  unfold sumD
  rw [e, sumD_eq h1 h2 neg, Option.getD_some]
  by_cases h0 : S = 0
  · rw [if_pos h0, if_pos h0]
  · rw [if_neg h0, if_neg h0, hn h0]
theorem rsumD_zero : sumD 0 = Dy.zero := rfl
theorem sumD_val {S : Int} (h : InB S) (h0 : S ≠ 0) : sumD S = ⟨decide (S < 0), S.natAbs / 2 ^ tz S.natAbs, -2148 + tz S.natAbs⟩ := by
  obtain ⟨h1, h2⟩ := h
  unfold sumD
  rw [sumD_eq h1 h2, if_neg h0, Option.getD_some]
theorem rsumD_ok {S : Int} (h : InB S) : (sumD S).ok := formD_ok (sumD_some h (neg := decide (S < 0)) (fun _ => rfl))
theorem rsumD_m0 {S : Int} (h : InB S) : (sumD S).m = 0 ↔ S = 0 := by
  constructor
  · intro hm
    apply Classical.byContradiction
    intro h0
    rw [sumD_val h h0] at hm
    have := (tz_spec (n := S.natAbs) (by omega)).1
    dsimp only at hm
    rw [hm] at this; simp at this
  · intro h0; rw [h0]; rfl
theorem scaled_len {p c n : Nat} (h : n = p * 2 ^ c) (hn : n < 2 ^ 4238) : (wd p).length ≤ 8192 := by
  have h1 : p ≤ n := by rw [h]; exact Nat.le_mul_of_pos_right _ (Nat.two_pow_pos _)
  exact wd_len_gen (Nat.lt_of_le_of_lt h1 hn) (by decide)
theorem addD_sum {S T : Int} (hS : InB S) (hT : InB T) (hST : InB (S + T)) : addD (sumD S) (sumD T) = some (sumD (S + T)) := by
  by_cases h0 : S = 0
  · subst h0
    rw [rsumD_zero, Int.zero_add]
    unfold addD; rw [if_pos (show Dy.zero.m = 0 from rfl)]
  by_cases h1 : T = 0
  · subst h1
    rw [rsumD_zero, Int.add_zero]
    unfold addD; rw [if_neg (fun q => h0 ((rsumD_m0 hS).1 q)), if_pos (show Dy.zero.m = 0 from rfl)]
  obtain ⟨-, ha⟩ := tz_spec (n := S.natAbs) (by omega)
  obtain ⟨-, hb⟩ := tz_spec (n := T.natAbs) (by omega)
  have hx := sumD_val hS h0
  have hy := sumD_val hT h1
  have hxm : (sumD S).m ≠ 0 := fun q => h0 ((rsumD_m0 hS).1 q)
  have hym : (sumD T).m ≠ 0 := fun q => h1 ((rsumD_m0 hT).1 q)
  have hsl := hS.lt
  have htl := hT.lt
  generalize tz S.natAbs = a at *
  generalize tz T.natAbs = b at *
  generalize hX : S.natAbs / 2 ^ a = X at *
  generalize hY : T.natAbs / 2 ^ b = Y at *
  obtain ⟨c, hc⟩ : ∃ c, c = min a b := ⟨_, rfl⟩
  have he : min (sumD S).e (sumD T).e = -2148 + (c : Int) := by rw [hx, hy]; dsimp only; omega
  have hpe : ((sumD S).e - (-2148 + (c : Int))).toNat = a - c := by rw [hx]; dsimp only; omega
  have hqe : ((sumD T).e - (-2148 + (c : Int))).toNat = b - c := by rw [hy]; dsimp only; omega
  have hp : S.natAbs = X * 2 ^ (a - c) * 2 ^ c := by rw [Nat.mul_assoc, ← Nat.pow_add, show a - c + c = a by omega]; exact ha
  have hq : T.natAbs = Y * 2 ^ (b - c) * 2 ^ c := by rw [Nat.mul_assoc, ← Nat.pow_add, show b - c + c = b by omega]; exact hb
  rw [addD_eq hxm hym rfl rfl, he, hpe, hqe]
  rw [show (sumD S).m = X by rw [hx], show (sumD T).m = Y by rw [hy], show (sumD S).neg = decide (S < 0) by rw [hx], show (sumD T).neg = decide (T < 0) by rw [hy]]
  generalize X * 2 ^ (a - c) = p at *
  generalize Y * 2 ^ (b - c) = q at *
  have lp := scaled_len hp hsl
  have lq := scaled_len hq htl
  rw [if_neg (by omega)]
  have hc2 := Nat.two_pow_pos c
  by_cases hs : decide (S < 0) = decide (T < 0)
  · rw [if_pos hs, ← formD_scale (k := c) (f := -2148) (by omega), Nat.add_mul, ← hp, ← hq]
    have hiff : S < 0 ↔ T < 0 := by simpa using hs
    have e : S.natAbs + T.natAbs = (S + T).natAbs := by omega
    rw [e]
    exact sumD_some hST fun _ => decide_eq_decide.2 (by omega)
  · have hiff : ¬ (S < 0 ↔ T < 0) := fun q => hs (decide_eq_decide.2 q)
    rw [if_neg hs]
    by_cases hlt : p < q
    · have hl2 : S.natAbs < T.natAbs := by rw [hp, hq]; exact Nat.mul_lt_mul_of_pos_right hlt hc2
      rw [if_pos hlt, ← formD_scale (k := c) (f := -2148) (by omega), Nat.sub_mul, ← hp, ← hq, show T.natAbs - S.natAbs = (S + T).natAbs by omega]
      exact sumD_some hST fun _ => decide_eq_decide.2 (by omega)
    · have hl2 : T.natAbs ≤ S.natAbs := by rw [hp, hq]; exact Nat.mul_le_mul_right _ (by omega)
      rw [if_neg hlt, ← formD_scale (k := c) (f := -2148) (by omega), Nat.sub_mul, ← hp, ← hq, show S.natAbs - T.natAbs = (S + T).natAbs by omega]
      exact sumD_some hST fun hne => decide_eq_decide.2 (by omega)
theorem great_not {S : Int} (h : InB S) : (bl (sumD S).m : Int) + (sumD S).e ≤ 2090 := by
  by_cases h0 : S = 0
  · subst h0; rw [rsumD_zero]; simp [Dy.zero, bl_zero]
  · have hb := bl_le.2 h.lt
    rw [sumD_val h h0]
    dsimp only
    obtain ⟨h1, h2⟩ := tz_spec (n := S.natAbs) (by omega)
    have := bl_mul_pow (n := S.natAbs / 2 ^ tz S.natAbs) (fun q => by rw [q] at h1; simp at h1) (tz S.natAbs)
    rw [← h2] at this
    omega
theorem kind_cls {x : Nat} : kindP x ≤ 2 ↔ (splitP x).cls ≤ 2 := by
  unfold kindP splitP
  by_cases a : x / 4503599627370496 % 2048 = 2047 ∧ x % 4503599627370496 ≠ 0
  · rw [if_pos a]; simp
  · rw [if_neg a]
    by_cases b : x / 4503599627370496 % 2048 = 2047
    · rw [if_pos b]; by_cases d : x / 9223372036854775808 % 2 = 1 <;> simp [d]
    · rw [if_neg b]
      by_cases d : 0 < x / 4503599627370496 % 2048
      · rw [if_pos d]; simp
      · rw [if_neg d]
        by_cases f : 0 < x % 4503599627370496
        · rw [if_pos f]; simp
        · rw [if_neg f]; by_cases g : x / 9223372036854775808 % 2 = 1 <;> simp [g]
theorem rkind_fin {x : Nat} : kindP x = 0 ↔ ((splitP x).cls = 1 ∨ (splitP x).cls = 2) := by
  unfold kindP splitP
  by_cases a : x / 4503599627370496 % 2048 = 2047 ∧ x % 4503599627370496 ≠ 0
  · rw [if_pos a]; simp
  · rw [if_neg a]
    by_cases b : x / 4503599627370496 % 2048 = 2047
    · rw [if_pos b]; by_cases d : x / 9223372036854775808 % 2 = 1 <;> simp [d]
    · rw [if_neg b]
      by_cases d : 0 < x / 4503599627370496 % 2048
      · rw [if_pos d]; simp
      · rw [if_neg d]
        by_cases f : 0 < x % 4503599627370496
        · rw [if_pos f]; simp
        · rw [if_neg f]; by_cases g : x / 9223372036854775808 % 2 = 1 <;> simp [g]
theorem fvI_in (x : Nat) : InB (fvI x) := by
  have h := sumI_in (l := [x]) (by simp)
  have : sumI [x] = fvI x := by simp [sumI]
  rw [this] at h; exact h
theorem rfvI_abs (x : Nat) : (fvI x).natAbs = fvN x := by unfold fvI; split <;> omega
theorem fvI_zero {x : Nat} (h : ¬ ((splitP x).cls = 1 ∨ (splitP x).cls = 2)) : fvI x = 0 := by
  unfold fvI fvN; rw [if_neg h]; split <;> rfl
theorem floatD_sum {x : Nat} (hx : x < 18446744073709551616) (h : (splitP x).cls ≤ 2) : floatD x = some (sumD (fvI x)) := by
  have hk := kindP_bits hx
  have hle := kind_cls.2 h
  have hlt : ¬ 9218868437227405312 ≤ x % 9223372036854775808 := fun q => by
    rw [hk] at hle
    by_cases a : 9218868437227405312 < x % 9223372036854775808
    · rw [if_pos a] at hle; omega
    · rw [if_neg a] at hle
      by_cases b : x / 9223372036854775808 = 1
      · rw [if_pos ⟨by omega, b⟩] at hle; omega
      · rw [if_neg (fun q => b q.2), if_pos (by omega)] at hle; omega
  unfold floatD bitsD
  rw [if_neg hlt]
  have e1 : numM (x % 9223372036854775808) * 2 ^ (numE (x % 9223372036854775808) + 2148).toNat = fvN x ∧ (fvN x ≠ 0 → decide (x / 9223372036854775808 = 1) = (splitP x).neg) := by
    have hq1 : x % 9223372036854775808 / 4503599627370496 = x / 4503599627370496 % 2048 := by omega
    have hq2 : x % 9223372036854775808 % 4503599627370496 = x % 4503599627370496 := by omega
    have hne : ¬ x / 4503599627370496 % 2048 = 2047 := by omega
    unfold numM numE fvN splitP
    rw [hq1, hq2, if_neg (show ¬ (x / 4503599627370496 % 2048 = 2047 ∧ x % 4503599627370496 ≠ 0) from fun q => hne q.1), if_neg hne]
    have hd : decide (x / 9223372036854775808 = 1) = decide (x / 9223372036854775808 % 2 = 1) := decide_eq_decide.2 (by omega)
    by_cases d : 0 < x / 4503599627370496 % 2048
    · rw [if_neg (show ¬ x / 4503599627370496 % 2048 = 0 by omega), if_neg (show ¬ x / 4503599627370496 % 2048 = 0 by omega), if_pos d, if_pos (.inr rfl)]
      exact ⟨by rw [Nat.add_comm], fun _ => hd⟩
    · rw [if_pos (show x / 4503599627370496 % 2048 = 0 by omega), if_pos (show x / 4503599627370496 % 2048 = 0 by omega), if_neg d]
      by_cases f : 0 < x % 4503599627370496
      · rw [if_pos f, if_pos (.inl rfl)]
        exact ⟨rfl, fun _ => hd⟩
      · rw [if_neg f, if_neg (by simp), show x % 4503599627370496 = 0 by omega, Nat.zero_mul]
        exact ⟨rfl, fun q => absurd rfl q⟩
  have hE := (numE_le (x % 9223372036854775808) (by omega)).1
  rw [← formD_scale (k := (numE (x % 9223372036854775808) + 2148).toNat) (f := -2148) (by omega), e1.1, ← rfvI_abs]
  refine sumD_some (fvI_in x) fun hn => ?_
  have hN : fvN x ≠ 0 := by rw [← rfvI_abs]; omega
  rw [e1.2 hN]
  unfold fvI
  cases hg : (splitP x).neg
  · rw [if_neg (by decide)]; exact (decide_eq_false (by omega)).symm
  · rw [if_pos rfl]; exact (decide_eq_true (by omega)).symm
end

/- Reference of layer 7: things, counts, sums. No condition. -/
section
open Go Sx Wd

theorem r7Of_spec (x : Nat) (w : World) (hx : x < 18446744073709551616) : Ret Tryz.prog 300 [.float .f64 x] w fun u w' => (∃ r, u = .agg [.int .i64 (kindP x : Int), .bool (sumD (fvI x)).neg, r, .int .i64 (sumD (fvI x)).e].toArray ∧ NU w' r (wd (sumD (fvI x)).m)) ∧ Chg [] w w' := by
 have hch : Chg [] w w := Chg.refl _ _;refine zE1 Tryz.func300 rfl ?_;refine Sr fun _ kh1 => ?_;refine WL.allocB (l := [.int .i64 0, .bool false, .slice none 0 0, .int .i64 0]) rfl rfl fun b2 wm2 hb2 hcm2 hge2 => ?_;have hgehch2 := Nat.le_trans hch.size hge2;have hch := hch.ta hcm2;refine zz (kh1 (Sr fun _ kh3 => zm rfl ?_));refine WL.call hasF247 rfl rfl (r6Kind_spec x _ hx) fun v w1 h' => ?_;obtain ⟨rfl, rfl⟩ := h';refine WL.ev (Ev.build (vs := _) (cs := [_, _, _, _]) rfl rfl) rfl ?_;refine WL.allocB (l := [.int .i64 0, .bool false, .slice none 0 0, .int .i64 0]) rfl rfl fun b3 wm3 hb3 hcm3 hge3 => ?_;have hgehch3 := Nat.le_trans hch.size hge3;have hch := hch.ta hcm3;have hneb23 := zdd hb2.lt hge3;have hb2 := hb2.k0 hcm3;refine zss rfl rfl ao hb3 rfl fun ws1 hb3_ hcs1 => ?_;(try simp only [Sx.splice, qt] at hb3_);have hch := hch.s1 hcs1;have hb2 := hb2.kq hcs1;have hb3 := hb3_;refine zz (kh3 (zc fun _ kh5 => Sr fun _ kh6 => zf rfl (zl hb3 rfl rfl (zq rfl rfl (zz (kh6 ?_))))));refine zy rfl ?_ ?_<;>intro hc1<;>try simp only [qs] at hc1
 ·have hk : kindP x = 0 := by omega
  have hcl := rkind_fin.1 hk;refine zR fun _ kr8 => ?_;refine zm rfl ?_;refine WL.call hasF163 rfl rfl (r3Of_spec x _ hx) fun v w2 h' => ?_;obtain ⟨hD, hC⟩ := h';rw [floatD_sum hx (by omega)] at hD;obtain ⟨r, d, hd, rfl, hN⟩ := hD.resolve_right (fun q => by cases q.1);cases hd;have hch := hch.ta hC;have hb2 := hb2.k0 hC;have hb3 := hb3.k0 hC;refine zm rfl (zx rfl rfl (zx rfl rfl (zf rfl ?_)));refine zss rfl rfl ao hb3 rfl fun ws2 hb3_ hcs2 => ?_;(try simp only [Sx.splice, qt] at hb3_);have hch := hch.s1 hcs2;have hb2 := hb2.kq hcs2;have hN := hN.keepBK hb3 hcs2 an;have hb3 := hb3_;refine WL.nil (kr8 _ _ _ (kh5 ?_));refine Sr fun _ kh9 => zg hb3 rfl ?_;refine zss rfl rfl ao hb2 rfl fun ws3 hb2_ hcs3 => ?_;(try simp only [Sx.splice, qt] at hb2_);have hch := hch.s1 hcs3;have hN := hN.keepBK hb2 hcs3 an;have hb2 := hb2_;refine zz (kh9 ?_);refine zr (bodyA.retR1 rfl (RVal.cell rfl (hb2.varA rfl rfl)) ?_);exact ⟨⟨_, rfl, hN⟩, hch⟩
 ·have hk : ¬ kindP x = 0 := by omega
  have hz : fvI x = 0 := fvI_zero (fun q => hk (rkind_fin.2 q));refine zkk ?_;refine kh5 (Sr fun _ kh11 => zg hb3 rfl ?_);refine zss rfl rfl ao hb2 rfl fun ws4 hb2_ hcs4 => ?_;(try simp only [Sx.splice, qt] at hb2_);have hch := hch.s1 hcs4;have hb2 := hb2_;refine zz (kh11 ?_);refine zr (bodyA.retR1 rfl (RVal.cell rfl (hb2.varA rfl rfl)) ?_);rw [hz];exact ⟨⟨_, rfl, by rw [rsumD_zero, show Dy.zero.m = 0 from rfl, wd_zero]; exact NU.nil⟩, hch⟩

theorem r7counted_spec (s : SP) (k : Nat) (w : World) (hs : s.le 1000000000000000) (hk5 : k ≤ 5) : Ret Tryz.prog 332 [.agg [.int .i64 (s.na : Int), .int .i64 (s.up : Int), .int .i64 (s.dn : Int), .int .i64 (s.mi : Int), .int .i64 (s.pl : Int), .int .i64 (s.al : Int)].toArray, .int .i64 (k : Int), .int .i64 1] w fun u w' => u = .agg (countP s k).cells.toArray ∧ Chg [] w w' := by
 have hs0 := hs;obtain ⟨hs1, hs2, hs3, hs4, hs5, hs6⟩ := hs;have hch : Chg [] w w := Chg.refl _ _;refine zE3 Tryz.func332 rfl ?_;refine Sr fun _ kh1 => ?_;refine zBh rfl rfl rfl hch fun b3 wm3 hb3 hcm3 hge3 hgehch3 hch => ?_;refine WL.allocB (l := [.int .i64 0, .int .i64 0, .int .i64 0, .int .i64 0, .int .i64 0, .int .i64 0]) rfl rfl fun b6 wm6 hb6 hcm6 hge6 => ?_;have hgehch6 := Nat.le_trans hch.size hge6;have hch := hch.ta hcm6;have hneb36 := zdd hb3.lt hge6;have hb3 := hb3.k0 hcm6;refine zz (kh1 (Sr fun _ kh3 => zf rfl (zl hb3 rfl rfl (zm rfl ?_))));(first | refine zi rfl rfl ?_ | refine zo rfl rfl ?_);refine zf rfl ?_;refine WL.storeC rfl rfl o1 hb3 (by simp) rfl fun ws5 hb3_ hcs5 => ?_;(try simp only [Sx.splice, qt] at hb3_);have hch := hch.s1 hcs5;have hb6 := hb6.kq hcs5;have hb3 := hb3_;refine zz (kh3 (zc fun _ kh5 => Sr fun _ kh6 => zm rfl (zz (kh6 ?_))));refine CW.block ?_;refine Sr fun _ kh8 => zq rfl rfl (za rfl (zz (kh8 ?_)));refine zy rfl ?_ ?_<;>intro hc1<;>try simp only [qs] at hc1
 ·refine zR fun _ kr10 => ?_
  refine zf rfl (zl hb3 rfl rfl (zm rfl ?_));(first | refine zi rfl rfl ?_ | refine zo rfl rfl ?_);refine zf rfl ?_;refine WL.storeC rfl rfl o1 hb3 (by simp) rfl fun ws6 hb3_ hcs6 => ?_;(try simp only [Sx.splice, qt] at hb3_);have hch := hch.s1 hcs6;have hb6 := hb6.kq hcs6;have hb3 := hb3_;refine WL.nil (kr10 _ _ _ (kh5 ?_));refine Sr fun _ kh11 => zg hb3 rfl ?_;refine zss rfl rfl ao hb6 rfl fun ws7 hb6_ hcs7 => ?_;(try simp only [Sx.splice, qt] at hb6_);have hch := hch.s1 hcs7;have hb6 := hb6_;refine zz (kh11 ?_);refine zr (bodyA.retR1 rfl (RVal.cell rfl (hb6.varA rfl rfl)) ?_);refine ⟨?_, hch⟩;have hk : k = 5 := by omega
  subst hk;simp [SP.cells, countP]
 ·refine Sr fun _ kh13 => zq rfl rfl (za rfl (zz (kh13 ?_)));refine zy rfl ?_ ?_<;>intro hc2<;>try simp only [qs] at hc2
  ·refine zR fun _ kr15 => ?_
   refine zf rfl (zl hb3 rfl rfl (zm rfl ?_));(first | refine zi rfl rfl ?_ | refine zo rfl rfl ?_);refine zf rfl ?_;refine WL.storeC rfl rfl o1 hb3 (by simp) rfl fun ws8 hb3_ hcs8 => ?_;(try simp only [Sx.splice, qt] at hb3_);have hch := hch.s1 hcs8;have hb6 := hb6.kq hcs8;have hb3 := hb3_;refine WL.nil (kr15 _ _ _ (kh5 ?_));refine Sr fun _ kh16 => zg hb3 rfl ?_;refine zss rfl rfl ao hb6 rfl fun ws9 hb6_ hcs9 => ?_;(try simp only [Sx.splice, qt] at hb6_);have hch := hch.s1 hcs9;have hb6 := hb6_;refine zz (kh16 ?_);refine zr (bodyA.retR1 rfl (RVal.cell rfl (hb6.varA rfl rfl)) ?_);refine ⟨?_, hch⟩;have hk : k = 3 := by omega
   subst hk;simp [SP.cells, countP]
  ·refine Sr fun _ kh18 => zq rfl rfl (za rfl (zz (kh18 ?_)));refine zy rfl ?_ ?_<;>intro hc3<;>try simp only [qs] at hc3
   ·refine zR fun _ kr20 => ?_
    refine zf rfl (zl hb3 rfl rfl (zm rfl ?_));(first | refine zi rfl rfl ?_ | refine zo rfl rfl ?_);refine zf rfl ?_;refine WL.storeC rfl rfl o1 hb3 (by simp) rfl fun ws10 hb3_ hcs10 => ?_;(try simp only [Sx.splice, qt] at hb3_);have hch := hch.s1 hcs10;have hb6 := hb6.kq hcs10;have hb3 := hb3_;refine WL.nil (kr20 _ _ _ (kh5 ?_));refine Sr fun _ kh21 => zg hb3 rfl ?_;refine zss rfl rfl ao hb6 rfl fun ws11 hb6_ hcs11 => ?_;(try simp only [Sx.splice, qt] at hb6_);have hch := hch.s1 hcs11;have hb6 := hb6_;refine zz (kh21 ?_);refine zr (bodyA.retR1 rfl (RVal.cell rfl (hb6.varA rfl rfl)) ?_);refine ⟨?_, hch⟩;have hk : k = 4 := by omega
    subst hk;simp [SP.cells, countP]
   ·refine Sr fun _ kh23 => zq rfl rfl (za rfl (zz (kh23 ?_)));refine zy rfl ?_ ?_<;>intro hc4<;>try simp only [qs] at hc4
    ·refine zR fun _ kr25 => ?_
     refine zf rfl (zl hb3 rfl rfl (zm rfl ?_));(first | refine zi rfl rfl ?_ | refine zo rfl rfl ?_);refine zf rfl ?_;refine WL.storeC rfl rfl o1 hb3 (by simp) rfl fun ws12 hb3_ hcs12 => ?_;(try simp only [Sx.splice, qt] at hb3_);have hch := hch.s1 hcs12;have hb6 := hb6.kq hcs12;have hb3 := hb3_;refine WL.nil (kr25 _ _ _ (kh5 ?_));refine Sr fun _ kh26 => zg hb3 rfl ?_;refine zss rfl rfl ao hb6 rfl fun ws13 hb6_ hcs13 => ?_;(try simp only [Sx.splice, qt] at hb6_);have hch := hch.s1 hcs13;have hb6 := hb6_;refine zz (kh26 ?_);refine zr (bodyA.retR1 rfl (RVal.cell rfl (hb6.varA rfl rfl)) ?_);refine ⟨?_, hch⟩;have hk : k = 1 := by omega
     subst hk;simp [SP.cells, countP]
    ·refine Sr fun _ kh28 => zq rfl rfl (za rfl (zz (kh28 ?_)));refine zy rfl ?_ ?_<;>intro hc5<;>try simp only [qs] at hc5
     ·refine zR fun _ kr30 => ?_
      refine zf rfl (zl hb3 rfl rfl (zm rfl ?_));(first | refine zi rfl rfl ?_ | refine zo rfl rfl ?_);refine zf rfl ?_;refine WL.storeC rfl rfl o1 hb3 (by simp) rfl fun ws14 hb3_ hcs14 => ?_;(try simp only [Sx.splice, qt] at hb3_);have hch := hch.s1 hcs14;have hb6 := hb6.kq hcs14;have hb3 := hb3_;refine WL.nil (kr30 _ _ _ (kh5 ?_));refine Sr fun _ kh31 => zg hb3 rfl ?_;refine zss rfl rfl ao hb6 rfl fun ws15 hb6_ hcs15 => ?_;(try simp only [Sx.splice, qt] at hb6_);have hch := hch.s1 hcs15;have hb6 := hb6_;refine zz (kh31 ?_);refine zr (bodyA.retR1 rfl (RVal.cell rfl (hb6.varA rfl rfl)) ?_);refine ⟨?_, hch⟩;have hk : k = 2 := by omega
      subst hk;simp [SP.cells, countP]
     ·refine zkk ?_
      refine kh5 (Sr fun _ kh33 => zg hb3 rfl ?_);refine zss rfl rfl ao hb6 rfl fun ws16 hb6_ hcs16 => ?_;(try simp only [Sx.splice, qt] at hb6_);have hch := hch.s1 hcs16;have hb6 := hb6_;refine zz (kh33 ?_);refine zr (bodyA.retR1 rfl (RVal.cell rfl (hb6.varA rfl rfl)) ?_);refine ⟨?_, hch⟩;have hk : k = 0 := by omega
      subst hk;simp [SP.cells, countP]

theorem r7great_spec (na : Bool) (va : Value) (la : List Nat) (ea : Int) (w : World) (ha : NU w va la) (hea : -1099511627776 ≤ ea ∧ ea ≤ 1099511627776) (hla : la.length ≤ 17179869184) : Ret Tryz.prog 331 [.agg [.bool na, va, .int .i64 ea].toArray] w fun u w' => u = .bool (decide (2090 < (bl (val la) : Int) + ea)) ∧ Chg [] w w' := by
 have hch : Chg [] w w := Chg.refl _ _;have hoa := ha.one;have hba := bl_le.2 (val_lt ha.hw);obtain ⟨i, hi⟩ : ∃ i, i = bl (val la) := ⟨_, rfl⟩;rw [← hi] at hba;refine zE1 Tryz.func331 rfl ?_;refine Sr fun _ kh1 => ?_;refine zBh rfl rfl rfl hch fun b1 wm1 hb1 hcm1 hge1 hgehch1 hch => ?_;have ha := ha.keep0 hcm1;refine za rfl (zz (kh1 (zc fun _ kh3 => ?_)));refine CW.regionHC 8 rfl hmix fun kR4 kr4 hS hdr => ?_;have hch := hch.ta hdr;have hb1 := hb1.k0 hdr;have ha := ha.keep0 hdr;have hb1_r := hb1;refine wh 0 rfl hS (fun _ _ => Ev.fieldAddr rfl) (wh 1 rfl hS (fun _ hw' => Ev.load rfl rfl ((hb1_r.keep0 hw').at_ rfl)) (wh 3 rfl hS (fun _ _ => Ev.fieldAddr rfl) (wh 4 rfl hS (fun _ hw' => Ev.load rfl rfl ((hb1_r.keep0 hw').at_ rfl)) ?_)));refine WH.oneCall 2 rfl (by kernel_rfl) hasF304 rfl rfl (r2Len_spec _ _ _ ha (by omega)) fun v w1 h' => ?_;obtain ⟨rfl, rfl⟩ := h';rw [← hi];refine ⟨hS, ?_⟩;refine wh 5 rfl hS (fun _ _ => Ev.addIn rfl rfl (by omega)) (wh 6 rfl hS (fun _ _ => Ev.gtr rfl rfl) (wh 7 rfl hS (fun _ _ => Ev.assign rfl) ?_));refine WH.done (by kernel_rfl) (kr4 _ _ _ ?_);refine kh3 ?_;refine zr (zr1 rfl rfl ?_);rw [← hi];exact ⟨rfl, hch⟩

/-- What an accumulator's cells are. -/
def accL (S : Int) (r : Value) (s : SP) : List Value := [.bool (sumD S).neg, r, .int .i64 (sumD S).e, .int .i64 (s.na : Int), .int .i64 (s.up : Int), .int .i64 (s.dn : Int), .int .i64 (s.mi : Int), .int .i64 (s.pl : Int), .int .i64 (s.al : Int)]

theorem r7Add_spec (b k : Nat) (S T : Int) (r rt : Value) (s : SP) (w : World) (hB : BK w b 270 (accL S r s)) (hr : NU w r (wd (sumD S).m)) (ht : NU w rt (wd (sumD T).m)) (hS : InB S) (hT : InB T) (hST : InB (S + T)) (hs : s.le 1099511627775) (hk5 : k ≤ 5) : Ret Tryz.prog 299 [.pointer (some ⟨b, 0, none⟩), .agg [.int .i64 (k : Int), .bool (sumD T).neg, rt, .int .i64 (sumD T).e].toArray] w fun u w' => u = .int .i64 0 ∧ (∃ r', BK w' b 270 (accL (S + T) r' (countP s k)) ∧ NU w' r' (wd (sumD (S + T)).m)) ∧ Chg [b] w w' := by
 have hs0 := hs;obtain ⟨hs1, hs2, hs3, hs4, hs5, hs6⟩ := hs;have hor := hr.one;have hot := ht.one;have hokS := rsumD_ok hS;have hokT := rsumD_ok hT;have hokST := rsumD_ok hST;have heS := hokS.e;have heT := hokT.e;have heST := hokST.e;have hlS := hokS.len;have hlT := hokT.len;have hlST := hokST.len;have hgr := great_not hST;have hIS := hS;unfold accL at hB;have hch : Chg [b] w w := Chg.refl _ _;refine zE2 Tryz.func299 rfl ?_;refine Sr fun _ kh1 => ?_;refine zBh rfl rfl rfl hch fun b3 wm3 hb3 hcm3 hge3 hgehch3 hch => ?_;have hr := hr.keep0 hcm3;have ht := ht.keep0 hcm3;have hneb3 : b ≠ b3 := by have := hB.lt; omega
 have hB := hB.keep0 hcm3;refine za rfl (zz (kh1 (zc fun _ kh3 => Sr fun _ kh4 => zm rfl ?_)));refine WL.ev (Ev.nilPtr rfl) rfl ?_;refine zf rfl (zf rfl (zl hB rfl rfl (zq rfl rfl (zz (kh4 ?_)))));refine zy rfl ?_ ?_<;>intro hc1<;>try simp only [qs] at hc1
 ·exfalso; omega
 ·refine zkk ?_
  refine kh3 (zc fun _ kh6 => ?_);clear hS;refine CW.regionHC 13 rfl hmix fun kR7 kr7 hS hdr => ?_;have hch := hch.ta hdr;have hB := hB.keep0 hdr;have hb3 := hb3.k0 hdr;have hr := hr.keep0 hdr;have ht := ht.keep0 hdr;have hB_r := hB;have hb3_r := hb3;refine wh 0 rfl hS (fun _ _ => Ev.move rfl) (wh 1 rfl hS (fun _ _ => Ev.nilPtr rfl) (wh 2 rfl hS (fun _ _ => Ev.fieldAddr rfl) (wh 3 rfl hS (fun _ hw' => Ev.loadB rfl rfl (hB_r.keep0 hw') rfl rfl) ?_)))
  try simp only [List.drop_succ_cons, List.drop_zero, List.take_succ_cons, List.take_zero]
  refine wh 4 rfl hS (fun _ _ => Ev.fieldAddr rfl) (wh 5 rfl hS (fun _ hw' => Ev.loadB rfl rfl (hb3_r.keep0 hw') rfl rfl) ?_)
  try simp only [List.drop_succ_cons, List.drop_zero, List.take_succ_cons, List.take_zero]
  refine WH.all2 6 10 (by kernel_rfl) ?_ ?_
  ·refine WHat.call 6 rfl hasF165 rfl rfl (r3Add_spec _ _ _ _ _ _ _ _ _ hr ht (by omega) (by omega) (by omega) (by omega)) fun v w1 h' => ?_;obtain ⟨hD, hC⟩ := h';rw [val_wd, val_wd, formD_self hokS, formD_self hokT, show both2 addD (some (sumD S)) (some (sumD T)) = addD (sumD S) (sumD T) from rfl, addD_sum hIS hT hST] at hD;obtain ⟨r2, d, hd, rfl, hN⟩ := hD.resolve_right (fun q => by cases q.1);cases hd;have hch := hch.ta hC;have hB := hB.keep0 hC;have hb3 := hb3.k0 hC;have hS := hS.trans hC;refine ⟨hS, ?_⟩;refine wh 7 rfl hS (fun _ _ => Ev.move rfl) (wh 8 rfl hS (fun _ _ => Ev.extract rfl rfl) (wh 9 rfl hS (fun _ _ => Ev.extract rfl rfl) ?_));refine WH.allocC (l := [.bool false, .slice none 0 0, .int .i64 0]) 10 rfl (by kernel_rfl) hS rfl rfl fun b5 wm5 hb5 hcm5 hge5 hS1 => ?_;have hgeS5 := Nat.le_trans hS.size hge5;have hS := hS1;have hgehch5 := Nat.le_trans hch.size hge5;have hch := hch.ta hcm5;have hN := hN.keep0 hcm5;have hneb5 : b ≠ b5 := by have := hB.lt; omega
   have hB := hB.keep0 hcm5;have hneb35 := zdd hb3.lt hge5;have hb3 := hb3.k0 hcm5;refine WH.storeBN 11 rfl (by kernel_rfl) hS hgeS5 rfl rfl rfl ao hb5 (by simp) rfl fun ws17 hb5_ hcs17 hS => ?_;(try simp only [Sx.splice, qt] at hb5_);have hch := hch.s1 hcs17;have hB := hB.kq hcs17;have hb3 := hb3.kq hcs17;have hN := hN.keepBK hb5 hcs17 an;have hb5 := hb5_;refine wh 12 rfl hS (fun _ _ => Ev.assign rfl) ?_;refine WH.done (by kernel_rfl) (kr7 _ _ _ ?_);refine kh6 (zc fun _ kh8 => Sr fun _ kh9 => zg hb5 rfl ?_);refine WL.call hasF331 rfl rfl (r7great_spec _ _ _ _ _ hN (by omega) (by omega)) fun v w2 h' => ?_;obtain ⟨rfl, hC⟩ := h';rw [val_wd, decide_eq_false (by omega)];have hch := hch.ta hC;have hB := hB.keep0 hC;have hb3 := hb3.k0 hC;have hb5 := hb5.k0 hC;have hN := hN.keep0 hC;refine zz (kh9 ?_);refine CW.condF rfl ?_;refine zkk ?_;refine kh8 (Sr fun _ kh11 => zm rfl (zg hb5 rfl ?_));refine WL.ev (Ev.nilPtr rfl) rfl ?_;refine zf rfl ?_;refine zss rfl rfl ao hB rfl fun ws18 hB_ hcs18 => ?_;(try simp only [Sx.splice, qt] at hB_);have hch := hch.s1 hcs18;have hb3 := hb3.kq hcs18;have hN := hN.keepBK hB hcs18 an;have hB := hB_;refine zz (kh11 (zc fun _ kh13 => ?_));refine CW.regionKC 10 11 rfl hmix fun kR14 kr14 hS hdr => ?_;have hch := hch.ta hdr;have hB := hB.keep0 hdr;have hb3 := hb3.k0 hdr;have hN := hN.keep0 hdr;have hB_r := hB;have hb3_r := hb3;refine wk 0 rfl hS (fun _ _ => Ev.move rfl) (wk 1 rfl hS (fun _ _ => Ev.move rfl) (wk 2 rfl hS (fun _ _ => Ev.nilPtr rfl) (wk 3 rfl hS (fun _ _ => Ev.fieldAddr rfl) (wk 4 rfl hS (fun _ hw' => Ev.loadB rfl rfl (hB_r.keep0 hw') rfl rfl) ?_))))
   try simp only [List.drop_succ_cons, List.drop_zero, List.take_succ_cons, List.take_zero]
   refine wk 5 rfl hS (fun _ _ => Ev.fieldAddr rfl) (wk 6 rfl hS (fun _ hw' => Ev.load rfl rfl ((hb3_r.keep0 hw').at_ rfl)) ?_);refine WK.oneCall 7 rfl (by kernel_rfl) hasF332 rfl rfl (r7counted_spec s k _ (hs0.mono (by omega)) hk5) fun v w3 h' => ?_;obtain ⟨rfl, hC⟩ := h';rw [show (countP s k).cells = [.int .i64 ((countP s k).na : Int), .int .i64 ((countP s k).up : Int), .int .i64 ((countP s k).dn : Int), .int .i64 ((countP s k).mi : Int), .int .i64 ((countP s k).pl : Int), .int .i64 ((countP s k).al : Int)] from rfl];have hch := hch.ta hC;have hB := hB.keep0 hC;have hN := hN.keep0 hC;have hS := hS.trans hC;refine ⟨hS, ?_⟩;refine WK.takeT 8 rfl (by kernel_rfl) (by kernel_rfl) (by kernel_rfl) (by kernel_rfl) (fun _ => hS) (fun w' => Ev.nilPtr rfl) rfl ?_;refine wk 9 rfl hS (fun _ _ => Ev.fieldAddr rfl) ?_;refine WK.storeB 10 rfl (by kernel_rfl) (by kernel_rfl) rfl rfl rfl ao hB (by simp) rfl fun ws19 hB_ hcs19 => ?_;(try simp only [Sx.splice, qt] at hB_);have hch := hch.s1 hcs19;have hN := hN.keepBK hB hcs19 an;have hB := hB_;refine WK.done (by kernel_rfl) (kr14 _ _ _ ?_);refine kh13 (Sr fun _ kh15 => za rfl (zz (kh15 ?_)));refine zr (zr1 rfl rfl ?_);exact ⟨rfl, ⟨r2, hB, hN⟩, hch⟩
  ·refine WHat.allocC (l := [.bool false, .slice none 0 0, .int .i64 0]) 10 rfl hS rfl rfl fun b5 wm5 hb5 hcm5 hge5 hS1 => ?_;have hgeS5 := Nat.le_trans hS.size hge5;have hS := hS1;have hgehch5 := Nat.le_trans hch.size hge5;have hch := hch.ta hcm5;have hr := hr.keep0 hcm5;have ht := ht.keep0 hcm5;have hneb5 : b ≠ b5 := by have := hB.lt; omega
   have hB := hB.keep0 hcm5;have hneb35 := zdd hb3.lt hge5;have hb3 := hb3.k0 hcm5;refine WH.oneCall 6 rfl (by kernel_rfl) hasF165 rfl rfl (r3Add_spec _ _ _ _ _ _ _ _ _ hr ht (by omega) (by omega) (by omega) (by omega)) fun v w4 h' => ?_;obtain ⟨hD, hC⟩ := h';rw [val_wd, val_wd, formD_self hokS, formD_self hokT, show both2 addD (some (sumD S)) (some (sumD T)) = addD (sumD S) (sumD T) from rfl, addD_sum hIS hT hST] at hD;obtain ⟨r2, d, hd, rfl, hN⟩ := hD.resolve_right (fun q => by cases q.1);cases hd;have hch := hch.ta hC;have hB := hB.keep0 hC;have hb3 := hb3.k0 hC;have hb5 := hb5.k0 hC;have hS := hS.trans hC;refine ⟨hS, ?_⟩;refine wh 7 rfl hS (fun _ _ => Ev.move rfl) (wh 8 rfl hS (fun _ _ => Ev.extract rfl rfl) (wh 9 rfl hS (fun _ _ => Ev.extract rfl rfl) ?_));refine WH.storeBN 11 rfl (by kernel_rfl) hS hgeS5 rfl rfl rfl ao hb5 (by simp) rfl fun ws20 hb5_ hcs20 hS => ?_;(try simp only [Sx.splice, qt] at hb5_);have hch := hch.s1 hcs20;have hB := hB.kq hcs20;have hb3 := hb3.kq hcs20;have hN := hN.keepBK hb5 hcs20 an;have hb5 := hb5_;refine wh 12 rfl hS (fun _ _ => Ev.assign rfl) ?_;refine WH.done (by kernel_rfl) (kr7 _ _ _ ?_);refine kh6 (zc fun _ kh17 => Sr fun _ kh18 => zg hb5 rfl ?_);refine WL.call hasF331 rfl rfl (r7great_spec _ _ _ _ _ hN (by omega) (by omega)) fun v w5 h' => ?_;obtain ⟨rfl, hC⟩ := h';rw [val_wd, decide_eq_false (by omega)];have hch := hch.ta hC;have hB := hB.keep0 hC;have hb3 := hb3.k0 hC;have hb5 := hb5.k0 hC;have hN := hN.keep0 hC;refine zz (kh18 ?_);refine CW.condF rfl ?_;refine zkk ?_;refine kh17 (Sr fun _ kh20 => zm rfl (zg hb5 rfl ?_));refine WL.ev (Ev.nilPtr rfl) rfl ?_;refine zf rfl ?_;refine zss rfl rfl ao hB rfl fun ws21 hB_ hcs21 => ?_;(try simp only [Sx.splice, qt] at hB_);have hch := hch.s1 hcs21;have hb3 := hb3.kq hcs21;have hN := hN.keepBK hB hcs21 an;have hB := hB_;refine zz (kh20 (zc fun _ kh22 => ?_));refine CW.regionKC 10 11 rfl hmix fun kR23 kr23 hS hdr => ?_;have hch := hch.ta hdr;have hB := hB.keep0 hdr;have hb3 := hb3.k0 hdr;have hN := hN.keep0 hdr;have hB_r := hB;have hb3_r := hb3;refine wk 0 rfl hS (fun _ _ => Ev.move rfl) (wk 1 rfl hS (fun _ _ => Ev.move rfl) (wk 2 rfl hS (fun _ _ => Ev.nilPtr rfl) (wk 3 rfl hS (fun _ _ => Ev.fieldAddr rfl) (wk 4 rfl hS (fun _ hw' => Ev.loadB rfl rfl (hB_r.keep0 hw') rfl rfl) ?_))))
   try simp only [List.drop_succ_cons, List.drop_zero, List.take_succ_cons, List.take_zero]
   refine wk 5 rfl hS (fun _ _ => Ev.fieldAddr rfl) (wk 6 rfl hS (fun _ hw' => Ev.load rfl rfl ((hb3_r.keep0 hw').at_ rfl)) ?_);refine WK.oneCall 7 rfl (by kernel_rfl) hasF332 rfl rfl (r7counted_spec s k _ (hs0.mono (by omega)) hk5) fun v w6 h' => ?_;obtain ⟨rfl, hC⟩ := h';rw [show (countP s k).cells = [.int .i64 ((countP s k).na : Int), .int .i64 ((countP s k).up : Int), .int .i64 ((countP s k).dn : Int), .int .i64 ((countP s k).mi : Int), .int .i64 ((countP s k).pl : Int), .int .i64 ((countP s k).al : Int)] from rfl];have hch := hch.ta hC;have hB := hB.keep0 hC;have hN := hN.keep0 hC;have hS := hS.trans hC;refine ⟨hS, ?_⟩;refine WK.takeT 8 rfl (by kernel_rfl) (by kernel_rfl) (by kernel_rfl) (by kernel_rfl) (fun _ => hS) (fun w' => Ev.nilPtr rfl) rfl ?_;refine wk 9 rfl hS (fun _ _ => Ev.fieldAddr rfl) ?_;refine WK.storeB 10 rfl (by kernel_rfl) (by kernel_rfl) rfl rfl rfl ao hB (by simp) rfl fun ws22 hB_ hcs22 => ?_;(try simp only [Sx.splice, qt] at hB_);have hch := hch.s1 hcs22;have hN := hN.keepBK hB hcs22 an;have hB := hB_;refine WK.done (by kernel_rfl) (kr23 _ _ _ ?_);refine kh22 (Sr fun _ kh24 => za rfl (zz (kh24 ?_)));refine zr (zr1 rfl rfl ?_);exact ⟨rfl, ⟨r2, hB, hN⟩, hch⟩

end

/- Reference of layer 7: Whole. No condition. -/
section
open Go Sx Wd

structure KWh (l : List Nat) (b2 b3 : Nat) (w0 : World) (g : Nat × Value) (w : World) : Prop where
  le : g.1 ≤ l.length
  h3 : BK w b3 270 (accL (sumI (l.take g.1)) g.2 (cntP (l.take g.1)))
  h2 : BK w b2 270 [.bool false, .slice none 0 0, .int .i64 0, .int .i64 0, .int .i64 0, .int .i64 0, .int .i64 0, .int .i64 0, .int .i64 0]
  nu : NU w g.2 (wd (sumD (sumI (l.take g.1))).m)
  ch : Chg [] w0 w
theorem kindP_le5 (x : Nat) : kindP x ≤ 5 := by unfold kindP; repeat (first | omega | split)

theorem r7Whole_spec (v : Value) (l : List Nat) (w : World) (hv : NF w v l) (hlm : l.length ≤ 1000000000) : Ret Tryz.prog 219 [v] w fun u w' => (∃ r, u = .agg (accL (sumI l) r (cntP l)).toArray ∧ NU w' r (wd (sumD (sumI l)).m)) ∧ Chg [] w w' := by
 obtain ⟨⟨al, cl, rfl, hcapl, hrl⟩, hWl, hll⟩ := hv;have hch : Chg [] w w := Chg.refl _ _;refine zE1 Tryz.func219 rfl ?_;refine Sr fun _ kh1 => ?_;refine WL.allocB (l := [.bool false, .slice none 0 0, .int .i64 0, .int .i64 0, .int .i64 0, .int .i64 0, .int .i64 0, .int .i64 0, .int .i64 0]) rfl rfl fun b2 wm2 hb2 hcm2 hge2 => ?_;have hgehch2 := Nat.le_trans hch.size hge2;have hch := hch.ta hcm2;refine zz (kh1 (Sr fun _ kh3 => ?_));refine WL.allocB (l := [.bool false, .slice none 0 0, .int .i64 0, .int .i64 0, .int .i64 0, .int .i64 0, .int .i64 0, .int .i64 0, .int .i64 0]) rfl rfl fun b3 wm3 hb3 hcm3 hge3 => ?_;have hgehch3 := Nat.le_trans hch.size hge3;have hch := hch.ta hcm3;have hneb23 := zdd hb2.lt hge3;have hb2 := hb2.k0 hcm3;refine zz (kh3 (zc fun _ kh5 => Sr fun _ kh6 => za rfl (zz (kh6 ?_))));refine CW.block ?_;refine CW.loop (S := fun g : Nat × Value => [(0, .slice al l.length cl), (2, .pointer (some ⟨b2, 0, none⟩)), (3, .pointer (some ⟨b3, 0, none⟩)), (4, .int .i64 (g.1 : Int))]) (Inv := KWh l b2 b3 w) (mu := fun g => l.length - g.1) ((0, .slice none 0 0)) ?_ ?_ ?_
 ·exact ⟨Nat.zero_le _, hb3, hb2, by rw [List.take_zero, show sumI [] = 0 from rfl, rsumD_zero, show Dy.zero.m = 0 from rfl, wd_zero]; exact NU.nil, hch⟩
 ·exact SLp
 ·rintro ⟨i, r⟩ wr ⟨hi, hb3, hb2, hr, hch⟩;dsimp only at hi hb3 hb2 hr hch;dsimp only;refine zc fun _ kh8 => Sr fun _ kh9 => zm rfl (zm rfl (zn rfl ?_));refine WL.ev (Ev.lss rfl rfl) rfl ?_;refine zz (kh9 ?_);refine zy rfl ?_ ?_<;>intro hc1<;>try simp only [qs] at hc1
  ·have hx := D_getD hWl i
   have hst := sumI_step (l := l) (i := i) (by omega);have hct := cntP_step (l := l) (i := i) (by omega);have hsl := cnt_le (l.take i);rw [take_len (by omega)] at hsl;have hi1 := sumI_in (l := l.take i) (by rw [take_len (by omega)]; omega);have hi2 := sumI_in (l := l.take (i + 1)) (by rw [take_len (by omega)]; omega);rw [hst] at hi2;refine zkk ?_;refine kh8 (zc fun _ kh11 => ?_);refine CW.block ?_;refine zR fun _ kr12 => ?_;refine zm rfl (zm rfl ?_);refine WL.ev (Ev.ixR (i) rfl rfl (hrl.keep0 hch) (by omega) (by omega) (by simp; omega)) rfl ?_;refine WL.ev (Ev.load rfl rfl ((hrl.keep0 hch).f64 (by first | omega | (simp; omega)))) rfl ?_;refine WL.call hasF300 rfl rfl (r7Of_spec (l.getD i 0) _ hx) fun v w1 h' => ?_;obtain ⟨⟨rt, rfl, ht⟩, hC⟩ := h';have hch := hch.ta hC;have hb3 := hb3.k0 hC;have hb2 := hb2.k0 hC;have hr := hr.keep0 hC;refine WL.call hasF299 rfl rfl (r7Add_spec b3 (kindP (l.getD i 0)) (sumI (l.take i)) (fvI (l.getD i 0)) _ _ (cntP (l.take i)) _ hb3 hr ht hi1 (fvI_in _) hi2 (hsl.mono (by omega)) (kindP_le5 _)) fun v w2 h' => ?_;obtain ⟨rfl, ⟨r2, hb3, hr⟩, hC16⟩ := h';have hch := hch.step hC16 (fun y hy => by simp only [List.mem_singleton] at hy; subst hy; exact .inr hgehch3);have hb2 := hb2.keep hC16 (by simp only [List.mem_singleton]; omega);rw [← hst, ← hct] at hb3;rw [← hst] at hr;refine WL.nil (kr12 _ _ _ (kh11 ?_));refine zR fun _ kr13 => ?_;refine zm rfl ?_;(first | refine zi rfl rfl ?_ | refine zo rfl rfl ?_);refine za rfl ?_;refine WL.nil (kr13 _ _ _ ?_);refine ⟨rfl, (i + 1, r2), ?_, ?_, ?_⟩
   ·exact SLp
   ·exact ⟨by dsimp only; omega, hb3, hb2, hr, hch⟩
   ·show l.length - (i + 1) < l.length - i; omega
  ·have hiX : i = l.length := by omega
   subst hiX;rw [List.take_length] at hb3 hr;refine CW.exit ?_;refine kh5 (Sr fun _ kh14 => ?_);unfold accL at hb3;refine zg hb3 rfl ?_;refine zss rfl rfl ao hb2 rfl fun ws23 hb2_ hcs23 => ?_;(try simp only [Sx.splice, qt] at hb2_);have hch := hch.s1 hcs23;have hr := hr.keepBK hb2 hcs23 an;have hb2 := hb2_;refine zz (kh14 ?_);refine zr (bodyA.retR1 rfl (RVal.cell rfl (hb2.varA rfl rfl)) ?_);exact ⟨⟨r, rfl, hr⟩, hch⟩

end

/- Reference of layer 11: may. No condition. -/
section
open Go Sx Wd

theorem r11may_spec (b : Nat) (nn nd : Bool) (vn vd : Value) (ln ld : List Nat) (en ed : Int) (w : World) (hB : BK w b 218 [.bool nn, vn, .int .i64 en, .bool nd, vd, .int .i64 ed]) (hn : NU w vn ln) (hd : NU w vd ld) (hen : -9223372036854775808 ≤ en ∧ en ≤ 9223372036854775807) (hed : -9223372036854775808 ≤ ed ∧ ed ≤ 9223372036854775807) (hln : ln.length ≤ 34359738368) (hld : ld.length ≤ 34359738368) : Ret Tryz.prog 313 [.slice (some ⟨b, 0, none⟩) 1 1] w fun u w' => FmR w' u (formD nn (val ln) en) (formD nd (val ld) ed) (sgD nd (val ld)) ∧ Chg [] w w' := by
 have hch : Chg [] w w := Chg.refl _ _;have hB0 := hB;have hn0 := hn;have hd0 := hd;have hon := hn.one;have hod := hd.one;refine zE1 Tryz.func313 rfl ?_;refine Sr fun _ kh1 => za rfl (za rfl (zz (kh1 (zc fun _ kh3 => Sr fun _ kh4 => za rfl (zz (kh4 ?_))))));refine CW.block ?_;refine CW.loop (S := fun i : Nat => [(0, .slice (some ⟨b, 0, none⟩) 1 1), (4, .int .i64 (i : Int))]) (Inv := KF1 (sgD nd (val ld)) w) (mu := fun i => 1 - i) (0) ?_ ?_ ?_
 ·exact ⟨by decide, fun h => (by cases h), hch⟩
 ·exact SLp
 ·rintro i wr ⟨hi1, hs1, hch⟩;have hB := hB0.keep0 hch;have hn := hn0.keep0 hch;have hd := hd0.keep0 hch;refine zc fun _ kh6 => Sr fun _ kh7 => zm rfl (zm rfl (zn rfl ?_));refine WL.ev (Ev.lss rfl rfl) rfl ?_;refine zz (kh7 ?_);refine zy rfl ?_ ?_<;>intro hc1<;>try simp only [qs] at hc1
  ·have hi0 : i = 0 := by omega
   subst hi0;refine zkk ?_;refine kh6 (zc fun _ kh9 => ?_);refine CW.block ?_;refine Sr fun _ kh10 => zm rfl (zm rfl ?_);refine WL.ev (Ev.indexAddr rfl rfl (by omega) (by omega)) rfl ?_;rw [show 0 + ((0 : Nat) : Int).toNat * 6 = 0 from rfl];refine zf rfl ?_;refine WL.ev (Ev.loadB rfl rfl hB rfl rfl) rfl ?_
   try simp only [List.drop_succ_cons, List.drop_zero, List.take_succ_cons, List.take_zero]
   refine WL.call hasF243 rfl rfl (r3Sign_spec nd vd ld ed _ hd (by omega)) fun v w1 h' => ?_;obtain ⟨rfl, hC23⟩ := h';have hch := hch.ta hC23;refine WL.ev (Ev.lss rfl rfl) rfl ?_;refine zz (kh10 ?_);refine zy rfl ?_ ?_<;>intro hc2<;>try simp only [qs] at hc2
   ·have hs2 : sgD nd (val ld) < 0 := hc2
    refine Sr fun _ kh12 => za rfl (za rfl (zz (kh12 ?_)));refine zr (zr2 rfl rfl rfl ?_);exact ⟨.inl ⟨hs2, rfl⟩, hch⟩
   ·have hs2 : 0 ≤ sgD nd (val ld) := by have := hc2; omega
    refine zkk ?_;refine kh9 ?_;refine zR fun _ kr14 => ?_;refine zm rfl ?_;(first | refine zi rfl rfl ?_ | refine zo rfl rfl ?_);refine za rfl ?_;refine WL.nil (kr14 _ _ _ ?_);refine ⟨rfl, 1, ?_, ?_, ?_⟩
    ·exact SLp
    ·exact ⟨by decide, fun _ => hs2, hch⟩
    ·decide
  ·have hi0 : i = 1 := by omega
   subst hi0;have hs1 := hs1 rfl;refine CW.exit ?_;refine kh3 (Sr fun _ kh15 => za rfl (zz (kh15 (zc fun _ kh17 => Sr fun _ kh18 => za rfl (zz (kh18 ?_))))));refine CW.block ?_;refine CW.loop (S := fun g : Nat × Value => [(0, .slice (some ⟨b, 0, none⟩) 1 1), (5, g.2), (6, .int .i64 (g.1 : Int))]) (Inv := KF2 (formD nn (val ln) en) (formD nd (val ld) ed) w) (mu := fun g => 1 - g.1) ((0, .slice none 0 0)) ?_ ?_ ?_
   ·exact ⟨by decide, fun _ => rfl, fun h => (by cases h), hch⟩
   ·exact SLp
   ·rintro ⟨i, vo⟩ wr ⟨hi1, hz, ho, hch⟩;dsimp only at hi1 hz ho hch;dsimp only;have hB := hB0.keep0 hch;have hn := hn0.keep0 hch;have hd := hd0.keep0 hch;refine zc fun _ kh20 => Sr fun _ kh21 => zm rfl (zm rfl (zn rfl ?_));refine WL.ev (Ev.lss rfl rfl) rfl ?_;refine zz (kh21 ?_);refine zy rfl ?_ ?_<;>intro hc3<;>try simp only [qs] at hc3
    ·have hi0 : i = 0 := by omega
     subst hi0;obtain rfl := hz rfl;refine zkk ?_;refine kh20 (zc fun _ kh23 => ?_);refine CW.block ?_;refine Sr fun _ kh24 => zm rfl (zm rfl ?_);refine WL.ev (Ev.indexAddr rfl rfl (by omega) (by omega)) rfl ?_;rw [show 0 + ((0 : Nat) : Int).toNat * 6 = 0 from rfl];refine zf rfl ?_;refine WL.ev (Ev.loadB rfl rfl hB rfl rfl) rfl ?_
     try simp only [List.drop_succ_cons, List.drop_zero, List.take_succ_cons, List.take_zero]
     refine WL.call hasF240 rfl rfl (r3Made_spec nn vn ln en _ hn hen hln) fun v w2 h' => ?_;obtain ⟨hD37, hC37⟩ := h';have hch := hch.ta hC37;have hB := hB.keep0 hC37;have hd := hd.keep0 hC37;rcases hD37 with ⟨rx, dx, he37, rfl, hNx⟩ | ⟨he37, rfl⟩
     ·refine zm rfl (zx rfl rfl (zx rfl rfl ?_));refine zAh rfl rfl hch fun b7 wm7 hb7 hcm7 hge7 hgehch7 hch => ?_;have hd := hd.keep0 hcm7;have hNx := hNx.keep0 hcm7;have hneb7 : b ≠ b7 := by have := hB.lt; omega
      have hB := hB.keep0 hcm7;refine zss rfl rfl ao hb7 rfl fun ws1 hb7_ hcs1 => ?_;(try simp only [Sx.splice, qt] at hb7_);have hch := hch.s1 hcs1;have hB := hB.kq hcs1;have hd := hd.keepBK hb7 hcs1 an;have hNx := hNx.keepBK hb7 hcs1 an;have hb7 := hb7_;refine za rfl (zz (kh24 (Sr fun _ kh26 => zm rfl (zm rfl ?_))));refine WL.ev (Ev.indexAddr rfl rfl (by omega) (by omega)) rfl ?_;rw [show 0 + ((0 : Nat) : Int).toNat * 6 = 0 from rfl];refine zf rfl ?_;refine WL.ev (Ev.loadB rfl rfl hB rfl rfl) rfl ?_
      try simp only [List.drop_succ_cons, List.drop_zero, List.take_succ_cons, List.take_zero]
      refine WL.call hasF240 rfl rfl (r3Made_spec nd vd ld ed _ hd hed hld) fun v w3 h' => ?_;obtain ⟨hD46, hC46⟩ := h';have hch := hch.ta hC46;have hB := hB.keep0 hC46;have hb7 := hb7.k0 hC46;have hNx := hNx.keep0 hC46;rcases hD46 with ⟨ry, dy, he46, rfl, hNy⟩ | ⟨he46, rfl⟩
      ·refine zm rfl (zx rfl rfl (zx rfl rfl ?_));refine zAh rfl rfl hch fun b9 wm9 hb9 hcm9 hge9 hgehch9 hch => ?_;have hNx := hNx.keep0 hcm9;have hNy := hNy.keep0 hcm9;have hneb9 : b ≠ b9 := by have := hB.lt; omega
       have hneb79 := zdd hb7.lt hge9;have hb7 := hb7.k0 hcm9;refine zss rfl rfl ao hb9 rfl fun ws2 hb9_ hcs2 => ?_;(try simp only [Sx.splice, qt] at hb9_);have hch := hch.s1 hcs2;have hb7 := hb7.kq hcs2;have hNx := hNx.keepBK hb9 hcs2 an;have hNy := hNy.keepBK hb9 hcs2 an;have hb9 := hb9_;refine za rfl (zz (kh26 (zc fun _ kh28 => Sr fun _ kh29 => zm rfl ?_)));refine WL.ev (Ev.not rfl) rfl ?_;refine zm rfl (zw rfl (zm rfl (zw rfl ?_)));refine WL.ev (Ev.not rfl) rfl ?_;refine ze rfl rfl (zz (kh29 ?_));refine CW.condF rfl ?_;refine zkk ?_;refine kh28 ?_;refine zR fun _ kr31 => ?_;refine zm rfl (zg hb7 rfl (zg hb9 rfl ?_));refine WL.ev (Ev.build (vs := _) (cs := [_, _, _, _, _, _]) rfl rfl) rfl ?_;refine WL.buildSlice (m := 1) (cs := [.bool dx.neg, rx, .int .i64 dx.e, .bool dy.neg, ry, .int .i64 dy.e]) (by decide) (by decide) rfl (by kernel_rfl) rfl fun b59 w59 hn59 => ?_;have hcm59 := hn59.chg;have hb59 : BK w59 b59 _ [.bool dx.neg, rx, .int .i64 dx.e, .bool dy.neg, ry, .int .i64 dy.e] := hn59.at_;have hch := hch.trans hcm59;have hNx := hNx.keep0 hcm59;have hNy := hNy.keep0 hcm59;have hrc59 := RC.of_BK hb59;refine WL.append (news := [.bool dx.neg, rx, .int .i64 dx.e, .bool dy.neg, ry, .int .i64 dy.e]) (xs := []) (m := 0) (by rfl) (by decide) rfl rfl ⟨rfl, .inl ⟨rfl, rfl⟩⟩ rfl hrc59 (by intro v hv; simp only [List.mem_cons, List.not_mem_nil, or_false] at hv; rcases hv with rfl | rfl | rfl | rfl | rfl | rfl <;> first | rfl | exact NU.one (by assumption)) (by decide) (by decide) rfl fun v60 w60 ho60 hc60 hl60 => ?_;have hc60 : Chg [] w59 w60 := by simpa [Value.ownBlock] using hc60
       have hch := hch.trans hc60;have hNx := hNx.keep0 hc60;have hNy := hNy.keep0 hc60;rcases own_cases ho60 with ⟨_, h0, _⟩ | ⟨g60, cap60, rfl, _, _, hcells⟩
       · cases h0
       have hrc : RC w60 ⟨g60, 0, none⟩ (ratC dx dy rx ry) := fun j v hv => by rw [add_addr, Nat.zero_add]; exact hcells j v hv
       refine za rfl ?_;refine WL.nil (kr31 _ _ _ (kh23 ?_));refine zR fun _ kr32 => ?_;refine zm rfl ?_;(first | refine zi rfl rfl ?_ | refine zo rfl rfl ?_);refine za rfl ?_;refine WL.nil (kr32 _ _ _ ?_);refine ⟨rfl, (1, .slice (some ⟨g60, 0, none⟩) 1 cap60), ?_, ?_, ?_⟩
       ·exact SLp
       ·exact ⟨Nat.le_refl 1, fun h => (by cases h), fun _ => ⟨dx, dy, g60, cap60, rx, ry, he37, he46, rfl, hrc, hNx, hNy⟩, hch⟩
       ·show 1 - 1 < 1 - 0; decide
      ·refine zm rfl (zx rfl rfl (zx rfl rfl ?_));refine zAh rfl rfl hch fun b9 wm9 hb9 hcm9 hge9 hgehch9 hch => ?_;have hneb9 : b ≠ b9 := by have := hB.lt; omega
       refine zss rfl rfl ao hb9 rfl fun ws3 hb9_ hcs3 => ?_;have hch := hch.s1 hcs3;refine za rfl (zz (kh26 (zc fun _ kh33 => Sr fun _ kh34 => zm rfl ?_)));refine WL.ev (Ev.not rfl) rfl ?_;refine zm rfl (zw rfl (zm rfl (zw rfl ?_)));refine WL.ev (Ev.not rfl) rfl ?_;refine ze rfl rfl (zz (kh34 ?_));refine CW.condT rfl ?_;refine Sr fun _ kh36 => za rfl (za rfl (zz (kh36 ?_)));refine zr (zr2 rfl rfl rfl ?_);exact ⟨.inr (.inl ⟨hs1, by first | exact .inl he37 | exact .inr he46, rfl⟩), hch⟩
     ·refine zm rfl (zx rfl rfl (zx rfl rfl ?_));refine zAh rfl rfl hch fun b7 wm7 hb7 hcm7 hge7 hgehch7 hch => ?_;have hd := hd.keep0 hcm7;have hneb7 : b ≠ b7 := by have := hB.lt; omega
      have hB := hB.keep0 hcm7;refine zss rfl rfl ao hb7 rfl fun ws4 hb7_ hcs4 => ?_;have hch := hch.s1 hcs4;have hB := hB.kq hcs4;have hd := hd.keepBK hb7 hcs4 an;refine za rfl (zz (kh24 (Sr fun _ kh38 => zm rfl (zm rfl ?_))));refine WL.ev (Ev.indexAddr rfl rfl (by omega) (by omega)) rfl ?_;rw [show 0 + ((0 : Nat) : Int).toNat * 6 = 0 from rfl];refine zf rfl ?_;refine WL.ev (Ev.loadB rfl rfl hB rfl rfl) rfl ?_
      try simp only [List.drop_succ_cons, List.drop_zero, List.take_succ_cons, List.take_zero]
      refine WL.call hasF240 rfl rfl (r3Made_spec nd vd ld ed _ hd hed hld) fun v w4 h' => ?_;obtain ⟨hD46, hC46⟩ := h';have hch := hch.ta hC46;have hB := hB.keep0 hC46;rcases hD46 with ⟨ry, dy, he46, rfl, hNy⟩ | ⟨he46, rfl⟩
      ·refine zm rfl (zx rfl rfl (zx rfl rfl ?_));refine zAh rfl rfl hch fun b9 wm9 hb9 hcm9 hge9 hgehch9 hch => ?_;have hneb9 : b ≠ b9 := by have := hB.lt; omega
       refine zss rfl rfl ao hb9 rfl fun ws5 hb9_ hcs5 => ?_;have hch := hch.s1 hcs5;refine za rfl (zz (kh38 (zc fun _ kh40 => Sr fun _ kh41 => zm rfl ?_)));refine WL.ev (Ev.not rfl) rfl ?_;refine zm rfl (zv rfl (zv rfl (zt rfl rfl (zz (kh41 ?_)))));refine CW.condT rfl ?_;refine Sr fun _ kh43 => za rfl (za rfl (zz (kh43 ?_)));refine zr (zr2 rfl rfl rfl ?_);exact ⟨.inr (.inl ⟨hs1, by first | exact .inl he37 | exact .inr he46, rfl⟩), hch⟩
      ·refine zm rfl (zx rfl rfl (zx rfl rfl ?_));refine zAh rfl rfl hch fun b9 wm9 hb9 hcm9 hge9 hgehch9 hch => ?_;have hneb9 : b ≠ b9 := by have := hB.lt; omega
       refine zss rfl rfl ao hb9 rfl fun ws6 hb9_ hcs6 => ?_;have hch := hch.s1 hcs6;refine za rfl (zz (kh38 (zc fun _ kh45 => Sr fun _ kh46 => zm rfl ?_)));refine WL.ev (Ev.not rfl) rfl ?_;refine zm rfl (zv rfl (zv rfl (zt rfl rfl (zz (kh46 ?_)))));refine CW.condT rfl ?_;refine Sr fun _ kh48 => za rfl (za rfl (zz (kh48 ?_)));refine zr (zr2 rfl rfl rfl ?_);exact ⟨.inr (.inl ⟨hs1, by first | exact .inl he37 | exact .inr he46, rfl⟩), hch⟩
    ·have hi0 : i = 1 := by omega
     subst hi0;obtain ⟨dx, dy, ad, c, rx, ry, hex, hey, rfl, hrc, hNx, hNy⟩ := ho rfl;refine CW.exit ?_;refine kh17 (zc fun _ kh50 => Sr fun _ kh51 => za rfl (zz (kh51 ?_)));refine CW.block ?_;refine CW.loop (S := fun i : Nat => [(5, .slice (some ⟨ad, 0, none⟩) 1 c), (11, .int .i64 (i : Int))]) (Inv := KF3 dx dy rx ry ad w) (mu := fun i => 1 - i) (0) ?_ ?_ ?_
     ·exact ⟨by decide, fun h => (by cases h), hrc, hNx, hNy, hch⟩
     ·exact SLp
     ·rintro i wr ⟨hi1, hz3, hrc, hNx, hNy, hch⟩;have hrl := hrc.lt (by simp [ratC]);refine zc fun _ kh53 => Sr fun _ kh54 => zm rfl (zm rfl (zn rfl ?_));refine WL.ev (Ev.lss rfl rfl) rfl ?_;refine zz (kh54 ?_);refine zy rfl ?_ ?_<;>intro hc4<;>try simp only [qs] at hc4
      ·have hi0 : i = 0 := by omega
       subst hi0;have hNy2 := hNy;obtain ⟨⟨ay, cy, hey2, hcapy, hry⟩, hWy, hly⟩ := hNy2;refine zkk ?_;refine kh53 (zc fun _ kh56 => ?_);refine CW.block ?_;refine Sr fun _ kh57 => zm rfl (zm rfl ?_);refine WL.ev (Ev.indexAddr rfl rfl (by omega) (by omega)) rfl ?_;rw [show 0 + ((0 : Nat) : Int).toNat * 6 = 0 from rfl];refine zf rfl (zf rfl ?_);refine WL.ev (Ev.load (v := ry) rfl rfl (hrc 4 ry rfl)) rfl ?_;rw [hey2];refine zn rfl (zq rfl rfl (zz (kh57 ?_)));refine zy rfl ?_ ?_<;>intro hc5<;>try simp only [qs] at hc5
       ·have hy0 : dy.m = 0 := wd_eq_nil.1 (List.length_eq_zero_iff.1 (by omega));refine Sr fun _ kh59 => za rfl (za rfl (zz (kh59 ?_)));refine zr (zr2 rfl rfl rfl ?_);exact ⟨.inr (.inr (.inl ⟨hs1, dx, dy, hex, hey, hy0, rfl⟩)), hch⟩
       ·have hy0 : dy.m ≠ 0 := fun e => by rw [e, wd_zero] at hc5; exact hc5 rfl
        refine zkk ?_;refine kh56 ?_;refine zR fun _ kr61 => ?_;refine zm rfl ?_;(first | refine zi rfl rfl ?_ | refine zo rfl rfl ?_);refine za rfl ?_;refine WL.nil (kr61 _ _ _ ?_);refine ⟨rfl, 1, ?_, ?_, ?_⟩
        ·exact SLp
        ·exact ⟨by decide, fun _ => hy0, hrc, hNx, hNy, hch⟩
        ·decide
      ·have hi0 : i = 1 := by omega
       subst hi0;have hy0 := hz3 rfl;refine CW.exit ?_;refine kh50 (Sr fun _ kh62 => zm rfl (za rfl (za rfl (zz (kh62 ?_)))));refine zr (zr2 rfl rfl rfl ?_);exact ⟨.inr (.inr (.inr ⟨hs1, dx, dy, hex, hey, hy0, ad, c, rx, ry, rfl, hrc, hNx, hNy⟩)), hch⟩

end

/- Reference of layer 11: Against, half, Nearby. No condition. -/
section
open Go Sx Wd

theorem r11Against_spec (va : Value) (la : List Nat) (e : Int) (nn nd : Bool) (vn vd : Value) (ln ld : List Nat) (en ed : Int) (w : World) (ha : NU w va la) (he : -1099511627776 ≤ e ∧ e ≤ 1099511627776) (hla : la.length ≤ 1000000) (hn : NU w vn ln) (hd : NU w vd ld) (hen : -1048576 ≤ en ∧ en ≤ 1048576) (hed : -1048576 ≤ ed ∧ ed ≤ 1048576) (hln : ln.length ≤ 8192) (hld : ld.length ≤ 8192) : Ret Tryz.prog 334 [va, .int .i64 e, .agg [.bool nn, vn, .int .i64 en, .bool nd, vd, .int .i64 ed].toArray, .bool false] w fun u w' => u = .int .i64 (cmpX (val la * val ld) (e + ed) (val ln) en) ∧ Chg [] w w' := by
 have hch : Chg [] w w := Chg.refl _ _;have hon := hn.one;have hod := hd.one;have hoa := ha.one;refine zE4 Tryz.func334 rfl ?_;refine Sr fun _ kh1 => ?_;refine zBh rfl rfl rfl hch fun b6 wm6 hb6 hcm6 hge6 hgehch6 hch => ?_;have ha := ha.keep0 hcm6;have hn := hn.keep0 hcm6;have hd := hd.keep0 hcm6;refine za rfl (zz (kh1 (Sr fun _ kh3 => zm rfl (za rfl (zz (kh3 (Sr fun _ kh5 => zm rfl (za rfl (zz (kh5 (zc fun _ kh7 => Sr fun _ kh8 => zm rfl (zz (kh8 ?_)))))))))))));refine CW.condF rfl ?_;refine zkk ?_;refine kh7 (zc fun _ kh10 => ?_);refine CW.regionHC 18 rfl hmix fun kR11 kr11 hS hdr => ?_;have hch := hch.ta hdr;have hb6 := hb6.k0 hdr;have ha := ha.keep0 hdr;have hn := hn.keep0 hdr;have hd := hd.keep0 hdr;have hb6_r := hb6;refine wh 0 rfl hS (fun _ _ => Ev.move rfl) (wh 1 rfl hS (fun _ _ => Ev.fieldAddr rfl) (wh 2 rfl hS (fun _ _ => Ev.fieldAddr rfl) (wh 3 rfl hS (fun _ hw' => Ev.load rfl rfl ((hb6_r.keep0 hw').at_ rfl)) (wh 5 rfl hS (fun _ _ => Ev.move rfl) (wh 6 rfl hS (fun _ _ => Ev.fieldAddr rfl) (wh 7 rfl hS (fun _ _ => Ev.fieldAddr rfl) (wh 8 rfl hS (fun _ hw' => Ev.load rfl rfl ((hb6_r.keep0 hw').at_ rfl)) (wh 9 rfl hS (fun _ _ => Ev.addIn rfl rfl (by omega)) (wh 10 rfl hS (fun _ _ => Ev.fieldAddr rfl) (wh 11 rfl hS (fun _ _ => Ev.fieldAddr rfl) (wh 12 rfl hS (fun _ hw' => Ev.load rfl rfl ((hb6_r.keep0 hw').at_ rfl)) (wh 13 rfl hS (fun _ _ => Ev.fieldAddr rfl) (wh 14 rfl hS (fun _ _ => Ev.fieldAddr rfl) (wh 15 rfl hS (fun _ hw' => Ev.load rfl rfl ((hb6_r.keep0 hw').at_ rfl)) ?_))))))))))))));refine WH.oneCall 4 rfl (by kernel_rfl) hasF251 rfl rfl (r2Times_spec _ _ _ _ _ ha hd (by omega)) fun v w1 h' => ?_;obtain ⟨hNp, hC, hF⟩ := h';have hpl := mul_len (wd_length_val_le ha.hw) (wd_length_val_le hd.hw);have hch := hch.ta hC;have hn := hn.keep0 hC;have hS := hS.trans hC;refine ⟨hS, ?_⟩;refine WH.oneCall 16 rfl (by kernel_rfl) hasF306 rfl rfl (r3Against_spec _ _ _ _ _ _ _ hNp hn (by omega) (by omega) (by omega) (by omega)) fun v w2 h' => ?_;obtain ⟨rfl, hC⟩ := h';rw [val_wd];have hch := hch.ta hC;have hS := hS.trans hC;refine ⟨hS, ?_⟩;refine wh 17 rfl hS (fun _ _ => Ev.assign rfl) ?_;refine WH.done (by kernel_rfl) (kr11 _ _ _ ?_);refine kh10 ?_;refine zr (zr1 rfl rfl ?_);exact ⟨rfl, hch⟩

end

/- Reference of layer 11: half, Nearby. No condition. -/
section
open Go Sx Wd

theorem nz_num (k : Nat) : nz k = numM k * 2 ^ (numE k + 1074).toNat := by
  unfold nz numM numE
  by_cases h : k < 4503599627370496
  · rw [if_pos h, if_pos (show k / 4503599627370496 = 0 by omega), if_pos (show k / 4503599627370496 = 0 by omega), show k % 4503599627370496 = k by omega]
    simp
  · rw [if_neg h, if_neg (show ¬ k / 4503599627370496 = 0 by omega), if_neg (show ¬ k / 4503599627370496 = 0 by omega), show (-1074 + ((k / 4503599627370496 : Nat) : Int) - 1 + 1074).toNat = k / 4503599627370496 - 1 by omega]
theorem numE_step (k : Nat) : numE k ≤ numE (k + 1) ∧ numE (k + 1) ≤ numE k + 1 := by
  unfold numE
  by_cases h : k / 4503599627370496 = 0
  · rw [if_pos h]
    by_cases h2 : (k + 1) / 4503599627370496 = 0
    · rw [if_pos h2]; omega
    · rw [if_neg h2]; omega
  · rw [if_neg h, if_neg (show ¬ (k + 1) / 4503599627370496 = 0 by omega)]; omega
theorem sgn_scale (x y c : Nat) : sgn (x * 2 ^ c) (y * 2 ^ c) = sgn x y := by
  have hp := Nat.two_pow_pos c
  have h1 : x * 2 ^ c < y * 2 ^ c ↔ x < y := Nat.mul_lt_mul_right hp
  have h2 : y * 2 ^ c < x * 2 ^ c ↔ y < x := Nat.mul_lt_mul_right hp
  unfold sgn
  simp only [h1, h2]
theorem cmpX_eq {m n a b : Nat} {e f : Int} (h : (a : Int) - b = e - f) : cmpX m e n f = sgn (m * 2 ^ a) (n * 2 ^ b) := by
  unfold cmpX
  obtain ⟨c, hc1, hc2⟩ : ∃ c, a = (e - min e f).toNat + c ∧ b = (f - min e f).toNat + c := by
    rcases Int.le_total e f with q | q
    · exact ⟨a, by omega, by omega⟩
    · exact ⟨b, by omega, by omega⟩
  rw [hc1, hc2, Nat.pow_add, Nat.pow_add, ← Nat.mul_assoc, ← Nat.mul_assoc, sgn_scale]
theorem cmp_num {x y : Nat} {ex ey : Int} {k : Nat} (hk : k < 18446744073709551616) : cmpX (numM k * y) (numE k + ey) x ex = sgn (2 * nz k * (y * dyB (ex - ey))) (dyA x (ex - ey)) := by
  have h1 := (numE_le k hk).1
  unfold dyA dyB
  rw [nz_num, cmpX_eq (a := (numE k + 1074).toNat + 1 + (-(ex - ey + 1075)).toNat) (b := (ex - ey + 1075).toNat) (by omega)]
  congr 1
  rw [Nat.pow_add, Nat.pow_succ]
  simp only [Nat.mul_comm, Nat.mul_left_comm, Nat.mul_assoc]
theorem cmp_mid {x y : Nat} {ex ey : Int} {k d : Nat} (hk : k < 9223372036854775808) (hd : (d : Int) = numE (k + 1) - numE k) : cmpX ((numM k + numM (k + 1) * 2 ^ d) * y) (numE k - 1 + ey) x ex = sgn ((nz k + nz (k + 1)) * (y * dyB (ex - ey))) (dyA x (ex - ey)) := by
  have h1 := (numE_le k (by omega)).1
  have e : nz k + nz (k + 1) = (numM k + numM (k + 1) * 2 ^ d) * 2 ^ (numE k + 1074).toNat := by
    rw [nz_num, nz_num, show (numE (k + 1) + 1074).toNat = d + (numE k + 1074).toNat by omega, Nat.pow_add, Nat.add_mul, Nat.mul_assoc]
  unfold dyA dyB
  rw [e, cmpX_eq (a := (numE k + 1074).toNat + (-(ex - ey + 1075)).toNat) (b := (ex - ey + 1075).toNat) (by omega)]
  congr 1
  rw [Nat.pow_add]
  simp only [Nat.mul_comm, Nat.mul_left_comm, Nat.mul_assoc]
theorem near_of {A B k : Nat} {neg : Bool} {mode : Int} {r : Nat} (hk : k < 9218868437227405312) (h1 : 2 * nz k * B ≤ A) (h2 : A < 2 * nz (k + 1) * B ∨ k + 1 = 9218868437227405312) (hne : 2 * nz k * B ≠ A) {on : Bool} (hup : upM mode neg k A ((nz k + nz (k + 1)) * B) = on) (hr : r = if on = true then k + 1 else k) : IsNear A B neg mode r :=
  ⟨k, hk, h1, h2, by rw [if_neg hne, hup, hr]⟩
theorem near_eq {A B k : Nat} {neg : Bool} {mode : Int} (hk : k < 9218868437227405312) (h2 : A < 2 * nz (k + 1) * B ∨ k + 1 = 9218868437227405312) (he : 2 * nz k * B = A) : IsNear A B neg mode k :=
  ⟨k, hk, Nat.le_of_eq he, h2, by rw [if_pos he]⟩
theorem up_even {neg : Bool} {k A M : Nat} : upM 0 neg k A M = (decide (M < A) || (decide (M = A) && decide (k % 2 = 1))) := by unfold upM; rw [if_pos rfl]
theorem up_up {neg : Bool} {k A M : Nat} : upM 2 neg k A M = !neg := by unfold upM; rw [if_neg (by decide), if_pos rfl]
theorem up_down {neg : Bool} {k A M : Nat} : upM 3 neg k A M = neg := by unfold upM; rw [if_neg (by decide), if_neg (by decide), if_pos rfl]
theorem up_away {neg : Bool} {k A M : Nat} : upM 4 neg k A M = decide (M ≤ A) := by unfold upM; rw [if_neg (by decide), if_neg (by decide), if_neg (by decide), if_pos rfl]
theorem up_zero {neg : Bool} {k A M : Nat} : upM 1 neg k A M = false := by unfold upM; rw [if_neg (by decide), if_neg (by decide), if_neg (by decide), if_neg (by decide)]
structure KNb (x y : Dy) (A B : Nat) (w0 : World) (b4 b5 : Nat) (vn vd : Value) (g : Nat × Nat) (w : World) : Prop where
  lt : g.1 < g.2
  le : g.2 ≤ 9218868437227405312
  lo : 2 * nz g.1 * B ≤ A
  hi : A < 2 * nz g.2 * B ∨ g.2 = 9218868437227405312
  h4 : BK w b4 293 [.int .i64 53, .int .i64 (-1074), .int .u64 9218868437227405312]
  h5 : BK w b5 218 [.bool x.neg, vn, .int .i64 x.e, .bool y.neg, vd, .int .i64 y.e]
  hn : NU w vn (wd x.m)
  hd : NU w vd (wd y.m)
  ch : Chg [] w0 w
theorem num_len (k : Nat) : (wd (numM k)).length ≤ 2 := wd_length_le.2 (by have := numM_lt k; omega)

theorem r11half_spec (k : Nat) (nn nd : Bool) (vn vd : Value) (ln ld : List Nat) (en ed : Int) (w : World) (hk : k < 9218868437227405312) (hn : NU w vn ln) (hd : NU w vd ld) (hen : -1048576 ≤ en ∧ en ≤ 1048576) (hed : -1048576 ≤ ed ∧ ed ≤ 1048576) (hln : ln.length ≤ 8192) (hld : ld.length ≤ 8192) : Ret Tryz.prog 335 [.agg [.int .i64 53, .int .i64 (-1074), .int .u64 9218868437227405312].toArray, .int .u64 (k : Int), .agg [.bool nn, vn, .int .i64 en, .bool nd, vd, .int .i64 ed].toArray, .bool false] w fun u w' => u = .int .i64 (cmpX ((numM k + numM (k + 1) * 2 ^ (numE (k + 1) - numE k).toNat) * val ld) (numE k - 1 + ed) (val ln) en) ∧ Chg [] w w' := by
 have hch : Chg [] w w := Chg.refl _ _;have hon := hn.one;have hod := hd.one;have hes := numE_step k;have he1 := numE_le k (by omega);have hm1 := num_len k;have hm2 := num_len (k + 1);obtain ⟨d, hdd⟩ : ∃ d : Nat, (d : Int) = numE (k + 1) - numE k := ⟨(numE (k + 1) - numE k).toNat, by omega⟩;rw [show (numE (k + 1) - numE k).toNat = d by omega];refine zE4 Tryz.func335 rfl ?_;refine Sr fun _ kh1 => ?_;refine zBh rfl rfl rfl hch fun b4 wm4 hb4 hcm4 hge4 hgehch4 hch => ?_;have hn := hn.keep0 hcm4;have hd := hd.keep0 hcm4;refine zBh rfl rfl rfl hch fun b6 wm6 hb6 hcm6 hge6 hgehch6 hch => ?_;have hn := hn.keep0 hcm6;have hd := hd.keep0 hcm6;have hneb46 := zdd hb4.lt hge6;have hb4 := hb4.k0 hcm6;refine za rfl (zz (kh1 (Sr fun _ kh3 => zg hb4 rfl (zm rfl ?_))));refine WL.call hasF307 rfl rfl (r3Number_spec (k) _ (by omega)) fun v w1 h' => ?_;obtain ⟨⟨va, rfl, hNa⟩, hC⟩ := h';have hch := hch.ta hC;have hb4 := hb4.k0 hC;have hb6 := hb6.k0 hC;have hn := hn.keep0 hC;have hd := hd.keep0 hC;refine zm rfl (zx rfl rfl (zx rfl rfl (za rfl (za rfl (zz (kh3 (Sr fun _ kh5 => zg hb4 rfl (zm rfl ?_))))))))
 first | refine WL.ev (Ev.add64In (b := 1) rfl rfl (by omega)) rfl ?_ | refine WL.ev (Ev.add64 (b := 1) rfl rfl) rfl ?_
 refine WL.call hasF307 rfl rfl (r3Number_spec (k + 1) _ (by omega)) fun v w2 h' => ?_;obtain ⟨⟨vb, rfl, hNb⟩, hC⟩ := h';have hch := hch.ta hC;have hb6 := hb6.k0 hC;have hn := hn.keep0 hC;have hd := hd.keep0 hC;have hNa := hNa.keep0 hC;refine zm rfl (zx rfl rfl (zx rfl rfl (za rfl (za rfl (zz (kh5 (Sr fun _ kh7 => zm rfl (zm rfl (zm rfl (zm rfl ?_))))))))));refine WL.ev (Ev.subIn rfl rfl (by omega)) rfl ?_;rw [← hdd];refine WL.call hasF252 rfl rfl (r2MovedUp_spec _ _ _ hNb d (by omega) (by omega)) fun v w3 h' => ?_;obtain ⟨hNc, hC, hF⟩ := h';rw [val_wd] at hNc;have hcl : (wd (numM (k + 1) * 2 ^ d)).length ≤ 3 := wd_length_le.2 (by have h7 := numM_lt (k + 1); have h8 : 2 ^ d ≤ 2 ^ 1 := Nat.pow_le_pow_right (by decide) (by omega); have h9 := Nat.mul_le_mul (Nat.le_of_lt h7) h8; omega);have hch := hch.ta hC;have hb6 := hb6.k0 hC;have hn := hn.keep0 hC;have hd := hd.keep0 hC;have hNa := hNa.keep0 hC;refine WL.call hasF253 rfl rfl (r2Plus_spec _ _ _ _ _ hNa hNc (by omega) (by omega)) fun v w4 h' => ?_;obtain ⟨hNs, hC, hF⟩ := h';rw [val_wd, val_wd] at hNs;have hsl : (wd (numM k + numM (k + 1) * 2 ^ d)).length ≤ 4 := wd_length_le.2 (by have h5 := numM_lt k; have h6 := wd_length_le.1 hcl; omega);have hch := hch.ta hC;have hb6 := hb6.k0 hC;have hn := hn.keep0 hC;have hd := hd.keep0 hC;refine za rfl (zz (kh7 (Sr fun _ kh9 => zm rfl (zm rfl ?_))));refine WL.ev (Ev.subIn rfl rfl (by omega)) rfl ?_;refine zg hb6 rfl (zm rfl ?_);refine WL.call hasF334 rfl rfl (r11Against_spec _ _ _ _ _ _ _ _ _ _ _ _ hNs (by omega) (by omega) hn hd hen hed hln hld) fun v w5 h' => ?_;obtain ⟨rfl, hC⟩ := h';rw [val_wd];have hch := hch.ta hC;refine za rfl (zz (kh9 ?_));refine zr (zr1 rfl rfl ?_);exact ⟨rfl, hch⟩

end

/- Reference of layer 11: Nearby. No condition. -/
section
open Go Sx Wd

theorem r11Nearby_spec (x y : Dy) (vn vd : Value) (mode : Int) (w : World) (hm : 0 ≤ mode ∧ mode ≤ 4) (hn : NU w vn (wd x.m)) (hd : NU w vd (wd y.m)) (hx : x.ok) (hy : y.ok) : Ret Tryz.prog 314 [.agg [.int .i64 53, .int .i64 (-1074), .int .u64 9218868437227405312].toArray, .agg [.bool x.neg, vn, .int .i64 x.e, .bool y.neg, vd, .int .i64 y.e].toArray, .bool false, .int .i64 mode] w fun u w' => ∃ r : Nat, u = .int .u64 (r : Int) ∧ IsNear (dyA x.m (x.e - y.e)) (y.m * dyB (x.e - y.e)) x.neg mode r ∧ r ≤ 9218868437227405312 ∧ Chg [] w w' := by
 have hch : Chg [] w w := Chg.refl _ _;have hon1 := hn.one;have hod1 := hd.one;obtain ⟨A, hA⟩ : ∃ A, A = (dyA x.m (x.e - y.e)) := ⟨_, rfl⟩;obtain ⟨B, hB⟩ : ∃ B, B = (y.m * dyB (x.e - y.e)) := ⟨_, rfl⟩;rw [← hA, ← hB];refine zE4 Tryz.func314 rfl ?_;refine Sr fun _ kh1 => ?_;refine zBh rfl rfl rfl hch fun b4 wm4 hb4 hcm4 hge4 hgehch4 hch => ?_;have hn := hn.keep0 hcm4;have hd := hd.keep0 hcm4;refine zBh rfl rfl rfl hch fun b5 wm5 hb5 hcm5 hge5 hgehch5 hch => ?_;have hn := hn.keep0 hcm5;have hd := hd.keep0 hcm5;have hneb45 := zdd hb4.lt hge5;have hb4 := hb4.k0 hcm5;refine za rfl (zz (kh1 (Sr fun _ kh3 => za rfl (zz (kh3 (Sr fun _ kh5 => zf rfl (zl hb4 rfl rfl (za rfl (zz (kh5 (zc fun _ kh7 => ?_)))))))))));refine CW.block ?_;refine CW.loop (S := fun g : Nat × Nat => [(2, .bool false), (3, .int .i64 mode), (4, .pointer (some ⟨b4, 0, none⟩)), (5, .pointer (some ⟨b5, 0, none⟩)), (9, .int .u64 (g.1 : Int)), (10, .int .u64 (g.2 : Int))]) (Inv := KNb x y A B w b4 b5 vn vd) (mu := fun g => g.2 - g.1) ((0, 9218868437227405312)) ?_ ?_ ?_
 ·exact ⟨by decide, Nat.le_refl _, by rw [show nz 0 = 0 from rfl, Nat.mul_zero, Nat.zero_mul]; exact Nat.zero_le _, .inr rfl, hb4, hb5, hn, hd, hch⟩
 ·exact SLp
 ·rintro ⟨f, t⟩ wr ⟨hft, ht, hlo, hhi, hb4, hb5, hn, hd, hch⟩;dsimp only at hft ht hlo hhi;dsimp only;refine zc fun _ kh8 => Sr fun _ kh9 => zm rfl (zm rfl ?_)
  first | refine WL.ev (Ev.sub64In rfl rfl (by omega) (by omega)) rfl ?_ | refine WL.ev (Ev.sub64 rfl rfl (by omega)) rfl ?_
  refine WL.ev (Ev.gtr rfl rfl) rfl ?_;refine zz (kh9 ?_);refine zy rfl ?_ ?_<;>intro hc1<;>try simp only [qs] at hc1
  ·have hm1 : f < (f + t) / 2 := by omega
   have hm2 : (f + t) / 2 < t := by omega
   refine zkk ?_;refine kh8 ?_;refine CW.block ?_;refine Sr fun _ kh11 => zm rfl (zm rfl ?_)
   first | refine WL.ev (Ev.add64In rfl rfl (by omega)) rfl ?_ | refine WL.ev (Ev.add64 rfl rfl) rfl ?_
   refine WL.ev (Ev.quoU (b := 2) rfl rfl (by omega) (in_u64 (by omega)).2) rfl ?_;refine za rfl (zz (kh11 (Sr fun _ kh13 => zg hb4 rfl (zm rfl ?_))));refine WL.call hasF307 rfl rfl (r3Number_spec ((f + t) / 2) _ (by omega)) fun v w1 h' => ?_;obtain ⟨⟨va, rfl, hNa⟩, hC⟩ := h';have hch := hch.ta hC;have hb4 := hb4.k0 hC;have hb5 := hb5.k0 hC;have hn := hn.keep0 hC;have hd := hd.keep0 hC;refine zm rfl (zx rfl rfl (zx rfl rfl (za rfl (za rfl (zz (kh13 (Sr fun _ kh15 => zm rfl (zm rfl (zg hb5 rfl (zm rfl ?_))))))))));refine WL.call hasF334 rfl rfl (r11Against_spec _ _ _ _ _ _ _ _ _ _ _ _ hNa (by have := numE_le ((f + t) / 2) (by omega); omega) (by have := num_len ((f + t) / 2); omega) hn hd hx.e hy.e hx.len hy.len) fun v w2 h' => ?_;obtain ⟨rfl, hC⟩ := h';rw [val_wd, val_wd, val_wd, cmp_num (by omega), ← hB, ← hA];have hch := hch.ta hC;have hb4 := hb4.k0 hC;have hb5 := hb5.k0 hC;have hn := hn.keep0 hC;have hd := hd.keep0 hC;refine WL.ev (Ev.leq rfl rfl) rfl ?_;refine zz (kh15 ?_);refine zy rfl ?_ ?_<;>intro hc2<;>try simp only [qs] at hc2
   ·have hle : 2 * nz ((f + t) / 2) * B ≤ A := sgn_le.1 hc2
    refine zR fun _ kr17 => ?_;refine zm rfl (za rfl ?_);refine WL.nil (kr17 _ _ _ ?_);refine ⟨rfl, ((f + t) / 2, t), ?_, ?_, ?_⟩
    ·exact SLp
    ·exact ⟨hm2, ht, hle, hhi, hb4, hb5, hn, hd, hch⟩
    ·show t - (f + t) / 2 < t - f; omega
   ·have hle : A < 2 * nz ((f + t) / 2) * B := Nat.lt_of_not_le fun q => by have := sgn_le.2 q; omega
    refine zR fun _ kr18 => ?_;refine zm rfl (za rfl ?_);refine WL.nil (kr18 _ _ _ ?_);refine ⟨rfl, (f, (f + t) / 2), ?_, ?_, ?_⟩
    ·exact SLp
    ·exact ⟨hm1, by dsimp only; omega, hlo, .inl hle, hb4, hb5, hn, hd, hch⟩
    ·show (f + t) / 2 - f < t - f; omega
  ·have et : t = f + 1 := by omega
   subst et;have hft' : f < 9218868437227405312 := by omega
   have hhi' := hhi;refine CW.exit ?_;refine kh7 (Sr fun _ kh19 => zg hb4 rfl (zm rfl ?_));refine WL.call hasF307 rfl rfl (r3Number_spec (f) _ (by omega)) fun v w3 h' => ?_;obtain ⟨⟨vc, rfl, hNc⟩, hC⟩ := h';have hch := hch.ta hC;have hb4 := hb4.k0 hC;have hb5 := hb5.k0 hC;have hn := hn.keep0 hC;have hd := hd.keep0 hC;refine zm rfl (zx rfl rfl (zx rfl rfl (za rfl (za rfl (zz (kh19 (zc fun _ kh21 => Sr fun _ kh22 => zm rfl (zm rfl (zg hb5 rfl (zm rfl ?_))))))))));refine WL.call hasF334 rfl rfl (r11Against_spec _ _ _ _ _ _ _ _ _ _ _ _ hNc (by have := numE_le (f) (by omega); omega) (by have := num_len (f); omega) hn hd hx.e hy.e hx.len hy.len) fun v w4 h' => ?_;obtain ⟨rfl, hC⟩ := h';rw [val_wd, val_wd, val_wd, cmp_num (by omega), ← hB, ← hA];have hch := hch.ta hC;have hb4 := hb4.k0 hC;have hb5 := hb5.k0 hC;have hn := hn.keep0 hC;have hd := hd.keep0 hC;refine zq rfl rfl (zz (kh22 ?_));refine zy rfl ?_ ?_<;>intro hc3<;>try simp only [qs] at hc3
   ·have he := sgn_zero.1 hc3
    refine Sr fun _ kh24 => zm rfl (za rfl (zz (kh24 ?_)));refine zr (zr1 rfl rfl ?_);exact ⟨f, rfl, near_eq hft' hhi' he, by omega, hch⟩
   ·have hne : 2 * nz f * B ≠ A := fun q => hc3 (sgn_zero.2 q);have hes := numE_step f
    obtain ⟨d, hdd⟩ : ∃ d : Nat, (d : Int) = numE (f + 1) - numE f := ⟨(numE (f + 1) - numE f).toNat, by omega⟩;refine zkk ?_;refine kh21 (Sr fun _ kh26 => zg hb4 rfl (zm rfl (zg hb5 rfl (zm rfl ?_))));refine WL.call hasF335 rfl rfl (r11half_spec f _ _ _ _ _ _ _ _ _ hft' hn hd hx.e hy.e hx.len hy.len) fun v w5 h' => ?_;obtain ⟨rfl, hC⟩ := h';rw [val_wd, val_wd, show (numE (f + 1) - numE f).toNat = d by omega, cmp_mid (by omega) hdd, ← hB, ← hA];obtain ⟨M, hM⟩ : ∃ M, M = (nz f + nz (f + 1)) * B := ⟨_, rfl⟩;rw [← hM];have hs1 := sgn_le (a := M) (b := A);have hs2 := sgn_zero (a := M) (b := A);obtain ⟨h, hh⟩ : ∃ h, h = sgn M A := ⟨_, rfl⟩;rw [← hh] at hs1 hs2;rw [← hh];have hch := hch.ta hC;have hb5 := hb5.k0 hC;refine za rfl (zz (kh26 (Sr fun _ kh28 => za rfl (zz (kh28 (zc fun _ kh30 => Sr fun _ kh31 => zm rfl (zz (kh31 ?_))))))));refine CW.block ?_;refine Sr fun _ kh33 => zq rfl rfl (za rfl (zz (kh33 ?_)));refine zy rfl ?_ ?_<;>intro hc4<;>try simp only [qs] at hc4
    ·have hmo : mode = 0 := hc4
     refine zR fun _ kr35 => ?_;refine zm rfl ?_;refine WL.ev (Ev.lss rfl rfl) rfl ?_;refine zm rfl ?_;refine zb ?_ ?_<;>intro hg5<;>try simp only [qs] at hg5
     ·have hup : upM mode x.neg f A ((nz f + nz (f + 1)) * B) = true := by
       rw [← hM, hmo, up_even, decide_eq_true (show M < A by omega)]; rfl
      refine zv rfl (zv rfl (zv rfl (zu rfl (zu rfl (zu rfl (zv rfl (zt rfl rfl (za rfl ?_))))))));refine WL.nil (kr35 _ _ _ (kh30 ?_));refine zc fun _ kh36 => Sr fun _ kh37 => zm rfl (zz (kh37 ?_));refine CW.condT rfl ?_;refine zR fun _ kr39 => ?_;refine zm rfl ?_
      first | refine WL.ev (Ev.add64In (b := 1) rfl rfl (by omega)) rfl ?_ | refine WL.ev (Ev.add64 (b := 1) rfl rfl) rfl ?_
      refine za rfl ?_;refine WL.nil (kr39 _ _ _ (kh36 ?_));refine Sr fun _ kh40 => zm rfl (za rfl (zz (kh40 ?_)));refine zr (zr1 rfl rfl ?_);exact ⟨f + 1, rfl, near_of hft' hlo hhi' hne (on := true) (by first | exact hup | exact hup.trans hon) rfl, by omega, hch⟩
     ·refine zw rfl (zm rfl (zw rfl (zq rfl rfl (zw rfl (zm rfl ?_)))));refine zb ?_ ?_<;>intro hg6<;>try simp only [qs] at hg6
      ·have hup : upM mode x.neg f A ((nz f + nz (f + 1)) * B) = decide (f % 2 = 1) := by
        rw [← hM, hmo, up_even, decide_eq_false (show ¬ M < A by omega), decide_eq_true (show M = A by omega)]; simp
       refine zw rfl (zm rfl (zw rfl ?_));refine WL.ev (Ev.remU (b := 2) rfl rfl (by omega)) rfl ?_;refine zw rfl (zq rfl rfl ?_);rw [show decide (((f % 2 : Nat) : Int) = 1) = decide (f % 2 = 1) from decide_eq_decide.2 (by omega)];refine zw rfl (zt rfl rfl (ze rfl rfl (za rfl ?_)));refine WL.nil (kr35 _ _ _ (kh30 ?_));refine zc fun _ kh42 => Sr fun _ kh43 => zm rfl (zz (kh43 ?_));refine zy rfl ?_ ?_<;>intro hc7<;>try simp only [qs] at hc7
       ·have hon := decide_eq_true hc7
        refine zR fun _ kr45 => ?_;refine zm rfl ?_
        first | refine WL.ev (Ev.add64In (b := 1) rfl rfl (by omega)) rfl ?_ | refine WL.ev (Ev.add64 (b := 1) rfl rfl) rfl ?_
        refine za rfl ?_;refine WL.nil (kr45 _ _ _ (kh42 ?_));refine Sr fun _ kh46 => zm rfl (za rfl (zz (kh46 ?_)));refine zr (zr1 rfl rfl ?_);exact ⟨f + 1, rfl, near_of hft' hlo hhi' hne (on := true) (by first | exact hup | exact hup.trans hon) rfl, by omega, hch⟩
       ·have hon := decide_eq_false hc7
        refine zkk ?_;refine kh42 (Sr fun _ kh48 => zm rfl (za rfl (zz (kh48 ?_))));refine zr (zr1 rfl rfl ?_);exact ⟨f, rfl, near_of hft' hlo hhi' hne (on := false) (by first | exact hup | exact hup.trans hon) rfl, by omega, hch⟩
      ·have hup : upM mode x.neg f A ((nz f + nz (f + 1)) * B) = false := by
        rw [← hM, hmo, up_even, decide_eq_false (show ¬ M < A by omega), decide_eq_false (show ¬ M = A by omega)]; rfl
       refine zv rfl (zv rfl (zv rfl (zw rfl (ze rfl rfl (ze rfl rfl (za rfl ?_))))));refine WL.nil (kr35 _ _ _ (kh30 ?_));refine zc fun _ kh50 => Sr fun _ kh51 => zm rfl (zz (kh51 ?_));refine CW.condF rfl ?_;refine zkk ?_;refine kh50 (Sr fun _ kh53 => zm rfl (za rfl (zz (kh53 ?_))));refine zr (zr1 rfl rfl ?_);exact ⟨f, rfl, near_of hft' hlo hhi' hne (on := false) (by first | exact hup | exact hup.trans hon) rfl, by omega, hch⟩
    ·refine Sr fun _ kh55 => zq rfl rfl (za rfl (zz (kh55 ?_)));refine zy rfl ?_ ?_<;>intro hc8<;>try simp only [qs] at hc8
     ·have hmo : mode = 2 := hc8
      have hup : upM mode x.neg f A ((nz f + nz (f + 1)) * B) = !x.neg := by rw [hmo, up_up]
      refine zR fun _ kr57 => ?_;refine zf rfl (zf rfl (zl hb5 rfl rfl ?_));refine WL.ev (Ev.not rfl) rfl ?_;refine za rfl ?_;refine WL.nil (kr57 _ _ _ (kh30 ?_));refine zc fun _ kh58 => Sr fun _ kh59 => zm rfl (zz (kh59 ?_));refine zy rfl ?_ ?_<;>intro hc9<;>try simp only [qs] at hc9
      ·have hon : (!x.neg) = true := by simpa using hc9
       refine zR fun _ kr61 => ?_;refine zm rfl ?_
       first | refine WL.ev (Ev.add64In (b := 1) rfl rfl (by omega)) rfl ?_ | refine WL.ev (Ev.add64 (b := 1) rfl rfl) rfl ?_
       refine za rfl ?_;refine WL.nil (kr61 _ _ _ (kh58 ?_));refine Sr fun _ kh62 => zm rfl (za rfl (zz (kh62 ?_)));refine zr (zr1 rfl rfl ?_);exact ⟨f + 1, rfl, near_of hft' hlo hhi' hne (on := true) (by first | exact hup | exact hup.trans hon) rfl, by omega, hch⟩
      ·have hon : (!x.neg) = false := by simpa using hc9
       refine zkk ?_;refine kh58 (Sr fun _ kh64 => zm rfl (za rfl (zz (kh64 ?_))));refine zr (zr1 rfl rfl ?_);exact ⟨f, rfl, near_of hft' hlo hhi' hne (on := false) (by first | exact hup | exact hup.trans hon) rfl, by omega, hch⟩
     ·refine Sr fun _ kh66 => zq rfl rfl (za rfl (zz (kh66 ?_)));refine zy rfl ?_ ?_<;>intro hc10<;>try simp only [qs] at hc10
      ·have hmo : mode = 3 := hc10
       have hup : upM mode x.neg f A ((nz f + nz (f + 1)) * B) = x.neg := by rw [hmo, up_down]
       refine zR fun _ kr68 => ?_;refine zf rfl (zf rfl (zl hb5 rfl rfl (za rfl ?_)));refine WL.nil (kr68 _ _ _ (kh30 ?_));refine zc fun _ kh69 => Sr fun _ kh70 => zm rfl (zz (kh70 ?_));refine zy rfl ?_ ?_<;>intro hc11<;>try simp only [qs] at hc11
       ·have hon : x.neg = true := by simpa using hc11
        refine zR fun _ kr72 => ?_;refine zm rfl ?_
        first | refine WL.ev (Ev.add64In (b := 1) rfl rfl (by omega)) rfl ?_ | refine WL.ev (Ev.add64 (b := 1) rfl rfl) rfl ?_
        refine za rfl ?_;refine WL.nil (kr72 _ _ _ (kh69 ?_));refine Sr fun _ kh73 => zm rfl (za rfl (zz (kh73 ?_)));refine zr (zr1 rfl rfl ?_);exact ⟨f + 1, rfl, near_of hft' hlo hhi' hne (on := true) (by first | exact hup | exact hup.trans hon) rfl, by omega, hch⟩
       ·have hon : x.neg = false := by simpa using hc11
        refine zkk ?_;refine kh69 (Sr fun _ kh75 => zm rfl (za rfl (zz (kh75 ?_))));refine zr (zr1 rfl rfl ?_);exact ⟨f, rfl, near_of hft' hlo hhi' hne (on := false) (by first | exact hup | exact hup.trans hon) rfl, by omega, hch⟩
      ·refine Sr fun _ kh77 => zq rfl rfl (za rfl (zz (kh77 ?_)));refine zy rfl ?_ ?_<;>intro hc12<;>try simp only [qs] at hc12
       ·have hmo : mode = 4 := hc12
        have hup : upM mode x.neg f A ((nz f + nz (f + 1)) * B) = decide (h ≤ 0) := by rw [← hM, hmo, up_away]; exact decide_eq_decide.2 hs1.symm
        refine zR fun _ kr79 => ?_;refine zm rfl ?_;refine WL.ev (Ev.leq rfl rfl) rfl ?_;refine za rfl ?_;refine WL.nil (kr79 _ _ _ (kh30 ?_));refine zc fun _ kh80 => Sr fun _ kh81 => zm rfl (zz (kh81 ?_));refine zy rfl ?_ ?_<;>intro hc13<;>try simp only [qs] at hc13
        ·have hon : decide (h ≤ 0) = true := decide_eq_true (by have := hc13; omega);refine zR fun _ kr83 => ?_
         refine zm rfl ?_
         first | refine WL.ev (Ev.add64In (b := 1) rfl rfl (by omega)) rfl ?_ | refine WL.ev (Ev.add64 (b := 1) rfl rfl) rfl ?_
         refine za rfl ?_;refine WL.nil (kr83 _ _ _ (kh80 ?_));refine Sr fun _ kh84 => zm rfl (za rfl (zz (kh84 ?_)));refine zr (zr1 rfl rfl ?_);exact ⟨f + 1, rfl, near_of hft' hlo hhi' hne (on := true) (by first | exact hup | exact hup.trans hon) rfl, by omega, hch⟩
        ·have hon : decide (h ≤ 0) = false := decide_eq_false (by have := hc13; omega);refine zkk ?_
         refine kh80 (Sr fun _ kh86 => zm rfl (za rfl (zz (kh86 ?_))));refine zr (zr1 rfl rfl ?_);exact ⟨f, rfl, near_of hft' hlo hhi' hne (on := false) (by first | exact hup | exact hup.trans hon) rfl, by omega, hch⟩
       ·have hmo : mode = 1 := by omega
        have hup : upM mode x.neg f A ((nz f + nz (f + 1)) * B) = false := by rw [hmo, up_zero]
        refine zkk ?_;refine kh30 (zc fun _ kh88 => Sr fun _ kh89 => zm rfl (zz (kh89 ?_)));refine CW.condF rfl ?_;refine zkk ?_;refine kh88 (Sr fun _ kh91 => zm rfl (za rfl (zz (kh91 ?_))));refine zr (zr1 rfl rfl ?_);exact ⟨f, rfl, near_of hft' hlo hhi' hne (on := false) (by first | exact hup | exact hup.trans hon) rfl, by omega, hch⟩

end

/- Reference of layer 11: rounded, Quot. No condition. -/
section
open Go Sx Wd

/-- What rounded answers. -/
def RdP (u : Value) (nn nd : Bool) (ln ld : Nat) (en ed mode : Int) : Prop :=
  (¬ (0 ≤ mode ∧ mode ≤ 4) ∧ u = .tuple [.int .u64 0, .bool false, .int .i64 1].toArray) ∨ ((0 ≤ mode ∧ mode ≤ 4) ∧
    ((sgD nd ld < 0 ∧ u = .tuple [.int .u64 0, .bool false, .int .i64 1].toArray) ∨ (0 ≤ sgD nd ld ∧ (formD nn ln en = none ∨ formD nd ld ed = none) ∧ u = .tuple [.int .u64 0, .bool false, .int .i64 2].toArray) ∨
     (0 ≤ sgD nd ld ∧ ∃ x y, formD nn ln en = some x ∧ formD nd ld ed = some y ∧ ((y.m = 0 ∧ u = .tuple [.int .u64 0, .bool false, .int .i64 21].toArray) ∨
       (y.m ≠ 0 ∧ ∃ r : Nat, IsNear (dyA x.m (x.e - y.e)) (y.m * dyB (x.e - y.e)) x.neg mode r ∧ r ≤ 9218868437227405312 ∧ u = .tuple [.int .u64 (r : Int), .bool x.neg, .int .i64 0].toArray)))))

theorem r11rounded_spec (nn nd : Bool) (vn vd : Value) (ln ld : List Nat) (en ed : Int) (mode : Int) (w : World) (hn : NU w vn ln) (hd : NU w vd ld) (hen : -9223372036854775808 ≤ en ∧ en ≤ 9223372036854775807) (hed : -9223372036854775808 ≤ ed ∧ ed ≤ 9223372036854775807) (hln : ln.length ≤ 34359738368) (hld : ld.length ≤ 34359738368) : Ret Tryz.prog 261 [.agg [.int .i64 53, .int .i64 (-1074), .int .u64 9218868437227405312].toArray, .agg [.bool nn, vn, .int .i64 en, .bool nd, vd, .int .i64 ed].toArray, .bool false, .int .i64 mode] w fun u w' => RdP u nn nd (val ln) (val ld) en ed mode ∧ Chg [] w w' := by
 have hch : Chg [] w w := Chg.refl _ _;have hon1 := hn.one;have hod1 := hd.one;refine zE4 Tryz.func261 rfl ?_;refine Sr fun _ kh1 => ?_;refine zBh rfl rfl rfl hch fun b4 wm4 hb4 hcm4 hge4 hgehch4 hch => ?_;have hn := hn.keep0 hcm4;have hd := hd.keep0 hcm4;refine zBh rfl rfl rfl hch fun b5 wm5 hb5 hcm5 hge5 hgehch5 hch => ?_;have hn := hn.keep0 hcm5;have hd := hd.keep0 hcm5;have hneb45 := zdd hb4.lt hge5;have hb4 := hb4.k0 hcm5;refine za rfl (za rfl (za rfl (zz (kh1 (zc fun _ kh3 => ?_)))));refine CW.seqM 18 (decide (mode < 0 ∨ 4 < mode)) ?_ ?_
 ·refine zR fun _ kr4 => ?_;refine zm rfl ?_;refine WL.ev (Ev.lss rfl rfl) rfl ?_;refine zm rfl ?_;refine zb ?_ ?_<;>intro hg1<;>try simp only [qs] at hg1
  ·refine zv rfl (zv rfl (zt rfl rfl ?_));refine WL.nil (kr4 _ _ _ ?_);refine ⟨rfl, rfl, Subs.consB rfl ?_ ?_⟩
   ·first | (simp; omega) | (simp_all; done) | (refine decide_eq_decide.2 ?_; omega)
   ·exact SMg
  ·refine zw rfl (zm rfl (zw rfl ?_));refine WL.ev (Ev.gtr rfl rfl) rfl ?_
   refine ze rfl rfl ?_;refine WL.nil (kr4 _ _ _ ?_);refine ⟨rfl, rfl, Subs.consB rfl ?_ ?_⟩
   ·first | (simp; omega) | (simp_all; done) | (refine decide_eq_decide.2 ?_; omega)
   ·exact SMg
 ·refine zy rfl ?_ ?_<;>intro hc2<;>try simp only [qs] at hc2
  ·have hm := hc2
   refine Sr fun _ kh5 => za rfl (za rfl (za rfl (zz (kh5 ?_))));refine zr ?_;refine bodyA.ret3 rfl rfl rfl rfl ?_;exact ⟨.inl ⟨by omega, rfl⟩, hch⟩
  ·have hm : 0 ≤ mode ∧ mode ≤ 4 := by have := hc2; omega
   refine zkk ?_;refine kh3 (Sr fun _ kh7 => zg hb5 rfl ?_);refine WL.buildSlice (m := 1) (cs := [.bool nn, vn, .int .i64 en, .bool nd, vd, .int .i64 ed]) (by decide) (by decide) rfl (by kernel_rfl) rfl fun b21 w21 hn21 => ?_;have hcm21 := hn21.chg;have hb21 : BK w21 b21 _ [.bool nn, vn, .int .i64 en, .bool nd, vd, .int .i64 ed] := hn21.at_;have hge21 := hn21.ge;have hch := hch.trans hcm21;have hn := hn.keep0 hcm21;have hd := hd.keep0 hcm21;have hb4 := hb4.k0 hcm21;refine WL.call hasF313 rfl rfl (r11may_spec b21 _ _ _ _ _ _ _ _ _ hb21 hn hd hen hed hln hld) fun v w1 h' => ?_;obtain ⟨hD, hC22⟩ := h';have hch := hch.ta hC22;have hb4 := hb4.k0 hC22;rcases hD with ⟨hs, rfl⟩ | ⟨hs, hno, rfl⟩ | ⟨hs, dx, dy, hex, hey, hy0, rfl⟩ | ⟨hs, dx, dy, hex, hey, hy0, gg, cc, rx, ry, rfl, hrc, hNx, hNy⟩
   ·refine zm rfl (zx rfl rfl (zx rfl rfl (za rfl (za rfl (zz (kh7 (zc fun _ kh9 => Sr fun _ kh10 => zm rfl ?_)))))));refine WL.ev (Ev.neq rfl rfl) rfl ?_;refine zz (kh10 ?_);refine CW.condT rfl ?_;refine Sr fun _ kh12 => zm rfl (za rfl (za rfl (za rfl (zz (kh12 ?_)))));refine zr ?_;refine bodyA.ret3 rfl rfl rfl rfl ?_;exact ⟨.inr ⟨hm, .inl ⟨hs, rfl⟩⟩, hch⟩
   ·refine zm rfl (zx rfl rfl (zx rfl rfl (za rfl (za rfl (zz (kh7 (zc fun _ kh14 => Sr fun _ kh15 => zm rfl ?_)))))));refine WL.ev (Ev.neq rfl rfl) rfl ?_;refine zz (kh15 ?_);refine CW.condT rfl ?_;refine Sr fun _ kh17 => zm rfl (za rfl (za rfl (za rfl (zz (kh17 ?_)))));refine zr ?_;refine bodyA.ret3 rfl rfl rfl rfl ?_;exact ⟨.inr ⟨hm, .inr (.inl ⟨hs, hno, rfl⟩)⟩, hch⟩
   ·refine zm rfl (zx rfl rfl (zx rfl rfl (za rfl (za rfl (zz (kh7 (zc fun _ kh19 => Sr fun _ kh20 => zm rfl ?_)))))));refine WL.ev (Ev.neq rfl rfl) rfl ?_;refine zz (kh20 ?_);refine CW.condT rfl ?_;refine Sr fun _ kh22 => zm rfl (za rfl (za rfl (za rfl (zz (kh22 ?_)))));refine zr ?_;refine bodyA.ret3 rfl rfl rfl rfl ?_;exact ⟨.inr ⟨hm, .inr (.inr ⟨hs, dx, dy, hex, hey, .inl ⟨hy0, rfl⟩⟩)⟩, hch⟩
   ·have hokx := formD_ok hex;have hoky := formD_ok hey;have hrl := hrc.lt (by simp [ratC]);refine zm rfl (zx rfl rfl (zx rfl rfl (za rfl (za rfl (zz (kh7 (zc fun _ kh24 => Sr fun _ kh25 => zm rfl ?_)))))));refine WL.ev (Ev.neq rfl rfl) rfl ?_;refine zz (kh25 ?_);refine CW.condF rfl ?_;refine zkk ?_;refine kh24 (zc fun _ kh27 => Sr fun _ kh28 => zm rfl (zm rfl (zv rfl (zv rfl (zv rfl (zv rfl (zv rfl (ze rfl rfl (zz (kh28 ?_))))))))));refine CW.condF rfl ?_;refine zkk ?_;refine kh27 (zc fun _ kh30 => ?_);refine CW.regionHC 15 rfl hmix fun kR31 kr31 hS hdr => ?_;have hch := hch.ta hdr;have hb4 := hb4.k0 hdr;have hrc := hrc.keep0 hdr;have hNx := hNx.keep0 hdr;have hNy := hNy.keep0 hdr;have hb4_r := hb4;have hrc_r := hrc;refine wh 0 rfl hS (fun _ hw' => Ev.loadA rfl rfl (hb4_r.keep0 hw') rfl) (wh 1 rfl hS (fun _ _ => Ev.move rfl) (wh 2 rfl hS (fun _ _ => Ev.indexAddr (i := 0) rfl rfl (by decide) (by decide)) (wh 3 rfl hS (fun _ hw' => Ev.loadAgg (cs := ratC dx dy rx ry) rfl rfl rfl (hrc_r.keep0 hw')) ?_)));unfold ratC;refine wh 4 rfl hS (fun _ _ => Ev.move rfl) (wh 5 rfl hS (fun _ _ => Ev.move rfl) (wh 7 rfl hS (fun _ _ => Ev.move rfl) (wh 8 rfl hS (fun _ _ => Ev.indexAddr (i := 0) rfl rfl (by decide) (by decide)) (wh 9 rfl hS (fun _ _ => Ev.fieldAddr rfl) (wh 10 rfl hS (fun _ _ => Ev.fieldAddr rfl) (wh 11 rfl hS (fun _ hw' => Ev.load (v := .bool dx.neg) rfl rfl ((hrc_r.keep0 hw') 0 _ rfl)) ?_))))));refine WH.oneCall 6 rfl (by kernel_rfl) hasF314 rfl rfl (r11Nearby_spec dx dy rx ry mode _ hm hNx hNy hokx hoky) fun v w2 h' => ?_;obtain ⟨r, rfl, hNr, hr, hC⟩ := h';have hch := hch.ta hC;have hS := hS.trans hC;refine ⟨hS, ?_⟩;refine wh 12 rfl hS (fun _ _ => Ev.assign rfl) (wh 13 rfl hS (fun _ _ => Ev.assign rfl) (wh 14 rfl hS (fun _ _ => Ev.assign rfl) ?_));refine WH.done (by kernel_rfl) (kr31 _ _ _ ?_);refine kh30 ?_;refine zr ?_;refine bodyA.ret3 rfl rfl rfl rfl ?_;exact ⟨.inr ⟨hm, .inr (.inr ⟨hs, dx, dy, hex, hey, .inr ⟨hy0, r, hNr, hr, rfl⟩⟩)⟩, hch⟩

theorem r11wide64_spec (k : Nat) (neg : Bool) (e : Int) (w : World) (hk : k ≤ 9218868437227405312) : Ret Tryz.prog 262 [.int .u64 (k : Int), .bool neg, .int .i64 e] w fun u w' => u = .tuple [.float .f64 (if neg then k + 9223372036854775808 else k), .int .i64 e].toArray ∧ w = w' := by
 refine zE3 Tryz.func262 rfl ?_;refine Sr fun _ kh1 => za rfl (za rfl (zz (kh1 (zc fun _ kh3 => Sr fun _ kh4 => zm rfl (zz (kh4 ?_))))));refine zy rfl ?_ ?_<;>intro hc1<;>try simp only [qs] at hc1
 ·have hng := hc1
  refine zR fun _ kr6 => ?_;refine zm rfl ?_;refine WL.ev (Ev.add64In (b := 9223372036854775808) rfl rfl (by omega)) rfl ?_;refine za rfl ?_;refine WL.nil (kr6 _ _ _ (kh3 ?_));refine Sr fun _ kh7 => zm rfl ?_;refine WL.ev (Ev.ext rfl (ext94 _ _)) rfl ?_;refine zm rfl (za rfl (za rfl (zz (kh7 ?_))));refine zr (zr2 rfl rfl rfl ?_);rw [if_pos hng];exact ⟨rfl, rfl⟩
 ·have hng := hc1
  refine zkk ?_;refine kh3 (Sr fun _ kh9 => zm rfl ?_);refine WL.ev (Ev.ext rfl (ext94 _ _)) rfl ?_;refine zm rfl (za rfl (za rfl (zz (kh9 ?_))));refine zr (zr2 rfl rfl rfl ?_);rw [if_neg (by rw [hng]; decide)];exact ⟨rfl, rfl⟩

theorem r11Quot_spec (nn nd : Bool) (vn vd : Value) (ln ld : List Nat) (en ed : Int) (mode : Int) (w : World) (hn : NU w vn ln) (hd : NU w vd ld) (hen : -9223372036854775808 ≤ en ∧ en ≤ 9223372036854775807) (hed : -9223372036854775808 ≤ ed ∧ ed ≤ 9223372036854775807) (hln : ln.length ≤ 34359738368) (hld : ld.length ≤ 34359738368) : Ret Tryz.prog 171 [.agg [.bool nn, vn, .int .i64 en, .bool nd, vd, .int .i64 ed].toArray, .int .i64 mode] w fun u w' => (∃ bits e, u = .tuple [.float .f64 bits, .int .i64 e].toArray ∧ QuotP nn nd (val ln) (val ld) en ed mode bits e) ∧ Chg [] w w' := by
 have hch : Chg [] w w := Chg.refl _ _;have hon1 := hn.one;have hod1 := hd.one;refine zE2 Tryz.func171 rfl ?_;refine Sr fun _ kh1 => ?_;refine zBh rfl rfl rfl hch fun b2 wm2 hb2 hcm2 hge2 hgehch2 hch => ?_;have hn := hn.keep0 hcm2;have hd := hd.keep0 hcm2;refine za rfl (za rfl (zz (kh1 (zc fun _ kh3 => ?_))));refine CW.regionHC 11 rfl hmix fun kR4 kr4 hS hdr => ?_;have hch := hch.ta hdr;have hb2 := hb2.k0 hdr;have hn := hn.keep0 hdr;have hd := hd.keep0 hdr;have hb2_r := hb2;refine wh 1 rfl hS (fun _ hw' => Ev.loadA rfl rfl (hb2_r.keep0 hw') rfl) (wh 2 rfl hS (fun _ _ => Ev.move rfl) ?_);refine WH.oneCall 0 rfl (by kernel_rfl) hasF248 rfl rfl (r3Of64_spec _) fun v w1 h' => ?_;obtain ⟨rfl, hC⟩ := h';have hch := hch.ta hC;have hn := hn.keep0 hC;have hd := hd.keep0 hC;have hS := hS.trans hC;refine ⟨hS, ?_⟩;refine WH.oneCall 3 rfl (by kernel_rfl) hasF261 rfl rfl (r11rounded_spec _ _ _ _ _ _ _ _ mode _ hn hd hen hed hln hld) fun v w2 h' => ?_;obtain ⟨hD, hC13⟩ := h';have hch := hch.ta hC13;have hS := hS.trans hC13;refine ⟨hS, ?_⟩;rcases hD with ⟨hm, rfl⟩ | ⟨hm, ⟨hs, rfl⟩ | ⟨hs, hno, rfl⟩ | ⟨hs, dx, dy, hex, hey, ⟨hy0, rfl⟩ | ⟨hy0, r, hNr, hr, rfl⟩⟩⟩
 ·refine wh 4 rfl hS (fun _ _ => Ev.move rfl) (wh 5 rfl hS (fun _ _ => Ev.extract rfl rfl) (wh 6 rfl hS (fun _ _ => Ev.extract rfl rfl) (wh 7 rfl hS (fun _ _ => Ev.extract rfl rfl) (wh 8 rfl hS (fun _ _ => Ev.assign rfl) (wh 9 rfl hS (fun _ _ => Ev.assign rfl) (wh 10 rfl hS (fun _ _ => Ev.assign rfl) ?_))))));refine WH.done (by kernel_rfl) (kr4 _ _ _ ?_);refine kh3 (Sr fun _ kh5 => zm rfl (zm rfl (zm rfl ?_)));refine WL.call hasF262 rfl rfl (r11wide64_spec 0 false 1 _ (by omega)) fun v w3 h' => ?_;obtain ⟨rfl, rfl⟩ := h';refine zx rfl rfl (zx rfl rfl (za rfl (za rfl (zz (kh5 ?_)))));refine zr (zr2 rfl rfl rfl ?_);exact ⟨⟨_, _, rfl, .inl ⟨hm, rfl, rfl⟩⟩, hch⟩
 ·refine wh 4 rfl hS (fun _ _ => Ev.move rfl) (wh 5 rfl hS (fun _ _ => Ev.extract rfl rfl) (wh 6 rfl hS (fun _ _ => Ev.extract rfl rfl) (wh 7 rfl hS (fun _ _ => Ev.extract rfl rfl) (wh 8 rfl hS (fun _ _ => Ev.assign rfl) (wh 9 rfl hS (fun _ _ => Ev.assign rfl) (wh 10 rfl hS (fun _ _ => Ev.assign rfl) ?_))))));refine WH.done (by kernel_rfl) (kr4 _ _ _ ?_);refine kh3 (Sr fun _ kh7 => zm rfl (zm rfl (zm rfl ?_)));refine WL.call hasF262 rfl rfl (r11wide64_spec 0 false 1 _ (by omega)) fun v w4 h' => ?_;obtain ⟨rfl, rfl⟩ := h';refine zx rfl rfl (zx rfl rfl (za rfl (za rfl (zz (kh7 ?_)))));refine zr (zr2 rfl rfl rfl ?_);exact ⟨⟨_, _, rfl, .inr ⟨hm, .inl ⟨hs, rfl, rfl⟩⟩⟩, hch⟩
 ·refine wh 4 rfl hS (fun _ _ => Ev.move rfl) (wh 5 rfl hS (fun _ _ => Ev.extract rfl rfl) (wh 6 rfl hS (fun _ _ => Ev.extract rfl rfl) (wh 7 rfl hS (fun _ _ => Ev.extract rfl rfl) (wh 8 rfl hS (fun _ _ => Ev.assign rfl) (wh 9 rfl hS (fun _ _ => Ev.assign rfl) (wh 10 rfl hS (fun _ _ => Ev.assign rfl) ?_))))));refine WH.done (by kernel_rfl) (kr4 _ _ _ ?_);refine kh3 (Sr fun _ kh9 => zm rfl (zm rfl (zm rfl ?_)));refine WL.call hasF262 rfl rfl (r11wide64_spec 0 false 2 _ (by omega)) fun v w5 h' => ?_;obtain ⟨rfl, rfl⟩ := h';refine zx rfl rfl (zx rfl rfl (za rfl (za rfl (zz (kh9 ?_)))));refine zr (zr2 rfl rfl rfl ?_);exact ⟨⟨_, _, rfl, .inr ⟨hm, .inr (.inl ⟨hs, hno, rfl, rfl⟩)⟩⟩, hch⟩
 ·refine wh 4 rfl hS (fun _ _ => Ev.move rfl) (wh 5 rfl hS (fun _ _ => Ev.extract rfl rfl) (wh 6 rfl hS (fun _ _ => Ev.extract rfl rfl) (wh 7 rfl hS (fun _ _ => Ev.extract rfl rfl) (wh 8 rfl hS (fun _ _ => Ev.assign rfl) (wh 9 rfl hS (fun _ _ => Ev.assign rfl) (wh 10 rfl hS (fun _ _ => Ev.assign rfl) ?_))))));refine WH.done (by kernel_rfl) (kr4 _ _ _ ?_);refine kh3 (Sr fun _ kh11 => zm rfl (zm rfl (zm rfl ?_)));refine WL.call hasF262 rfl rfl (r11wide64_spec 0 false 21 _ (by omega)) fun v w6 h' => ?_;obtain ⟨rfl, rfl⟩ := h';refine zx rfl rfl (zx rfl rfl (za rfl (za rfl (zz (kh11 ?_)))));refine zr (zr2 rfl rfl rfl ?_);exact ⟨⟨_, _, rfl, .inr ⟨hm, .inr (.inr ⟨hs, dx, dy, hex, hey, .inl ⟨hy0, rfl, rfl⟩⟩)⟩⟩, hch⟩
 ·refine wh 4 rfl hS (fun _ _ => Ev.move rfl) (wh 5 rfl hS (fun _ _ => Ev.extract rfl rfl) (wh 6 rfl hS (fun _ _ => Ev.extract rfl rfl) (wh 7 rfl hS (fun _ _ => Ev.extract rfl rfl) (wh 8 rfl hS (fun _ _ => Ev.assign rfl) (wh 9 rfl hS (fun _ _ => Ev.assign rfl) (wh 10 rfl hS (fun _ _ => Ev.assign rfl) ?_))))));refine WH.done (by kernel_rfl) (kr4 _ _ _ ?_);refine kh3 (Sr fun _ kh13 => zm rfl (zm rfl (zm rfl ?_)));refine WL.call hasF262 rfl rfl (r11wide64_spec r dx.neg 0 _ (by omega)) fun v w7 h' => ?_;obtain ⟨rfl, rfl⟩ := h';refine zx rfl rfl (zx rfl rfl (za rfl (za rfl (zz (kh13 ?_)))));refine zr (zr2 rfl rfl rfl ?_);exact ⟨⟨_, _, rfl, .inr ⟨hm, .inr (.inr ⟨hs, dx, dy, hex, hey, .inr ⟨hy0, r, hNr, hr, rfl, rfl⟩⟩)⟩⟩, hch⟩

end

/- Reference of layer 1: parts, classes. No condition. -/
section
open Go Sx Wd

theorem r1parts_spec (x : Nat) (w : World) (hx : x < 18446744073709551616) : Ret Tryz.prog 298 [.int .u64 (x : Int), .int .i64 11, .int .i64 52] w fun u w' => u = .agg [.bool (splitP x).neg, .int .i64 ((splitP x).cls : Int), .int .i64 (splitP x).exp, .int .u64 ((splitP x).frac : Int)].toArray ∧ Chg [] w w' := by
 have hch : Chg [] w w := Chg.refl _ _;refine zE3 Tryz.func298 rfl ?_;refine Sr fun _ kh1 => ?_;refine WL.allocB (l := [.bool false, .int .i64 0, .int .i64 0, .int .u64 0]) rfl rfl fun b6 wm6 hb6 hcm6 hge6 => ?_;have hgehch6 := Nat.le_trans hch.size hge6;have hch := hch.ta hcm6;refine zz (kh1 (Sr fun _ kh3 => zm rfl (zm rfl ?_)));refine WL.ev (Ev.convIn rfl rfl (in_u64 (by omega))) rfl ?_;refine WL.ev (Ev.shrU (b := 52) rfl rfl (by simp only [IntKind.bits]; omega)) rfl ?_;rw [show x / 2 ^ 52 = x / 4503599627370496 from rfl];refine zm rfl ?_;refine WL.ev (Ev.convIn rfl rfl (in_u64 (by omega))) rfl ?_;refine WL.ev (Ev.shlU64 (a := 1) (b := 11) rfl rfl) rfl ?_;rw [show 1 * 2 ^ 11 % 18446744073709551616 = 2048 from rfl];refine WL.ev (Ev.remU (b := 2048) rfl rfl (by omega)) rfl ?_;refine WL.ev (Ev.convIn rfl rfl (in_i64 (by omega))) rfl ?_;refine za rfl (zz (kh3 (Sr fun _ kh5 => zm rfl (zm rfl ?_))));refine WL.ev (Ev.convIn rfl rfl (in_u64 (by omega))) rfl ?_;refine WL.ev (Ev.shlU64 (a := 1) (b := 52) rfl rfl) rfl ?_;rw [show 1 * 2 ^ 52 % 18446744073709551616 = 4503599627370496 from rfl];refine WL.ev (Ev.remU (b := 4503599627370496) rfl rfl (by omega)) rfl ?_;refine za rfl (zz (kh5 (Sr fun _ kh7 => zm rfl (zm rfl (zm rfl ?_)))));refine WL.ev (Ev.addIn rfl rfl (by omega)) rfl ?_;rw [show (11 : Int) + 52 = ((63 : Nat) : Int) by omega];refine WL.ev (Ev.convIn rfl rfl (in_u64 (by omega))) rfl ?_;refine WL.ev (Ev.shrU (b := 63) rfl rfl (by simp only [IntKind.bits]; omega)) rfl ?_;rw [show x / 2 ^ 63 = x / 9223372036854775808 from rfl];refine WL.ev (Ev.remU (b := 2) rfl rfl (by omega)) rfl ?_;refine zq rfl rfl ?_;rw [show decide (((x / 9223372036854775808 % 2 : Nat) : Int) = 1) = decide (x / 9223372036854775808 % 2 = 1) from decide_eq_decide.2 (by omega)];refine WL.ev (Ev.build (vs := _) (cs := [_, _, _, _]) rfl rfl) rfl ?_;refine WL.allocB (l := [.bool false, .int .i64 0, .int .i64 0, .int .u64 0]) rfl rfl fun b9 wm9 hb9 hcm9 hge9 => ?_;have hgehch9 := Nat.le_trans hch.size hge9;have hch := hch.ta hcm9;have hneb69 := zdd hb6.lt hge9;have hb6 := hb6.k0 hcm9;refine zss rfl rfl ao hb9 rfl fun ws1 hb9_ hcs1 => ?_;(try simp only [Sx.splice, qt] at hb9_);have hch := hch.s1 hcs1;have hb6 := hb6.kq hcs1;have hb9 := hb9_;refine zz (kh7 (Sr fun _ kh9 => zm rfl ?_));refine WL.ev (Ev.subIn rfl rfl (by omega)) rfl ?_;rw [show (11 : Int) - 1 = ((10 : Nat) : Int) by omega];refine WL.ev (Ev.convIn rfl rfl (in_u64 (by omega))) rfl ?_;refine WL.ev (Ev.shlI (a := 1) (b := 10) (c := 1024) rfl rfl (by decide) (by decide)) rfl ?_;refine WL.ev (Ev.subIn rfl rfl (by omega)) rfl ?_;refine zm rfl ?_;refine WL.ev (Ev.subIn rfl rfl (by omega)) rfl ?_;rw [show (2 : Int) - 1024 - 52 = -1074 by omega];refine za rfl (zz (kh9 (zc fun _ kh11 => Sr fun _ kh12 => zm rfl (zm rfl ?_))));refine WL.ev (Ev.convIn rfl rfl (in_u64 (by omega))) rfl ?_;refine WL.ev (Ev.shlI (a := 1) (b := 11) (c := 2048) rfl rfl (by decide) (by decide)) rfl ?_
 refine WL.ev (Ev.subIn rfl rfl (by omega)) rfl ?_;rw [show (2048 : Int) - 1 = ((2047 : Nat) : Int) by omega];refine zq rfl rfl (zz (kh12 ?_));refine zy rfl ?_ ?_<;>intro hc1<;>try simp only [qs] at hc1
 ·have k1 : x / 4503599627370496 % 2048 = 2047 := by omega
  refine zc fun _ kh14 => Sr fun _ kh15 => zm rfl ?_;refine WL.ev (Ev.gtr rfl rfl) rfl ?_;refine zz (kh15 ?_);refine zy rfl ?_ ?_<;>intro hc2<;>try simp only [qs] at hc2
  ·have k2 : x % 4503599627370496 ≠ 0 := by omega
   refine Sr fun _ kh17 => ?_;refine WL.ev (Ev.build (vs := _) (cs := [_, _, _, _]) rfl rfl) rfl ?_;refine zss rfl rfl ao hb6 rfl fun ws2 hb6_ hcs2 => ?_;(try simp only [Sx.splice, qt] at hb6_);have hch := hch.s1 hcs2;have hb6 := hb6_;refine zz (kh17 ?_);refine zr (bodyA.retR1 rfl (RVal.cell rfl (hb6.varA rfl rfl)) ?_);unfold splitP; rw [if_pos ⟨k1, k2⟩];exact ⟨rfl, hch⟩
  ·have k2 : ¬ x % 4503599627370496 ≠ 0 := by omega
   refine zkk ?_;refine kh14 (Sr fun _ kh19 => zf rfl ?_);refine WL.storeC rfl rfl o1 hb9 (by simp) rfl fun ws3 hb9_ hcs3 => ?_;(try simp only [Sx.splice, qt] at hb9_);have hch := hch.s1 hcs3;have hb6 := hb6.kq hcs3;have hb9 := hb9_;refine zz (kh19 (Sr fun _ kh21 => zg hb9 rfl ?_));refine zss rfl rfl ao hb6 rfl fun ws4 hb6_ hcs4 => ?_;(try simp only [Sx.splice, qt] at hb6_);have hch := hch.s1 hcs4;have hb6 := hb6_;refine zz (kh21 ?_);refine zr (bodyA.retR1 rfl (RVal.cell rfl (hb6.varA rfl rfl)) ?_);unfold splitP; rw [if_neg (fun q => k2 q.2), if_pos k1];exact ⟨rfl, hch⟩
 ·have k1 : ¬ x / 4503599627370496 % 2048 = 2047 := by omega
  refine zkk ?_;refine kh11 (Sr fun _ kh23 => zm rfl (zf rfl ?_));refine WL.storeC rfl rfl o1 hb9 (by simp) rfl fun ws5 hb9_ hcs5 => ?_;(try simp only [Sx.splice, qt] at hb9_);have hch := hch.s1 hcs5;have hb6 := hb6.kq hcs5;have hb9 := hb9_;refine zz (kh23 (Sr fun _ kh25 => zm rfl (zf rfl ?_)));refine WL.storeC rfl rfl o1 hb9 (by simp) rfl fun ws6 hb9_ hcs6 => ?_;(try simp only [Sx.splice, qt] at hb9_);have hch := hch.s1 hcs6;have hb6 := hb6.kq hcs6;have hb9 := hb9_;refine zz (kh25 (zc fun _ kh27 => ?_));refine CW.block ?_;refine Sr fun _ kh28 => zm rfl ?_;refine WL.ev (Ev.gtr rfl rfl) rfl ?_;refine za rfl (zz (kh28 ?_));refine zy rfl ?_ ?_<;>intro hc3<;>try simp only [qs] at hc3
  ·have k3 : 0 < x / 4503599627370496 % 2048 := by omega
   refine Sr fun _ kh30 => zf rfl ?_;refine WL.storeC rfl rfl o1 hb9 (by simp) rfl fun ws7 hb9_ hcs7 => ?_;(try simp only [Sx.splice, qt] at hb9_);have hch := hch.s1 hcs7;have hb6 := hb6.kq hcs7;have hb9 := hb9_;refine zz (kh30 (Sr fun _ kh32 => zm rfl (zm rfl ?_)));refine WL.ev (Ev.convIn rfl rfl (in_u64 (by omega))) rfl ?_;refine WL.ev (Ev.shlU64 (a := 1) (b := 52) rfl rfl) rfl ?_;rw [show 1 * 2 ^ 52 % 18446744073709551616 = 4503599627370496 from rfl];refine WL.ev (Ev.add64In rfl rfl (by omega)) rfl ?_;refine zf rfl ?_;refine WL.storeC rfl rfl o1 hb9 (by simp) rfl fun ws8 hb9_ hcs8 => ?_;(try simp only [Sx.splice, qt] at hb9_);have hch := hch.s1 hcs8;have hb6 := hb6.kq hcs8;have hb9 := hb9_;refine zz (kh32 ?_);refine zR fun _ kr34 => ?_;refine zm rfl (zm rfl ?_);refine WL.ev (Ev.addIn rfl rfl (by omega)) rfl ?_;refine WL.ev (Ev.subIn rfl rfl (by omega)) rfl ?_;refine zf rfl ?_;refine WL.storeC rfl rfl o1 hb9 (by simp) rfl fun ws9 hb9_ hcs9 => ?_;(try simp only [Sx.splice, qt] at hb9_);have hch := hch.s1 hcs9;have hb6 := hb6.kq hcs9;have hb9 := hb9_;refine WL.nil (kr34 _ _ _ (kh27 ?_));refine Sr fun _ kh35 => zg hb9 rfl ?_;refine zss rfl rfl ao hb6 rfl fun ws10 hb6_ hcs10 => ?_;(try simp only [Sx.splice, qt] at hb6_);have hch := hch.s1 hcs10;have hb6 := hb6_;refine zz (kh35 ?_);refine zr (bodyA.retR1 rfl (RVal.cell rfl (hb6.varA rfl rfl)) ?_);unfold splitP; rw [if_neg (fun q => k1 q.1), if_neg k1, if_pos k3];exact ⟨rfl, hch⟩
  ·have k3 : ¬ 0 < x / 4503599627370496 % 2048 := by omega
   refine Sr fun _ kh37 => zm rfl ?_;refine WL.ev (Ev.gtr rfl rfl) rfl ?_;refine za rfl (zz (kh37 ?_));refine zy rfl ?_ ?_<;>intro hc4<;>try simp only [qs] at hc4
   ·have k4 : 0 < x % 4503599627370496 := by omega
    refine zR fun _ kr39 => ?_;refine zf rfl ?_;refine WL.storeC rfl rfl o1 hb9 (by simp) rfl fun ws11 hb9_ hcs11 => ?_;(try simp only [Sx.splice, qt] at hb9_);have hch := hch.s1 hcs11;have hb6 := hb6.kq hcs11;have hb9 := hb9_;refine WL.nil (kr39 _ _ _ (kh27 ?_));refine Sr fun _ kh40 => zg hb9 rfl ?_;refine zss rfl rfl ao hb6 rfl fun ws12 hb6_ hcs12 => ?_;(try simp only [Sx.splice, qt] at hb6_);have hch := hch.s1 hcs12;have hb6 := hb6_;refine zz (kh40 ?_);refine zr (bodyA.retR1 rfl (RVal.cell rfl (hb6.varA rfl rfl)) ?_);unfold splitP; rw [if_neg (fun q => k1 q.1), if_neg k1, if_neg k3, if_pos k4];exact ⟨rfl, hch⟩
   ·have k4 : ¬ 0 < x % 4503599627370496 := by omega
    refine zR fun _ kr42 => ?_;refine zf rfl ?_;refine WL.storeC rfl rfl o1 hb9 (by simp) rfl fun ws13 hb9_ hcs13 => ?_;(try simp only [Sx.splice, qt] at hb9_);have hch := hch.s1 hcs13;have hb6 := hb6.kq hcs13;have hb9 := hb9_;refine WL.nil (kr42 _ _ _ (kh27 ?_));refine Sr fun _ kh43 => zg hb9 rfl ?_;refine zss rfl rfl ao hb6 rfl fun ws14 hb6_ hcs14 => ?_;(try simp only [Sx.splice, qt] at hb6_);have hch := hch.s1 hcs14;have hb6 := hb6_;refine zz (kh43 ?_);refine zr (bodyA.retR1 rfl (RVal.cell rfl (hb6.varA rfl rfl)) ?_);unfold splitP; rw [if_neg (fun q => k1 q.1), if_neg k1, if_neg k3, if_neg k4, show x % 4503599627370496 = 0 by omega];exact ⟨rfl, hch⟩

/-- The bits of a number, of a NaN those of the one NaN. -/
def oneNaN (x : Nat) : Nat := if 9218868437227405312 < x % 9223372036854775808 then 9221120237041090560 else x
theorem oneNaN_lt {x : Nat} (h : x < 18446744073709551616) : oneNaN x < 18446744073709551616 := by unfold oneNaN; split <;> omega
theorem oneNaN_split (x : Nat) : splitP (oneNaN x) = splitP x := by
  unfold oneNaN
  by_cases h : 9218868437227405312 < x % 9223372036854775808
  · rw [if_pos h]
    have : splitP x = ⟨false, 4, 0, 0⟩ := by unfold splitP; rw [if_pos (by omega)]
    rw [this]; rfl
  · rw [if_neg h]

theorem r1Bits_spec (x : Nat) (w : World) (hx : x < 18446744073709551616) : Ret Tryz.prog 122 [.float .f64 x] w fun u w' => u = .int .u64 (oneNaN x : Int) ∧ w = w' := by
 refine zE1 Tryz.func122 rfl ?_;refine Sr fun _ kh1 => za rfl (zz (kh1 (Sr fun _ kh3 => zm rfl ?_)));refine WL.ev (Ev.ext rfl (ext63 _ _)) rfl ?_;refine za rfl (zz (kh3 (zc fun _ kh5 => Sr fun _ kh6 => zm rfl ?_)));refine WL.ev (Ev.remU (b := 9223372036854775808) rfl rfl (by omega)) rfl ?_;refine WL.ev (Ev.gtr rfl rfl) rfl ?_;refine zz (kh6 ?_);refine zy rfl ?_ ?_<;>intro hc1<;>try simp only [qs] at hc1
 ·have k : 9218868437227405312 < x % 9223372036854775808 := by omega
  refine Sr fun _ kh8 => za rfl (zz (kh8 ?_));refine zr (zr1 rfl rfl ?_);unfold oneNaN; rw [if_pos k];exact ⟨rfl, rfl⟩
 ·have k : ¬ 9218868437227405312 < x % 9223372036854775808 := by omega
  refine zkk ?_;refine kh5 (Sr fun _ kh10 => zm rfl (za rfl (zz (kh10 ?_))));refine zr (zr1 rfl rfl ?_);unfold oneNaN; rw [if_neg k];exact ⟨rfl, rfl⟩

theorem r1Split_spec (x : Nat) (w : World) (hx : x < 18446744073709551616) : Ret Tryz.prog 215 [.float .f64 x] w fun u w' => u = .agg [.bool (splitP x).neg, .int .i64 ((splitP x).cls : Int), .int .i64 (splitP x).exp, .int .u64 ((splitP x).frac : Int)].toArray ∧ Chg [] w w' := by
 have hch : Chg [] w w := Chg.refl _ _;refine zE1 Tryz.func215 rfl ?_;refine Sr fun _ kh1 => ?_;refine WL.allocB (l := [.bool false, .int .i64 0, .int .i64 0, .int .u64 0]) rfl rfl fun b2 wm2 hb2 hcm2 hge2 => ?_;have hgehch2 := Nat.le_trans hch.size hge2;have hch := hch.ta hcm2;refine zz (kh1 (Sr fun _ kh3 => zm rfl ?_));refine WL.call hasF122 rfl rfl (r1Bits_spec x _ hx) fun v w1 h' => ?_;obtain ⟨rfl, rfl⟩ := h';refine WL.call hasF298 rfl rfl (r1parts_spec (oneNaN x) _ (oneNaN_lt hx)) fun v w2 h' => ?_;obtain ⟨rfl, hC⟩ := h';rw [oneNaN_split];have hch := hch.ta hC;have hb2 := hb2.k0 hC;refine zss rfl rfl ao hb2 rfl fun ws15 hb2_ hcs15 => ?_;(try simp only [Sx.splice, qt] at hb2_);have hch := hch.s1 hcs15;have hb2 := hb2_;refine zz (kh3 ?_);refine zr (bodyA.retR1 rfl (RVal.cell rfl (hb2.varA rfl rfl)) ?_);exact ⟨rfl, hch⟩

theorem r1Class_spec (x : Nat) (w : World) (hx : x < 18446744073709551616) : Ret Tryz.prog 135 [.float .f64 x] w fun u w' => u = .int .i64 ((splitP x).cls : Int) ∧ Chg [] w w' := by
 have hch : Chg [] w w := Chg.refl _ _;refine zE1 Tryz.func135 rfl ?_;refine Sr fun _ kh1 => za rfl (zz (kh1 (Sr fun _ kh3 => zm rfl ?_)));refine WL.call hasF215 rfl rfl (r1Split_spec x _ hx) fun v w1 h' => ?_;obtain ⟨rfl, hC⟩ := h';have hch := hch.ta hC;refine WL.ev (Ev.field (ft := 3) rfl rfl rfl rfl rfl) rfl ?_;refine za rfl (zz (kh3 ?_));refine zr (zr1 rfl rfl ?_);exact ⟨rfl, hch⟩

theorem r1Of_spec (x : Nat) (w : World) (hx : x < 18446744073709551616) : Ret Tryz.prog 54 [.int .u64 (x : Int)] w fun u w' => u = .float .f64 x ∧ w = w' := by
 refine zE1 Tryz.func54 rfl ?_;refine Sr fun _ kh1 => za rfl (zz (kh1 (Sr fun _ kh3 => zm rfl ?_)));refine WL.ev (Ev.ext rfl (ext94 _ _)) rfl ?_;refine za rfl (zz (kh3 ?_));refine zr (zr1 rfl rfl ?_);refine ⟨?_, rfl⟩
 first | rfl | simp

theorem r1raw_spec (x : Nat) (w : World) (hx : x < 18446744073709551616) : Ret Tryz.prog 59 [.float .f64 x] w fun u w' => u = .int .u64 (x : Int) ∧ w = w' := by
 refine zE1 Tryz.func59 rfl ?_;refine Sr fun _ kh1 => za rfl (zz (kh1 (Sr fun _ kh3 => zm rfl ?_)));refine WL.ev (Ev.ext rfl (ext63 _ _)) rfl ?_;refine za rfl (zz (kh3 ?_));refine zr (zr1 rfl rfl ?_);exact ⟨rfl, rfl⟩

end

/- Reference of layer 13: Told, finite. No condition. -/
section
open Go Sx Wd

theorem r13no_spec (e : Int) (w : World) : Ret Tryz.prog 217 [.int .i64 e] w fun u w' => u = .tuple [.float .f64 0, .int .i64 e].toArray ∧ w = w' := by
 refine zE1 Tryz.func217 rfl ?_;refine Sr fun _ kh1 => za rfl (za rfl (zz (kh1 (Sr fun _ kh3 => ?_))));refine WL.call hasF54 rfl rfl (r1Of_spec 0 _ (by omega)) fun v w1 h' => ?_;obtain ⟨rfl, rfl⟩ := h';refine zm rfl (za rfl (za rfl (zz (kh3 ?_))));refine zr (zr2 rfl rfl rfl ?_);exact ⟨rfl, rfl⟩

theorem r13Told_spec (d : Dy) (v : Value) (n : Nat) (s : SP) (mode : Int) (w : World) (hn : NU w v (wd d.m)) (hok : d.ok) (hnn : n ≤ 1099511627776) (hs : s.le 1000000000000000) : Ret Tryz.prog 220 [.agg [.bool d.neg, v, .int .i64 d.e].toArray, .int .i64 (n : Int), .agg [.int .i64 (s.na : Int), .int .i64 (s.up : Int), .int .i64 (s.dn : Int), .int .i64 (s.mi : Int), .int .i64 (s.pl : Int), .int .i64 (s.al : Int)].toArray, .int .i64 mode] w fun u w' => (∃ bits e, u = .tuple [.float .f64 bits, .int .i64 e].toArray ∧ toldR d n s mode bits e) ∧ Chg [] w w' := by
 have hch : Chg [] w w := Chg.refl _ _;have he := hok.e;have hl := hok.len;have hn1 := hn;obtain ⟨⟨av, cv, rfl, hcapv, hrv⟩, hWv, hlv⟩ := hn1;have hon := hn.one;have hok2 := intD_ok (n := (n : Int)) (by omega);have he2 := hok2.e;have hl2 := hok2.len;refine zE4 Tryz.func220 rfl ?_;refine Sr fun _ kh1 => ?_;refine zBh rfl rfl rfl hch fun b4 wm4 hb4 hcm4 hge4 hgehch4 hch => ?_;have hn := hn.keep0 hcm4;refine zBh rfl rfl rfl hch fun b6 wm6 hb6 hcm6 hge6 hgehch6 hch => ?_;have hn := hn.keep0 hcm6;have hneb46 := zdd hb4.lt hge6;have hb4 := hb4.k0 hcm6;refine za rfl (za rfl (zz (kh1 (zc fun _ kh3 => Sr fun _ kh4 => zf rfl (zl hb4 rfl rfl (zn rfl (zq rfl rfl (zz (kh4 ?_)))))))));refine zy rfl ?_ ?_<;>intro hc1<;>try simp only [qs] at hc1
 ·have h0 : d.m = 0 := wd_eq_nil.1 (List.length_eq_zero_iff.1 (by omega));refine Sr fun _ kh6 => zg hb6 rfl (zm rfl ?_);refine WL.call hasF168 rfl rfl (r6Nought_spec s mode _ hs) fun v w1 h' => ?_
  obtain ⟨rfl, hC⟩ := h';have hch := hch.ta hC;refine za rfl (za rfl (zz (kh6 ?_)));refine zr (zr2 rfl rfl rfl ?_);exact ⟨⟨_, _, rfl, .inl ⟨h0, rfl, rfl⟩⟩, hch⟩
 ·have h0 : d.m ≠ 0 := fun q => by rw [q, wd_zero] at hc1; exact hc1 rfl
  refine zkk ?_;refine kh3 (zc fun _ kh8 => ?_);refine CW.regionHC 10 rfl hmix fun kR9 kr9 hS hdr => ?_;have hch := hch.ta hdr;have hb4 := hb4.k0 hdr;have hn := hn.keep0 hdr;have hb4_r := hb4;refine wh 0 rfl hS (fun _ hw' => Ev.loadA rfl rfl (hb4_r.keep0 hw') rfl) (wh 1 rfl hS (fun _ _ => Ev.move rfl) (wh 4 rfl hS (fun _ _ => Ev.move rfl) ?_));refine WH.oneCall 2 rfl (by kernel_rfl) hasF172 rfl rfl (r3Int_spec n _ (by omega)) fun v w2 h' => ?_;obtain ⟨⟨ri, rfl, hNi⟩, hC⟩ := h';have hch := hch.ta hC;have hn := hn.keep0 hC;have hS := hS.trans hC;refine ⟨hS, ?_⟩;refine wh 3 rfl hS (fun _ _ => Ev.build (vs := _) (cs := [_, _, _, _, _, _]) rfl rfl) ?_;refine WH.oneCall 5 rfl (by kernel_rfl) hasF171 rfl rfl (r11Quot_spec _ _ _ _ _ _ _ _ mode _ hn hNi (by omega) (by omega) (by omega) (by omega)) fun v w3 h' => ?_;obtain ⟨⟨bits, e, rfl, hQ⟩, hC⟩ := h';rw [val_wd, val_wd] at hQ;have hch := hch.ta hC;have hS := hS.trans hC;refine ⟨hS, ?_⟩;refine wh 6 rfl hS (fun _ _ => Ev.extract rfl rfl) (wh 7 rfl hS (fun _ _ => Ev.extract rfl rfl) (wh 8 rfl hS (fun _ _ => Ev.assign rfl) (wh 9 rfl hS (fun _ _ => Ev.assign rfl) ?_)));refine WH.done (by kernel_rfl) (kr9 _ _ _ ?_);refine kh8 ?_;refine zr (zr2 rfl rfl rfl ?_);exact ⟨⟨bits, e, rfl, .inr ⟨h0, hQ⟩⟩, hch⟩

structure KFn (l : List Nat) (w0 : World) (i : Nat) (w : World) : Prop where
  hi : i ≤ l.length
  f : finL (l.take i)
  ch : Chg [] w0 w

theorem r13finite_spec (v : Value) (l : List Nat) (w : World) (hv : NF w v l) : Ret Tryz.prog 218 [v] w fun u w' => u = .bool (decide (finL l)) ∧ Chg [] w w' := by
 obtain ⟨⟨al, cl, rfl, hcapl, hrl⟩, hWl, hll⟩ := hv;have hch : Chg [] w w := Chg.refl _ _;refine zE1 Tryz.func218 rfl ?_;refine Sr fun _ kh1 => za rfl (zz (kh1 (zc fun _ kh3 => Sr fun _ kh4 => za rfl (zz (kh4 ?_)))));refine CW.block ?_;refine CW.loop (S := fun i : Nat => [(0, .slice al l.length cl), (3, .int .i64 (i : Int))]) (Inv := KFn l w) (mu := fun i => l.length - i) (0) ?_ ?_ ?_
 ·exact ⟨Nat.zero_le _, fun x hx => by simp at hx, hch⟩
 ·exact SLp
 ·rintro i wr ⟨hi, hf, hch⟩;refine zc fun _ kh6 => Sr fun _ kh7 => zm rfl (zm rfl (zn rfl ?_));refine WL.ev (Ev.lss rfl rfl) rfl ?_;refine zz (kh7 ?_);refine zy rfl ?_ ?_<;>intro hc1<;>try simp only [qs] at hc1
  ·have hx := D_getD hWl i
   refine zkk ?_;refine kh6 (zc fun _ kh9 => ?_);refine CW.block ?_;refine Sr fun _ kh10 => zm rfl (zm rfl ?_);refine WL.ev (Ev.ixR (i) rfl rfl (hrl.keep0 hch) (by omega) (by omega) (by simp; omega)) rfl ?_;refine WL.ev (Ev.load rfl rfl ((hrl.keep0 hch).f64 (by first | omega | (simp; omega)))) rfl ?_;refine WL.call hasF135 rfl rfl (r1Class_spec (l.getD i 0) _ hx) fun v w1 h' => ?_;obtain ⟨rfl, hC⟩ := h';have hch := hch.ta hC;refine WL.ev (Ev.gtr rfl rfl) rfl ?_;refine zz (kh10 ?_);refine zy rfl ?_ ?_<;>intro hc2<;>try simp only [qs] at hc2
   ·refine Sr fun _ kh12 => za rfl (zz (kh12 ?_));refine zr (zr1 rfl rfl ?_);refine ⟨?_, hch⟩;rw [decide_eq_false];intro q;have := q (l.getD i 0) (by rw [List.getD_eq_getElem?_getD, List.getElem?_eq_getElem (by omega)]; exact List.getElem_mem _);omega
   ·refine zkk ?_
    refine kh9 ?_;refine zR fun _ kr14 => ?_;refine zm rfl ?_;(first | refine zi rfl rfl ?_ | refine zo rfl rfl ?_);refine za rfl ?_;refine WL.nil (kr14 _ _ _ ?_);refine ⟨rfl, i + 1, ?_, ?_, ?_⟩
    ·exact SLp
    ·exact ⟨by omega, (finL_step (by omega)).2 ⟨hf, by omega⟩, hch⟩
    ·show l.length - (i + 1) < l.length - i; omega
  ·have hiX : i = l.length := by omega
   subst hiX;rw [List.take_length] at hf;refine CW.exit ?_;refine kh3 (Sr fun _ kh15 => za rfl (zz (kh15 ?_)));refine zr (zr1 rfl rfl ?_);rw [decide_eq_true hf];exact ⟨rfl, hch⟩

end

/- Reference of layer 13: Mean. No condition. -/
section
open Go Sx Wd

end

/- Reference of layer 13: Middle, Of. No condition. -/
section
open Go Sx Wd

theorem mean_plain {l : List Nat} {mode : Int} {bits : Nat} {e : Int} (hm : 0 ≤ mode ∧ mode ≤ 4) (h : finL l) (hl : l.length ≤ 65536) (h0 : l ≠ []) (hT : toldR (sumD (sumI l)) l.length (cntP l) mode bits e) : meanR l mode 0 0 bits e := by
  have hf := fil_fin h
  obtain ⟨hs, hv⟩ := sift_fin (pn := 0) (pi := 0) h hl (by unfold mayQ; omega)
  exact .inr ⟨hm, .inr ⟨hs, .inr ⟨hv, .inr ⟨by rw [hf]; exact h0, by rw [hf]; exact hT⟩⟩⟩⟩

theorem r13Middle_spec (x y : Nat) (mode : Int) (w : World) (hx : x < 18446744073709551616) (hy : y < 18446744073709551616) : Ret Tryz.prog 138 [.float .f64 x, .float .f64 y, .int .i64 mode] w fun u w' => (∃ bits e, u = .tuple [.float .f64 bits, .int .i64 e].toArray ∧ midR x y mode bits e) ∧ Chg [] w w' := by
 have hch : Chg [] w w := Chg.refl _ _;have hcl := cnt_le [x, y];have hin := sumI_in (l := [x, y]) (by simp);have hfm : finL [x, y] ↔ ((splitP x).cls ≤ 2 ∧ (splitP y).cls ≤ 2) := by unfold finL; simp
 refine zE3 Tryz.func138 rfl ?_;refine Sr fun _ kh1 => za rfl (za rfl (zz (kh1 (zc fun _ kh3 => ?_))));refine CW.seqM 16 (decide (mode < 0 ∨ 4 < mode)) ?_ ?_
 ·refine zR fun _ kr4 => ?_;refine zm rfl ?_;refine WL.ev (Ev.lss rfl rfl) rfl ?_;refine zm rfl ?_;refine zb ?_ ?_<;>intro hg1<;>try simp only [qs] at hg1
  ·refine zv rfl (zv rfl (zt rfl rfl ?_));refine WL.nil (kr4 _ _ _ ?_);refine ⟨rfl, rfl, Subs.consB rfl ?_ ?_⟩
   ·first | (simp; omega) | (simp_all; done) | (refine decide_eq_decide.2 ?_; omega)
   ·exact SMg
  ·refine zw rfl (zm rfl (zw rfl ?_));refine WL.ev (Ev.gtr rfl rfl) rfl ?_
   refine ze rfl rfl ?_;refine WL.nil (kr4 _ _ _ ?_);refine ⟨rfl, rfl, Subs.consB rfl ?_ ?_⟩
   ·first | (simp; omega) | (simp_all; done) | (refine decide_eq_decide.2 ?_; omega)
   ·exact SMg
 ·refine zy rfl ?_ ?_<;>intro hc2<;>try simp only [qs] at hc2
  ·have hbad := hc2
   refine Sr fun _ kh5 => ?_;refine WL.call hasF217 rfl rfl (r13no_spec (1) _) fun v w1 h' => ?_;obtain ⟨rfl, rfl⟩ := h';refine zx rfl rfl (zx rfl rfl (za rfl (za rfl (zz (kh5 ?_)))));refine zr (zr2 rfl rfl rfl ?_);exact ⟨⟨0, 1, rfl, .inl ⟨by omega, rfl, rfl⟩⟩, hch⟩
  ·have hmd : 0 ≤ mode ∧ mode ≤ 4 := by have := hc2; omega
   refine zkk ?_;refine kh3 (Sr fun _ kh7 => zm rfl (zm rfl ?_));refine WL.buildSlice (m := 2) (cs := [f64v (x), f64v (y)]) (by decide) (by decide) rfl (by kernel_rfl) rfl fun b22 w22 hn22 => ?_;have hcm22 := hn22.chg;have hge22 := hn22.ge;have hb22 : FB w22 b22 _ [x, y] := hn22.at_;have hgehch22 := Nat.le_trans hch.size hge22;have hch := hch.ta hcm22;refine za rfl (zz (kh7 (zc fun _ kh9 => ?_)));have hv : NF w22 (.slice (some ⟨b22, 0, none⟩) 2 2) [x, y] := ⟨⟨_, 2, rfl, by simp, hb22.row⟩, by intro z hz; simp only [List.mem_cons, List.not_mem_nil, or_false] at hz; rcases hz with rfl | rfl <;> assumption, by simp⟩;refine zR fun _ kr10 => ?_;refine zm rfl ?_;refine WL.call hasF218 rfl rfl (r13finite_spec _ [x, y] _ hv) fun v w2 h' => ?_;obtain ⟨rfl, hC⟩ := h';have hv := hv.keep0 hC;have hch := hch.ta hC;refine za rfl ?_;refine WL.nil (kr10 _ _ _ (kh9 ?_));refine zc fun _ kh11 => Sr fun _ kh12 => zm rfl ?_;refine WL.ev (Ev.not rfl) rfl ?_;refine zz (kh12 ?_);refine zy rfl ?_ ?_<;>intro hc3<;>try simp only [qs] at hc3
   ·have hnf : ¬ finL [x, y] := by simpa using hc3
    refine Sr fun _ kh14 => ?_;refine WL.call hasF217 rfl rfl (r13no_spec (30) _) fun v w3 h' => ?_;obtain ⟨rfl, rfl⟩ := h';refine zx rfl rfl (zx rfl rfl (za rfl (za rfl (zz (kh14 ?_)))));refine zr (zr2 rfl rfl rfl ?_);exact ⟨⟨0, 30, rfl, .inr ⟨hmd, .inl ⟨fun q => hnf (hfm.2 q), rfl, rfl⟩⟩⟩, hch⟩
   ·have hf : finL [x, y] := by simpa using hc3
    refine zkk ?_;refine kh11 (Sr fun _ kh16 => zm rfl ?_);refine WL.call hasF219 rfl rfl (r7Whole_spec _ [x, y] _ hv (by simp)) fun v w4 h' => ?_;obtain ⟨⟨r, rfl, hNr⟩, hC⟩ := h';unfold accL;have hor := hNr.one;have hch := hch.ta hC;refine WL.allocB (l := [.bool false, .slice none 0 0, .int .i64 0, .int .i64 0, .int .i64 0, .int .i64 0, .int .i64 0, .int .i64 0, .int .i64 0]) rfl rfl fun b10 wm10 hb10 hcm10 hge10 => ?_;have hgehch10 := Nat.le_trans hch.size hge10;have hch := hch.ta hcm10;have hNr := hNr.keep0 hcm10;refine zss rfl rfl ao hb10 rfl fun ws17 hb10_ hcs17 => ?_;(try simp only [Sx.splice, qt] at hb10_);have hch := hch.s1 hcs17;have hNr := hNr.keepBK hb10 hcs17 an;have hb10 := hb10_;refine zz (kh16 (Sr fun _ kh18 => zf rfl ?_));refine WL.ev (Ev.loadB rfl rfl hb10 rfl rfl) rfl ?_
    try simp only [List.drop_succ_cons, List.drop_zero, List.take_succ_cons, List.take_zero]
    refine zf rfl ?_;refine WL.ev (Ev.loadB rfl rfl hb10 rfl rfl) rfl ?_
    try simp only [List.drop_succ_cons, List.drop_zero, List.take_succ_cons, List.take_zero]
    refine zm rfl ?_;refine WL.call hasF220 rfl rfl (r13Told_spec (sumD (sumI [x, y])) r 2 (cntP [x, y]) mode _ hNr (rsumD_ok hin) (by omega) (hcl.mono (by simp))) fun v w5 h' => ?_;obtain ⟨⟨bits, e, rfl, hT⟩, hC⟩ := h';have hch := hch.ta hC;refine zx rfl rfl (zx rfl rfl (za rfl (za rfl (zz (kh18 ?_)))));refine zr (zr2 rfl rfl rfl ?_);exact ⟨⟨bits, e, rfl, .inr ⟨hmd, .inr ⟨hfm.1 hf, mean_plain hmd hf (by simp) (by simp) hT⟩⟩⟩, hch⟩

end

/- What the laws compare is determined: each answer is the only one. No condition. -/
section
open Go Sx Wd

theorem quot_unique {nn nd : Bool} {ln ld : Nat} {en ed mode : Int} {b b' : Nat} {e e' : Int} (h : QuotP nn nd ln ld en ed mode b e) (h' : QuotP nn nd ln ld en ed mode b' e') : b = b' ∧ e = e' := by
  rcases h with ⟨a, b1, e1⟩ | ⟨a, h⟩ <;> rcases h' with ⟨a', b2, e2⟩ | ⟨a', h'⟩
  · exact ⟨b1.trans b2.symm, e1.trans e2.symm⟩
  · exact absurd a' a
  · exact absurd a a'
  · rcases h with ⟨s, b1, e1⟩ | ⟨s, n, b1, e1⟩ | ⟨s, x, y, hx, hy, h⟩ <;> rcases h' with ⟨s', b2, e2⟩ | ⟨s', n', b2, e2⟩ | ⟨s', x', y', hx', hy', h'⟩
    · exact ⟨b1.trans b2.symm, e1.trans e2.symm⟩
    · omega
    · omega
    · omega
    · exact ⟨b1.trans b2.symm, e1.trans e2.symm⟩
    · rcases n with n | n
      · rw [hx'] at n; cases n
      · rw [hy'] at n; cases n
    · omega
    · rcases n' with n | n
      · rw [hx] at n; cases n
      · rw [hy] at n; cases n
    · rw [hx] at hx'; cases hx'
      rw [hy] at hy'; cases hy'
      rcases h with ⟨z, b1, e1⟩ | ⟨z, r, N, _, b1, e1⟩ <;> rcases h' with ⟨z', b2, e2⟩ | ⟨z', r', N', _, b2, e2⟩
      · exact ⟨b1.trans b2.symm, e1.trans e2.symm⟩
      · exact absurd z z'
      · exact absurd z' z
      · have := N.unique (Nat.mul_pos (by omega) (dyB_pos _)) N'
        subst this
        exact ⟨b1.trans b2.symm, e1.trans e2.symm⟩
theorem told_unique {d : Dy} {n : Nat} {s : SP} {mode : Int} {b b' : Nat} {e e' : Int} (h : toldR d n s mode b e) (h' : toldR d n s mode b' e') : b = b' ∧ e = e' := by
  rcases h with ⟨a, b1, e1⟩ | ⟨a, h⟩ <;> rcases h' with ⟨a', b2, e2⟩ | ⟨a', h'⟩
  · exact ⟨b1.trans b2.symm, e1.trans e2.symm⟩
  · exact absurd a a'
  · exact absurd a' a
  · exact quot_unique h h'
theorem mean_unique {l : List Nat} {mode pn pi : Int} {b b' : Nat} {e e' : Int} (h : meanR l mode pn pi b e) (h' : meanR l mode pn pi b' e') : b = b' ∧ e = e' := by
  rcases h with ⟨a, b1, e1⟩ | ⟨a, h⟩ <;> rcases h' with ⟨a', b2, e2⟩ | ⟨a', h'⟩
  · exact ⟨b1.trans b2.symm, e1.trans e2.symm⟩
  · exact absurd a' a
  · exact absurd a a'
  · rcases h with ⟨s, b1, e1⟩ | ⟨s, h⟩ <;> rcases h' with ⟨s', b2, e2⟩ | ⟨s', h'⟩
    · exact ⟨b1.trans b2.symm, e1.trans e2.symm⟩
    · exact absurd s' s
    · exact absurd s s'
    · rcases h with ⟨v, e1⟩ | ⟨v, h⟩ <;> rcases h' with ⟨v', e2⟩ | ⟨v', h'⟩
      · rw [v] at v'; cases v'; exact ⟨rfl, e1.trans e2.symm⟩
      · rw [v] at v'; cases v'
      · rw [v] at v'; cases v'
      · rcases h with ⟨f, b1, e1⟩ | ⟨f, h⟩ <;> rcases h' with ⟨f', b2, e2⟩ | ⟨f', h'⟩
        · exact ⟨b1.trans b2.symm, e1.trans e2.symm⟩
        · exact absurd f f'
        · exact absurd f' f
        · exact told_unique h h'
theorem mid_unique {x y : Nat} {mode : Int} {b b' : Nat} {e e' : Int} (h : midR x y mode b e) (h' : midR x y mode b' e') : b = b' ∧ e = e' := by
  rcases h with ⟨a, b1, e1⟩ | ⟨a, h⟩ <;> rcases h' with ⟨a', b2, e2⟩ | ⟨a', h'⟩
  · exact ⟨b1.trans b2.symm, e1.trans e2.symm⟩
  · exact absurd a' a
  · exact absurd a a'
  · rcases h with ⟨s, b1, e1⟩ | ⟨s, h⟩ <;> rcases h' with ⟨s', b2, e2⟩ | ⟨s', h'⟩
    · exact ⟨b1.trans b2.symm, e1.trans e2.symm⟩
    · exact absurd s' s
    · exact absurd s s'
    · exact mean_unique h h'
end

/- Numbers in order: the sorted list of a list's numbers is the only one. No condition. -/
section
open Go Fl

theorem key_inj {a b : Nat} (ha : a < 18446744073709551616) (hb : b < 18446744073709551616) (na : isNaN a = false) (nb : isNaN b = false) (h : key a = key b) : a = b := by
  unfold key at h
  rw [na, nb] at h
  simp only [Bool.false_eq_true, if_false] at h
  split at h <;> split at h <;> omega
/-- In order. -/
def Srt (l : List Nat) : Prop := l.Pairwise fun a b => key a ≤ key b
/-- Numbers that are no NaN. -/
def Nums (l : List Nat) : Prop := ∀ x ∈ l, x < 18446744073709551616 ∧ isNaN x = false
theorem Nums.tail {x : Nat} {l : List Nat} (h : Nums (x :: l)) : Nums l := fun y hy => h y (List.mem_cons_of_mem _ hy)
theorem Nums.perm {a b : List Nat} (h : Nums a) (p : a.Perm b) : Nums b := fun y hy => h y (p.mem_iff.2 hy)
theorem sorted_unique : ∀ {a b : List Nat}, a.Perm b → Srt a → Srt b → Nums a → a = b
  | [], b, h, _, _, _ => (List.Perm.nil_eq h)
  | x :: a, [], h, _, _, _ => by have := h.length_eq; simp at this
  | x :: a, y :: b, h, ha, hb, hw => by
    have hx : x ∈ y :: b := h.mem_iff.1 (List.mem_cons_self ..)
    have hy : y ∈ x :: a := h.mem_iff.2 (List.mem_cons_self ..)
    have h1 : key y ≤ key x := by
      rcases List.mem_cons.1 hx with e | e
      · rw [e]; exact Int.le_refl _
      · exact (List.pairwise_cons.1 hb).1 x e
    have h2 : key x ≤ key y := by
      rcases List.mem_cons.1 hy with e | e
      · rw [e]; exact Int.le_refl _
      · exact (List.pairwise_cons.1 ha).1 y e
    have hx2 := hw x (List.mem_cons_self ..)
    have hy2 := hw y hy
    have e : x = y := key_inj hx2.1 hy2.1 hx2.2 hy2.2 (by omega)
    subst e
    rw [sorted_unique ((List.perm_cons x).1 h) (List.pairwise_cons.1 ha).2 (List.pairwise_cons.1 hb).2 hw.tail]
/-- A list in order. -/
def sortP (l : List Nat) : List Nat := l.mergeSort fun a b => decide (key a ≤ key b)
theorem sortP_perm (l : List Nat) : (sortP l).Perm l := List.mergeSort_perm ..
theorem sortP_srt (l : List Nat) : Srt (sortP l) := by
  have h := List.pairwise_mergeSort (le := fun a b => decide (key a ≤ key b)) (fun a b c h1 h2 => by simp at *; omega) (fun a b => by simp; omega) l
  exact h.imp (fun h => by simpa using h)
theorem sortP_length (l : List Nat) : (sortP l).length = l.length := (sortP_perm l).length_eq
theorem sortP_eq {a l : List Nat} (p : a.Perm l) (s : Srt a) (h : Nums l) : a = sortP l :=
  sorted_unique (p.trans (sortP_perm l).symm) s (sortP_srt l) (h.perm p.symm)
end

/- Means of a list's numbers: put in another order, weighed alike, trimmed. No condition. -/
section
open Go Sx Wd Fl
set_option exponentiation.threshold 9000

theorem perm_finL {a b : List Nat} (h : a.Perm b) : finL a ↔ finL b := ⟨fun q x hx => q x (h.mem_iff.2 hx), fun q x hx => q x (h.mem_iff.1 hx)⟩
theorem fin_num {x : Nat} (h : (splitP x).cls ≤ 2) : isNaN x = false := by
  have := fin_mod h
  unfold isNaN
  exact decide_eq_false (by omega)
theorem finL_nums {l : List Nat} (h : finL l) (hw : ∀ x ∈ l, x < 18446744073709551616) : Nums l := fun x hx => ⟨hw x hx, fin_num (h x hx)⟩
end

/- What the long lists' means and the ways to a mean come to. No condition. -/
section
open Go Sx Wd Fl
set_option exponentiation.threshold 9000

theorem fvI_nought {w : Nat} (hw : (splitP w).cls ≤ 2) (h64 : w < 18446744073709551616) : fvI w = 0 ↔ w % 9223372036854775808 = 0 := by
  have hp : (0 : Nat) < 2 ^ 1074 := Nat.two_pow_pos _
  have e := fvI_nz hw h64
  have h1 : nz (w % 9223372036854775808) * 2 ^ 1074 = 0 ↔ w % 9223372036854775808 = 0 := by
    rw [← nz_zero (k := w % 9223372036854775808)]
    constructor
    · intro q
      rcases Nat.mul_eq_zero.1 q with q | q
      · exact q
      · omega
    · intro q; rw [q, Nat.zero_mul]
  rw [← h1, e]
  split <;> omega
theorem mid_mean {x y : Nat} {mode : Int} {b : Nat} {e : Int} (h : midR x y mode b e) (hm : 0 ≤ mode ∧ mode ≤ 4) (hx : (splitP x).cls ≤ 2) (hy : (splitP y).cls ≤ 2) : meanR [x, y] mode 0 0 b e := by
  rcases h with ⟨q, _⟩ | ⟨_, ⟨q, _⟩ | ⟨_, h⟩⟩
  · exact absurd hm q
  · exact absurd ⟨hx, hy⟩ q
  · exact h
theorem three : (splitP 4613937818241073152).cls ≤ 2 ∧ fvI 4613937818241073152 ≠ 0 := by
  have h1 : (splitP 4613937818241073152).cls ≤ 2 := by decide +kernel
  refine ⟨h1, fun q => ?_⟩
  rw [fvI_nought h1 (by decide)] at q
  exact absurd q (by decide)
end

/- Products and signs of forms, as whole numbers of the lowest unit. No condition. -/
section
open Go Sx Wd
set_option exponentiation.threshold 5000

theorem InB.neg {S : Int} (h : InB S) : InB (-S) := by
  obtain ⟨h1, h2⟩ := h
  exact ⟨by omega, by omega⟩
theorem sumD_up {S : Int} (h : InB S) (h0 : S ≠ 0) : ∃ a : Nat, S.natAbs = (sumD S).m * 2 ^ a ∧ (sumD S).e = -2148 + (a : Int) ∧ (sumD S).neg = decide (S < 0) := by
  obtain ⟨-, ha⟩ := tz_spec (n := S.natAbs) (by omega)
  have hx := sumD_val h h0
  exact ⟨tz S.natAbs, by rw [hx]; exact ha, by rw [hx], by rw [hx]⟩
end

end Go.Proofs.YtknahdghcfdmgaaGreatDoor