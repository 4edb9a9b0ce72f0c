/- Part 2 of what the proof rests on. No condition. -/
import Derived.Test.YtbplehaogncjoaaGreatDoorCz1
import GoSem.Core.Float
import Derived.Defers
set_option linter.unusedVariables false
set_option linter.unusedSimpArgs false
set_option maxRecDepth 100000
set_option maxHeartbeats 4000000
namespace Go.Proofs.YtbplehaogncjoaaGreatDoor
/- Package wide: numbers of many words. No condition. -/
section
open Go Sx Wd

structure K0 (l : List Nat) (w : World) (k : Nat) (wr : World) : Prop where
  le : k ≤ l.length
  vl : val (l.take k) = val l
  eq : w = wr

theorem cut_spec (v : Value) (l : List Nat) (w : World) (h : NU w v l) : Ret Tryz.prog 113 [v] w fun u w' => NU w u (wd (val l)) ∧ w = w' := by
 obtain ⟨⟨al, cl, rfl, hcapl, hrl⟩, hWl, hll⟩ := h;have hch : Chg [] w w := Chg.refl _ _;refine zE1 Tryz.func113 rfl ?_;refine Sr fun _ kh1 => za rfl (zz (kh1 (zc fun _ kh3 => ?_)));refine CW.block ?_;refine CW.loop (S := fun k : Nat => [(0, .slice al k cl)]) (Inv := K0 l w) (mu := fun k => k) (l.length) ?_ ?_ ?_
 ·exact ⟨Nat.le_refl _, by rw [List.take_length], rfl⟩
 ·exact SLp
 ·rintro k _ ⟨hkl, hvl, rfl⟩;refine zc fun _ kh4 => ?_;refine CW.seqM 14 (decide (0 < k ∧ l.getD (k - 1) 0 = 0)) ?_ ?_
  ·refine zR fun _ kr5 => ?_;refine zm rfl (zn rfl ?_);refine WL.ev (Ev.gtr rfl rfl) rfl ?_;refine zm rfl ?_;refine zb ?_ ?_<;>intro hg1<;>try simp only [qs] at hg1
   ·refine zw rfl (zm rfl (zw rfl (zm rfl (zw rfl (zn rfl (zw rfl ?_))))))
    first | refine WL.ev (Ev.subIn rfl rfl (by omega)) rfl ?_ | refine WL.ev (Ev.sub rfl rfl) rfl ?_
    refine zw rfl ?_;refine WL.ev (Ev.ixR ((k - 1)) rfl rfl (hrl.keep0 hch) (by omega) (by omega) (by simp; omega)) rfl ?_;refine zw rfl ?_;refine WL.ev (Ev.load rfl rfl ((hrl.keep0 hch).u32 (by first | omega | (simp; omega)))) rfl ?_;have hw12 := hWl.getD ((k - 1));refine zw rfl (zq rfl rfl (zt rfl rfl ?_));refine WL.nil (kr5 _ _ _ ?_);refine ⟨rfl, rfl, Subs.consB rfl ?_ ?_⟩
    ·first | (simp; omega) | (refine decide_eq_decide.2 ?_; omega)
    ·exact SMg
   ·refine zv rfl (zv rfl (zv rfl (zv rfl (zv rfl (zv rfl (zv rfl (ze rfl rfl ?_)))))));refine WL.nil (kr5 _ _ _ ?_);refine ⟨rfl, rfl, Subs.consB rfl ?_ ?_⟩
    ·first | (simp; omega) | (refine decide_eq_decide.2 ?_; omega)
    ·exact SMg
  ·refine zy rfl ?_ ?_<;>intro hc2<;>try simp only [qs] at hc2
   ·refine zkk ?_
    refine kh4 ?_;refine CW.block ?_;refine zR fun _ kr6 => ?_;refine zm rfl (zm rfl (zn rfl ?_))
    first | refine WL.ev (Ev.subIn rfl rfl (by omega)) rfl ?_ | refine WL.ev (Ev.sub rfl rfl) rfl ?_
    refine WL.ev (Ev.sliceHn ((k - 1)) rfl rfl (by omega) (by omega)) rfl ?_;refine za rfl ?_;refine WL.nil (kr6 _ _ _ ?_);refine ⟨rfl, k - 1, ?_, ?_, ?_⟩
    ·exact SLp
    ·exact ⟨by omega, by rw [take_pred hkl (by omega) (by omega)]; exact hvl, rfl⟩
    ·omega
   ·refine CW.exit ?_
    refine kh3 (Sr fun _ kh7 => zm rfl (za rfl (zz (kh7 ?_))));refine zr (zr1 rfl rfl ?_);rw [cut_wd hWl hkl hvl (by omega)];exact ⟨NU.part hrl hWl hll hkl (by omega), rfl⟩

theorem Norm_spec (v : Value) (l : List Nat) (w : World) (h : NU w v l) : Ret Tryz.prog 103 [v] w fun u w' => NU w' u (wd (val l)) ∧ Chg [] w w' := by
 obtain ⟨⟨al, cl, rfl, hcapl, hrl⟩, hWl, hll⟩ := h;have hch : Chg [] w w := Chg.refl _ _;refine zE1 Tryz.func103 rfl ?_;refine Sr fun _ kh1 => za rfl (zz (kh1 (Sr fun _ kh3 => zm rfl (zn rfl (za rfl (zz (kh3 (zc fun _ kh5 => ?_))))))));refine CW.block ?_;refine CW.loop (S := fun k : Nat => [(0, .slice al l.length cl), (3, .int .i64 (k : Int))]) (Inv := K0 l w) (mu := fun k => k) (l.length) ?_ ?_ ?_
 ·exact ⟨Nat.le_refl _, by rw [List.take_length], rfl⟩
 ·exact SLp
 ·rintro k _ ⟨hkl, hvl, rfl⟩;refine zc fun _ kh6 => ?_;refine CW.seqM 16 (decide (0 < k ∧ l.getD (k - 1) 0 = 0)) ?_ ?_
  ·refine zR fun _ kr7 => ?_;refine zm rfl ?_;refine WL.ev (Ev.gtr rfl rfl) rfl ?_;refine zm rfl ?_;refine zb ?_ ?_<;>intro hg1<;>try simp only [qs] at hg1
   ·refine zw rfl (zm rfl (zw rfl (zm rfl (zw rfl ?_))))
    first | refine WL.ev (Ev.subIn rfl rfl (by omega)) rfl ?_ | refine WL.ev (Ev.sub rfl rfl) rfl ?_
    refine zw rfl ?_;refine WL.ev (Ev.ixR ((k - 1)) rfl rfl (hrl.keep0 hch) (by omega) (by omega) (by simp; omega)) rfl ?_;refine zw rfl ?_;refine WL.ev (Ev.load rfl rfl ((hrl.keep0 hch).u32 (by first | omega | (simp; omega)))) rfl ?_;have hw14 := hWl.getD ((k - 1));refine zw rfl (zq rfl rfl (zt rfl rfl ?_));refine WL.nil (kr7 _ _ _ ?_);refine ⟨rfl, rfl, Subs.consB rfl ?_ ?_⟩
    ·first | (simp; omega) | (refine decide_eq_decide.2 ?_; omega)
    ·exact SMg
   ·refine zv rfl (zv rfl (zv rfl (zv rfl (zv rfl (zv rfl (ze rfl rfl ?_))))));refine WL.nil (kr7 _ _ _ ?_);refine ⟨rfl, rfl, Subs.consB rfl ?_ ?_⟩
    ·first | (simp; omega) | (refine decide_eq_decide.2 ?_; omega)
    ·exact SMg
  ·refine zy rfl ?_ ?_<;>intro hc2<;>try simp only [qs] at hc2
   ·refine zkk ?_
    refine kh6 ?_;refine CW.block ?_;refine zR fun _ kr8 => ?_;refine zm rfl ?_
    first | refine WL.ev (Ev.subIn rfl rfl (by omega)) rfl ?_ | refine WL.ev (Ev.sub rfl rfl) rfl ?_
    refine za rfl ?_;refine WL.nil (kr8 _ _ _ ?_);refine ⟨rfl, k - 1, ?_, ?_, ?_⟩
    ·exact SLp
    ·exact ⟨by omega, by rw [take_pred hkl (by omega) (by omega)]; exact hvl, rfl⟩
    ·omega
   ·refine CW.exit ?_
    refine kh5 (Sr fun _ kh9 => zm rfl ?_);refine WL.makeU (k) (k) rfl rfl (by omega) (by omega) (by omega) (by omega) (by omega) rfl fun b20 wm20 hb20 hcm20 hge20 => ?_;have hgehch20 := Nat.le_trans hch.size hge20;have hch := hch.ta hcm20;refine za rfl (zz (kh9 (Sr fun _ kh11 => zm rfl (zm rfl ?_))));refine WL.copyU rfl rfl hb20 (hrl.keep0 hch) (by simp; try omega) (by simp; try omega) rfl fun ws1 hb20_ hcs1 => ?_;have hch := hch.s1 hcs1;have hb20 := hb20_;rw [show ((l).take (min ((l).length) (k)) ++ (List.replicate (k) 0).drop (min ((l).length) (k))) = l.take k from by rw [show min l.length k = k by omega, List.drop_eq_nil_of_le (by simp), List.append_nil]] at hb20;refine zz (kh11 (Sr fun _ kh13 => zm rfl (za rfl (zz (kh13 ?_)))));refine zr (zr1 rfl rfl ?_);rw [cut_wd hWl hkl hvl (by omega)];exact ⟨NU.of_block hb20 (hWl.take k) (by simp; omega) (by simp; omega) (Nat.le_refl _), hch⟩

theorem Of_spec (n : Nat) (w : World) (hn : n < 18446744073709551616) : Ret Tryz.prog 69 [.int .u64 (n : Int)] w fun u w' => NU w' u (wd n) ∧ Chg [] w w' := by
 refine zE1 Tryz.func69 rfl ?_;refine Sr fun _ kh1 => za rfl (zz (kh1 (Sr fun _ kh3 => zm rfl ?_)));refine WL.ev (Ev.conv32 rfl rfl) rfl ?_;refine zm rfl ?_;refine WL.ev (Ev.shrU (b := 32) rfl rfl (by simp only [IntKind.bits]; omega)) rfl ?_;refine WL.ev (Ev.conv32 rfl rfl) rfl ?_;refine WL.buildSlice (cs := [.int .u32 ((n % 4294967296 : Nat) : Int), .int .u32 ((n / 2 ^ 32 % 4294967296 : Nat) : Int)]) (by decide) (by decide) rfl (by kernel_rfl) rfl fun b8 w8 n8 => ?_;have hN8 : NU w8 (.slice (some ⟨b8, 0, none⟩) 2 2) [n % 4294967296, n / 2 ^ 32 % 4294967296] := NU.of_block (E := 100) n8.at_ (W_cons.2 ⟨by omega, W_cons.2 ⟨by omega, W_nil⟩⟩) (by simp) rfl (by omega);have hv8 : val [n % 4294967296, n / 2 ^ 32 % 4294967296] = n := by simp only [val]; omega
 refine WL.call hasF103 rfl rfl (Norm_spec _ _ _ hN8) fun v w1 h' => ?_;obtain ⟨hN, hC⟩ := h';rw [hv8] at hN;refine za rfl (zz (kh3 ?_));refine zr (zr1 rfl rfl ?_);exact ⟨hN, n8.chg.trans hC⟩

theorem Len_spec (v : Value) (l : List Nat) (w : World) (h : NU w v l) : Ret Tryz.prog 109 [v] w fun u w' => u = .int .i64 (bl (val l) : Int) ∧ w = w' := by
 have hvw := val_wd (val l);obtain ⟨L, hL⟩ : ∃ L, L = wd (val l) := ⟨_, rfl⟩;rw [← hL] at hvw;refine zE1 Tryz.func109 rfl ?_;refine Sr fun _ kh1 => za rfl (zz (kh1 (zc fun _ kh3 => Sr fun _ kh4 => zm rfl ?_)));refine WL.call hasF113 rfl rfl (cut_spec _ _ _ h) fun v w1 h' => ?_;obtain ⟨hN, rfl⟩ := h';rw [← hL] at hN;obtain ⟨⟨a1, c1, rfl, hcap1, hr1⟩, hW1, hl1⟩ := hN;refine za rfl (zz (kh4 (Sr fun _ kh6 => zm rfl (zn rfl (zq rfl rfl (zz (kh6 ?_)))))));refine zy rfl ?_ ?_<;>intro hc1<;>try simp only [qs] at hc1
 ·refine Sr fun _ kh8 => za rfl (zz (kh8 ?_));refine zr (zr1 rfl rfl ?_);have hv0 : L = [] := List.length_eq_zero_iff.1 (by omega);rw [← hvw, hv0];exact ⟨rfl, rfl⟩
 ·have hlast : L.getD (L.length - 1) 0 ≠ 0 := by rw [hL]; exact wd_last fun e => by rw [e, wd_zero] at hL; rw [hL] at hc1; exact hc1 rfl
  have hbl := bl_val hW1 (fun e => by rw [e] at hc1; exact hc1 rfl) hlast;rw [hvw] at hbl;have hb32 := bl_le.2 (show L.getD (L.length - 1) 0 < 2 ^ 32 from hW1.getD _);refine zkk ?_;refine kh3 (Sr fun _ kh10 => zm rfl (zn rfl ?_))
  first | refine WL.ev (Ev.subIn rfl rfl (by omega)) rfl ?_ | refine WL.ev (Ev.sub rfl rfl) rfl ?_
  refine WL.ev (Ev.mulIn rfl rfl (by omega)) rfl ?_;refine zm rfl (zm rfl (zn rfl ?_))
  first | refine WL.ev (Ev.subIn rfl rfl (by omega)) rfl ?_ | refine WL.ev (Ev.sub rfl rfl) rfl ?_
  refine WL.ev (Ev.ixR (((L).length - 1)) rfl rfl hr1 (by omega) (by omega) (by simp; omega)) rfl ?_;refine WL.ev (Ev.load rfl rfl (hr1.u32 (by first | omega | (simp; omega)))) rfl ?_;have hw17 := hW1.getD (((L).length - 1));refine WL.call hasF98 rfl rfl (Len32_spec _ _ (hW1.getD _)) fun v w2 h' => ?_;obtain ⟨rfl, rfl⟩ := h';(first | refine zi rfl rfl ?_ | refine zo rfl rfl ?_);refine za rfl (zz (kh10 ?_));refine zr (zr1 rfl rfl ?_);refine ⟨?_, rfl⟩;rw [hbl]; first | rfl | (congr 1; omega)

structure KL (l : List Nat) (w : World) (i : Nat) (wr : World) : Prop where
  le : i ≤ l.length
  z : val (l.take i) = 0
  eq : w = wr

theorem Low_spec (v : Value) (l : List Nat) (w : World) (h : NU w v l) (hg : GW w) : Ret Tryz.prog 104 [v] w fun u w' => u = .int .i64 (tz (val l) : Int) ∧ w = w' := by
 obtain ⟨⟨al, cl, rfl, hcapl, hrl⟩, hWl, hll⟩ := h;have hch : Chg [] w w := Chg.refl _ _;refine zE1 Tryz.func104 rfl ?_;refine Sr fun _ kh1 => za rfl (zz (kh1 (zc fun _ kh3 => Sr fun _ kh4 => zm rfl (zn rfl (zm rfl (zz (kh4 ?_)))))));refine CW.block ?_;refine CW.loop (S := fun i : Nat => [(5, .slice al l.length cl), (6, .int .i64 (l.length : Int)), (7, .int .i64 (i : Int))]) (Inv := KL l w) (mu := fun i => l.length - i) (0) ?_ ?_ ?_
 ·exact ⟨Nat.zero_le _, rfl, rfl⟩
 ·exact SLp
 ·rintro i _ ⟨hil, hz, rfl⟩;refine Sr fun _ kh6 => ?_;refine WL.ev (Ev.lss rfl rfl) rfl ?_;refine zz (kh6 (zc fun _ kh8 => ?_));refine zy rfl ?_ ?_<;>intro hc1<;>try simp only [qs] at hc1
  ·refine zkk ?_
   refine kh8 (zc fun _ kh9 => ?_);refine CW.block ?_;refine Sr fun _ kh10 => zm rfl ?_;refine WL.ev (Ev.ixR (i) rfl rfl (hrl.keep0 hch) (by omega) (by omega) (by simp; omega)) rfl ?_;refine WL.ev (Ev.load rfl rfl ((hrl.keep0 hch).u32 (by first | omega | (simp; omega)))) rfl ?_;have hw11 := hWl.getD (i);refine za rfl (za rfl (zz (kh10 (Sr fun _ kh12 => zm rfl ?_))));refine WL.ev (Ev.neq rfl rfl) rfl ?_;refine zz (kh12 ?_);refine zy rfl ?_ ?_<;>intro hc2<;>try simp only [qs] at hc2
   ·have htz := tz_words hWl (by omega) hz (by omega);have htl := tz_lt_bl (n := l.getD i 0) (by omega);have hb32 := bl_le.2 (show l.getD i 0 < 2 ^ 32 from hWl.getD _);refine Sr fun _ kh14 => zm rfl ?_
    refine WL.ev (Ev.mulIn rfl rfl (by omega)) rfl ?_;refine zm rfl ?_;refine WL.call hasF124 rfl rfl (TrailingZeros32_spec _ _ hg (by omega) (hWl.getD _)) fun v w1 h' => ?_;obtain ⟨rfl, rfl⟩ := h';(first | refine zi rfl rfl ?_ | refine zo rfl rfl ?_);refine za rfl (zz (kh14 ?_));refine zr (zr1 rfl rfl ?_);refine ⟨?_, rfl⟩;rw [htz]; first | rfl | (congr 1; omega)
   ·refine zkk ?_
    refine kh9 ?_;refine zR fun _ kr16 => ?_;(first | refine zi rfl rfl ?_ | refine zo rfl rfl ?_);refine zm rfl ?_;refine WL.nil (kr16 _ _ _ ?_);refine ⟨rfl, i + 1, ?_, ?_, ?_⟩
    ·exact SLp
    ·exact ⟨by omega, by rw [val_take_succ' l i, hz, (by omega : l.getD i 0 = 0)]; simp, rfl⟩
    ·show l.length - (i + 1) < l.length - i; omega
  ·refine CW.exit ?_
   refine kh3 (Sr fun _ kh17 => za rfl (zz (kh17 ?_)));refine zr (zr1 rfl rfl ?_);have e : i = l.length := by omega
   subst e;rw [List.take_length] at hz;rw [hz, tz_zero];exact ⟨rfl, rfl⟩

end

/- Package wide: sums, differences, products, moves. No condition. -/
section
open Go Sx Wd

theorem both_spec (va vb : Value) (la lb : List Nat) (w : World) (ha : NU w va la) (hb : NU w vb lb) : Ret Tryz.prog 106 [va, vb] w fun u w' => ((((wd (val la)).length ≤ 8192 ∧ (wd (val lb)).length ≤ 8192) ∧ ∃ x y, u = .tuple [x, y, .int .i64 0].toArray ∧ NU w x (wd (val la)) ∧ NU w y (wd (val lb))) ∨ (¬ ((wd (val la)).length ≤ 8192 ∧ (wd (val lb)).length ≤ 8192) ∧ u = .tuple [.slice none 0 0, .slice none 0 0, .int .i64 2].toArray)) ∧ w = w' := by
 obtain ⟨A, hA⟩ : ∃ A, A = wd (val la) := ⟨_, rfl⟩;have hvA : val A = val la := by rw [hA]; exact val_wd _
 obtain ⟨B, hB⟩ : ∃ B, B = wd (val lb) := ⟨_, rfl⟩;have hvB : val B = val lb := by rw [hB]; exact val_wd _
 have hch : Chg [] w w := Chg.refl _ _;refine zE2 Tryz.func106 rfl ?_;refine Sr fun _ kh1 => za rfl (za rfl (za rfl (zz (kh1 (Sr fun _ kh3 => zm rfl ?_)))));refine WL.call hasF113 rfl rfl (cut_spec _ _ _ ha) fun v w1 h' => ?_;obtain ⟨hN1, rfl⟩ := h';rw [← hA] at hN1;obtain ⟨⟨a1, c1, rfl, hcap1, hr1⟩, hW1, hl1⟩ := hN1;refine zm rfl ?_;refine WL.call hasF113 rfl rfl (cut_spec _ _ _ hb) fun v w2 h' => ?_;obtain ⟨hN2, rfl⟩ := h';rw [← hB] at hN2;obtain ⟨⟨a2, c2, rfl, hcap2, hr2⟩, hW2, hl2⟩ := hN2;refine za rfl (za rfl (zz (kh3 (zc fun _ kh5 => Sr fun _ kh6 => zm rfl (zn rfl (zm rfl (zn rfl ?_)))))));refine WL.ev (Ev.maxI rfl rfl) rfl ?_;refine WL.ev (Ev.gtr rfl rfl) rfl ?_;refine zz (kh6 ?_);refine zy rfl ?_ ?_<;>intro hc1<;>try simp only [qs] at hc1
 ·refine Sr fun _ kh8 => za rfl (za rfl (za rfl (zz (kh8 ?_))));refine zr ?_
  refine bodyA.ret3 rfl rfl rfl rfl ?_;rw [← hA, ← hB];exact ⟨.inr ⟨by omega, rfl⟩, rfl⟩
 ·refine zkk ?_
  refine kh5 (Sr fun _ kh10 => zm rfl (zm rfl (za rfl (za rfl (za rfl (zz (kh10 ?_)))))));refine zr ?_;refine bodyA.ret3 rfl rfl rfl rfl ?_;rw [← hA, ← hB];exact ⟨.inl ⟨by omega, _, _, rfl, NU.of_row hr1 hW1 hl1 rfl hcap1, NU.of_row hr2 hW2 hl2 rfl hcap2⟩, rfl⟩

theorem fits_spec (v : Value) (l : List Nat) (w : World) (h : NU w v l) : Ret Tryz.prog 107 [v] w fun u w' => (((wd (val l)).length ≤ 8192 ∧ ∃ r, u = .tuple [r, .int .i64 0].toArray ∧ NU w r (wd (val l))) ∨ (8192 < (wd (val l)).length ∧ u = .tuple [.slice none 0 0, .int .i64 2].toArray)) ∧ w = w' := by
 obtain ⟨A, hA⟩ : ∃ A, A = wd (val l) := ⟨_, rfl⟩;have hvA : val A = val l := by rw [hA]; exact val_wd _
 have hch : Chg [] w w := Chg.refl _ _;refine zE1 Tryz.func107 rfl ?_;refine Sr fun _ kh1 => za rfl (za rfl (zz (kh1 (zc fun _ kh3 => Sr fun _ kh4 => zm rfl ?_))));refine WL.call hasF113 rfl rfl (cut_spec _ _ _ h) fun v w1 h' => ?_;obtain ⟨hN1, rfl⟩ := h';rw [← hA] at hN1;obtain ⟨⟨a1, c1, rfl, hcap1, hr1⟩, hW1, hl1⟩ := hN1;refine za rfl (zz (kh4 (Sr fun _ kh6 => zm rfl (zn rfl ?_))));refine WL.ev (Ev.gtr rfl rfl) rfl ?_;refine zz (kh6 ?_);refine zy rfl ?_ ?_<;>intro hc1<;>try simp only [qs] at hc1
 ·refine Sr fun _ kh8 => za rfl (za rfl (zz (kh8 ?_)));refine zr (zr2 rfl rfl rfl ?_);rw [← hA];exact ⟨.inr ⟨by omega, rfl⟩, rfl⟩
 ·refine zkk ?_
  refine kh3 (Sr fun _ kh10 => zm rfl (zm rfl (zn rfl (zm rfl (zn rfl ?_)))));refine WL.ev (Ev.slice3n ((A).length) ((A).length) rfl rfl rfl (by omega) (by omega) (by omega) (by omega)) rfl ?_;refine za rfl (za rfl (zz (kh10 ?_)));refine zr (zr2 rfl rfl rfl ?_);rw [← hA];exact ⟨.inl ⟨by omega, _, rfl, NU.of_row hr1 hW1 hl1 rfl (Nat.le_refl _)⟩, rfl⟩

end

/- Package wide: less, Sub, Cmp. No condition. -/
section
open Go Sx Wd

structure KS (X Y : List Nat) (w : World) (b : Nat) (g : Nat × List Nat × Nat) (wr : World) : Prop where
  a : SubI X Y g.1 g.2.1 g.2.2
  ob : OB wr b 100 g.2.1
  chg : Chg [] w wr

theorem less_spec (va vb : Value) (la lb : List Nat) (w : World) (ha : NU w va la) (hb : NU w vb lb) (hle : val lb ≤ val la) : Ret Tryz.prog 117 [va, vb] w fun u w' => ∃ L, NU w' u L ∧ val L = val la - val lb ∧ Chg [] w w' := by
 obtain ⟨⟨ala, cla, rfl, hcapla, hrla⟩, hWla, hlla⟩ := ha;obtain ⟨⟨alb, clb, rfl, hcaplb, hrlb⟩, hWlb, hllb⟩ := hb;have hch : Chg [] w w := Chg.refl _ _;refine zE2 Tryz.func117 rfl ?_;refine Sr fun _ kh1 => za rfl (zz (kh1 (Sr fun _ kh3 => zm rfl (zn rfl ?_))));refine WL.makeU ((la).length) ((la).length) rfl rfl (by omega) (by omega) (by omega) (by omega) (by omega) rfl fun b11 wm11 hb11 hcm11 hge11 => ?_;have hgehch11 := Nat.le_trans hch.size hge11;have hch := hch.ta hcm11;refine za rfl (zz (kh3 (Sr fun _ kh5 => za rfl (zz (kh5 (zc fun _ kh7 => Sr fun _ kh8 => zm rfl (zn rfl (zm rfl (zz (kh8 ?_))))))))));refine CW.block ?_;refine CW.loop (S := fun g : Nat × List Nat × Nat => [(0, .slice ala la.length cla), (1, .slice alb lb.length clb), (5, .slice (some ⟨b11, 0, none⟩) la.length la.length), (6, .int .u32 (g.2.2 : Int)), (13, .int .i64 (la.length : Int)), (14, .int .i64 (g.1 : Int))]) (Inv := KS la lb w b11) (mu := fun g => la.length - g.1) ((0, List.replicate la.length 0, 0)) ?_ ?_ ?_
 ·exact ⟨SubI.zero (by simp) (W_replicate _), hb11, hch⟩
 ·exact SLp
 ·rintro ⟨i, L, c⟩ wr ⟨hAd, hb11, hch⟩;dsimp only at hAd hb11 hch;have hiX := hAd.le;have hLl := hAd.len;have hcc := hAd.c1;refine Sr fun _ kh10 => ?_;refine WL.ev (Ev.lss rfl rfl) rfl ?_;refine zz (kh10 (zc fun _ kh12 => ?_));refine zy rfl ?_ ?_<;>intro hc1<;>try simp only [qs] at hc1
  ·refine zkk ?_
   refine kh12 (zc fun _ kh13 => ?_);refine CW.block ?_;refine Sr fun _ kh14 => zm rfl (za rfl (zz (kh14 (Sr fun _ kh16 => za rfl (zz (kh16 (zc fun _ kh18 => Sr fun _ kh19 => zm rfl (zm rfl (zn rfl ?_)))))))));refine WL.ev (Ev.lss rfl rfl) rfl ?_;refine zz (kh19 ?_);refine zy rfl ?_ ?_<;>intro hc2<;>try simp only [qs] at hc2
   ·refine zR fun _ kr21 => ?_
    refine zm rfl (zm rfl ?_);refine WL.ev (Ev.ixR (i) rfl rfl (hrlb.keep0 hch) (by omega) (by omega) (by simp; omega)) rfl ?_;refine WL.ev (Ev.load rfl rfl ((hrlb.keep0 hch).u32 (by first | omega | (simp; omega)))) rfl ?_;have hw24 := hWlb.getD (i);refine za rfl ?_;refine WL.nil (kr21 _ _ _ (kh18 ?_));refine zR fun _ kr22 => ?_;refine zm rfl (zm rfl (zm rfl (zm rfl ?_)));refine WL.ev (Ev.ixR (i) rfl rfl (hrla.keep0 hch) (by omega) (by omega) (by simp; omega)) rfl ?_;refine WL.ev (Ev.load rfl rfl ((hrla.keep0 hch).u32 (by first | omega | (simp; omega)))) rfl ?_;have hw31 := hWla.getD (i);refine zm rfl (zm rfl ?_);refine WL.call hasF127 rfl rfl (Sub32_spec (la.getD i 0) (lb.getD i 0) c _ (hWla.getD i) (hWlb.getD i) (by omega)) fun v w1 h' => ?_;obtain ⟨rfl, rfl⟩ := h';refine zm rfl (zx rfl rfl (zx rfl rfl ?_));refine WL.ev (Ev.ixB (i) rfl rfl (by omega) (by omega)) rfl ?_;refine WL.storeU rfl rfl hb11 (by first | omega | (simp; omega)) fun ws6 hb11_ hcs6 => ?_;have hch := hch.s1 hcs6;have hb11 := hb11_;refine za rfl ?_;refine WL.nil (kr22 _ _ _ (kh13 ?_));refine zR fun _ kr23 => ?_;(first | refine zi rfl rfl ?_ | refine zo rfl rfl ?_);refine zm rfl ?_;refine WL.nil (kr23 _ _ _ ?_);refine ⟨rfl, (i + 1, L.set i ((la.getD i 0 + 8589934592 - lb.getD i 0 - c) % 4294967296), if la.getD i 0 < lb.getD i 0 + c then 1 else 0), ?_, ?_, ?_⟩
    ·exact SLp
    ·exact ⟨hAd.step hWla hWlb (by omega), hb11, hch⟩
    ·show la.length - (i + 1) < la.length - i; omega
   ·have e0 : Value.int IntKind.u32 0 = Value.int IntKind.u32 ((lb.getD i 0 : Nat) : Int) := by rw [getD_out (by omega)]; rfl
    rw [e0];refine zkk ?_;refine kh18 ?_;refine zR fun _ kr24 => ?_;refine zm rfl (zm rfl (zm rfl (zm rfl ?_)));refine WL.ev (Ev.ixR (i) rfl rfl (hrla.keep0 hch) (by omega) (by omega) (by simp; omega)) rfl ?_;refine WL.ev (Ev.load rfl rfl ((hrla.keep0 hch).u32 (by first | omega | (simp; omega)))) rfl ?_;have hw31 := hWla.getD (i);refine zm rfl (zm rfl ?_);refine WL.call hasF127 rfl rfl (Sub32_spec (la.getD i 0) (lb.getD i 0) c _ (hWla.getD i) (hWlb.getD i) (by omega)) fun v w2 h' => ?_;obtain ⟨rfl, rfl⟩ := h';refine zm rfl (zx rfl rfl (zx rfl rfl ?_));refine WL.ev (Ev.ixB (i) rfl rfl (by omega) (by omega)) rfl ?_;refine WL.storeU rfl rfl hb11 (by first | omega | (simp; omega)) fun ws7 hb11_ hcs7 => ?_;have hch := hch.s1 hcs7;have hb11 := hb11_;refine za rfl ?_;refine WL.nil (kr24 _ _ _ (kh13 ?_));refine zR fun _ kr25 => ?_;(first | refine zi rfl rfl ?_ | refine zo rfl rfl ?_);refine zm rfl ?_;refine WL.nil (kr25 _ _ _ ?_);refine ⟨rfl, (i + 1, L.set i ((la.getD i 0 + 8589934592 - lb.getD i 0 - c) % 4294967296), if la.getD i 0 < lb.getD i 0 + c then 1 else 0), ?_, ?_, ?_⟩
    ·exact SLp
    ·exact ⟨hAd.step hWla hWlb (by omega), hb11, hch⟩
    ·show la.length - (i + 1) < la.length - i; omega
  ·refine CW.exit ?_
   refine kh7 (Sr fun _ kh26 => zm rfl (za rfl (zz (kh26 ?_))));refine zr (zr1 rfl rfl ?_);have hiX2 : i = la.length := by omega
   subst hiX2;exact ⟨L, NU.of_block hb11 hAd.w (by omega) (by omega) (Nat.le_refl _), hAd.done hWla hWlb hle, hch⟩

structure KC (A B : List Nat) (w : World) (k : Nat) (wr : World) : Prop where
  le : k ≤ A.length
  eq : A.drop k = B.drop k
  chg : Chg [] w wr

theorem Cmp_spec (va vb : Value) (la lb : List Nat) (w : World) (ha : NU w va la) (hb : NU w vb lb) : Ret Tryz.prog 87 [va, vb] w fun u w' => u = .int .i64 (sgn (val la) (val lb)) ∧ Chg [] w w' := by
 obtain ⟨A, hA⟩ : ∃ A, A = wd (val la) := ⟨_, rfl⟩;have hvA : val A = val la := by rw [hA]; exact val_wd _
 obtain ⟨B, hB⟩ : ∃ B, B = wd (val lb) := ⟨_, rfl⟩;have hvB : val B = val lb := by rw [hB]; exact val_wd _
 have hch : Chg [] w w := Chg.refl _ _;refine zE2 Tryz.func87 rfl ?_;refine Sr fun _ kh1 => za rfl (zz (kh1 (Sr fun _ kh3 => zm rfl ?_)));refine WL.call hasF113 rfl rfl (cut_spec _ _ _ ha) fun v w1 h' => ?_;obtain ⟨hN1, rfl⟩ := h';rw [← hA] at hN1;obtain ⟨⟨a1, c1, rfl, hcap1, hr1⟩, hW1, hl1⟩ := hN1;refine zm rfl ?_;refine WL.call hasF113 rfl rfl (cut_spec _ _ _ hb) fun v w2 h' => ?_;obtain ⟨hN2, rfl⟩ := h';rw [← hB] at hN2;obtain ⟨⟨a2, c2, rfl, hcap2, hr2⟩, hW2, hl2⟩ := hN2;refine za rfl (za rfl (zz (kh3 (zc fun _ kh5 => ?_))));refine CW.block ?_;refine Sr fun _ kh6 => zm rfl (zn rfl (zm rfl (zn rfl ?_)));refine WL.ev (Ev.lss rfl rfl) rfl ?_;refine za rfl (zz (kh6 ?_));refine zy rfl ?_ ?_<;>intro hc1<;>try simp only [qs] at hc1
 ·refine Sr fun _ kh8 => za rfl (zz (kh8 ?_));refine zr (zr1 rfl rfl ?_);have hs := sgn_len (a := val la) (b := val lb);rw [← hA, ← hB] at hs;rw [hs.1 (by omega)];exact ⟨rfl, hch⟩
 ·refine Sr fun _ kh10 => zm rfl (zn rfl (zm rfl (zn rfl ?_)));refine WL.ev (Ev.gtr rfl rfl) rfl ?_
  refine za rfl (zz (kh10 ?_));refine zy rfl ?_ ?_<;>intro hc2<;>try simp only [qs] at hc2
  ·refine Sr fun _ kh12 => za rfl (zz (kh12 ?_));refine zr (zr1 rfl rfl ?_);have hs := sgn_len (a := val la) (b := val lb);rw [← hA, ← hB] at hs;rw [hs.2 (by omega)];exact ⟨rfl, hch⟩
  ·have hAB : A.length = B.length := by omega
   refine zkk ?_;refine kh5 (zc fun _ kh14 => Sr fun _ kh15 => zm rfl (zn rfl ?_))
   first | refine WL.ev (Ev.subIn rfl rfl (by omega)) rfl ?_ | refine WL.ev (Ev.sub rfl rfl) rfl ?_
   refine za rfl (zz (kh15 ?_));refine CW.block ?_;refine CW.loop (S := fun k : Nat => [(0, .slice a1 A.length c1), (1, .slice a2 B.length c2), (5, .int .i64 ((k : Int) - 1))]) (Inv := KC A B w) (mu := fun k => k) (A.length) ?_ ?_ ?_
   ·exact ⟨Nat.le_refl _, by rw [List.drop_length, hAB, List.drop_length], hch⟩
   ·exact SLp
   ·rintro k wr ⟨hkl, hkd, hch⟩;refine zc fun _ kh17 => Sr fun _ kh18 => zm rfl ?_;refine WL.ev (Ev.geq rfl rfl) rfl ?_;refine zz (kh18 ?_);refine zy rfl ?_ ?_<;>intro hc3<;>try simp only [qs] at hc3
    ·have hk1 : k - 1 + 1 = k := by omega
     have hsd := sgn_drop hW1 hW2 hAB (k := k - 1) (by omega) (by rw [hk1]; exact hkd);rw [hvA, hvB] at hsd;refine zkk ?_;refine kh17 (zc fun _ kh20 => ?_);refine CW.block ?_;refine CW.block ?_;refine zc fun _ kh21 => ?_;refine CW.regionSC hmix (by kernel_rfl) fun kR22 kr22 hdr => ?_;have hch := hch.ta hdr;refine ym rfl (ym rfl ?_);refine WS.ev (Ev.ixR ((k - 1)) rfl rfl (hr1.keep0 hch) (by omega) (by omega) (by simp; omega)) rfl ?_;refine WS.ev (Ev.load rfl rfl ((hr1.keep0 hch).u32 (by first | omega | (simp; omega)))) rfl ?_;have hw33 := hW1.getD ((k - 1));refine ym rfl (ym rfl ?_);refine WS.ev (Ev.ixR ((k - 1)) rfl rfl (hr2.keep0 hch) (by omega) (by omega) (by simp; omega)) rfl ?_;refine WS.ev (Ev.load rfl rfl ((hr2.keep0 hch).u32 (by first | omega | (simp; omega)))) rfl ?_;have hw37 := hW2.getD ((k - 1));refine WS.ev (Ev.lss rfl rfl) rfl ?_;refine ya rfl ?_;refine WS.nil (kr22 _ _ ?_);refine kh21 ?_;refine zy rfl ?_ ?_<;>intro hc4<;>try simp only [qs] at hc4
     ·refine Sr fun _ kh23 => za rfl (zz (kh23 ?_));refine zr (zr1 rfl rfl ?_);rw [hsd.1 (by omega)];exact ⟨rfl, hch⟩
     ·refine zc fun _ kh25 => ?_
      refine CW.regionSC hmix (by kernel_rfl) fun kR26 kr26 hdr => ?_;have hch := hch.ta hdr;refine ym rfl (ym rfl ?_);refine WS.ev (Ev.ixR ((k - 1)) rfl rfl (hr1.keep0 hch) (by omega) (by omega) (by simp; omega)) rfl ?_;refine WS.ev (Ev.load rfl rfl ((hr1.keep0 hch).u32 (by first | omega | (simp; omega)))) rfl ?_;have hw43 := hW1.getD ((k - 1));refine ym rfl (ym rfl ?_);refine WS.ev (Ev.ixR ((k - 1)) rfl rfl (hr2.keep0 hch) (by omega) (by omega) (by simp; omega)) rfl ?_;refine WS.ev (Ev.load rfl rfl ((hr2.keep0 hch).u32 (by first | omega | (simp; omega)))) rfl ?_;have hw47 := hW2.getD ((k - 1));refine WS.ev (Ev.gtr rfl rfl) rfl ?_;refine ya rfl ?_;refine WS.nil (kr26 _ _ ?_);refine kh25 ?_;refine zy rfl ?_ ?_<;>intro hc5<;>try simp only [qs] at hc5
      ·refine Sr fun _ kh27 => za rfl (zz (kh27 ?_));refine zr (zr1 rfl rfl ?_);rw [hsd.2.1 (by omega)];exact ⟨rfl, hch⟩
      ·refine zkk ?_
       refine kh20 ?_;refine zR fun _ kr29 => ?_;refine zm rfl ?_
       first | refine WL.ev (Ev.subIn rfl rfl (by omega)) rfl ?_ | refine WL.ev (Ev.sub rfl rfl) rfl ?_
       refine za rfl ?_;refine WL.nil (kr29 _ _ _ ?_);refine ⟨rfl, k - 1, ?_, ?_, ?_⟩
       ·exact SLp
       ·exact ⟨by omega, hsd.2.2 (by omega), hch⟩
       ·omega
    ·refine CW.exit ?_
     refine kh14 (Sr fun _ kh30 => za rfl (zz (kh30 ?_)));refine zr (zr1 rfl rfl ?_);have hk0 : k = 0 := by omega
     subst hk0;rw [List.drop_zero, List.drop_zero] at hkd;rw [← hvA, ← hvB, hkd, sgn_self];exact ⟨rfl, hch⟩

theorem Sub_spec (va vb : Value) (la lb : List Nat) (w : World) (ha : NU w va la) (hb : NU w vb lb) : Ret Tryz.prog 88 [va, vb] w fun u w' => (((wd (val la)).length ≤ 8192 ∧ (wd (val lb)).length ≤ 8192 ∧ val lb ≤ val la ∧ ∃ r, u = .tuple [r, .int .i64 0].toArray ∧ NU w' r (wd (val la - val lb))) ∨ (¬ ((wd (val la)).length ≤ 8192 ∧ (wd (val lb)).length ≤ 8192) ∧ u = .tuple [.slice none 0 0, .int .i64 2].toArray) ∨ (((wd (val la)).length ≤ 8192 ∧ (wd (val lb)).length ≤ 8192) ∧ val la < val lb ∧ u = .tuple [.slice none 0 0, .int .i64 20].toArray)) ∧ Chg [] w w' := by
 have hch : Chg [] w w := Chg.refl _ _;refine zE2 Tryz.func88 rfl ?_;refine Sr fun _ kh1 => za rfl (za rfl (zz (kh1 (Sr fun _ kh3 => zm rfl (zm rfl ?_)))));refine WL.call hasF106 rfl rfl (both_spec _ _ _ _ _ ha hb) fun v w10 h' => ?_;obtain ⟨h', rfl⟩ := h';rcases h' with ⟨hfit, x, y, rfl, hNx, hNy⟩ | ⟨hno, rfl⟩
 ·have hlm := wd_length_val_le (NU.hw hNx);refine zm rfl (zx rfl rfl (zx rfl rfl (zx rfl rfl (za rfl (za rfl (za rfl (zz (kh3 (zc fun _ kh5 => ?_)))))))));refine CW.block ?_;refine Sr fun _ kh6 => zm rfl ?_;refine WL.ev (Ev.neq rfl rfl) rfl ?_;refine za rfl (zz (kh6 ?_));refine CW.condF rfl ?_;refine Sr fun _ kh8 => zm rfl (zm rfl ?_);refine WL.call hasF87 rfl rfl (Cmp_spec _ _ _ _ _ hNx hNy) fun v w1 h' => ?_;obtain ⟨rfl, hC21⟩ := h';have hch := hch.trans hC21;have hNx := hNx.keep0 hC21;have hNy := hNy.keep0 hC21;rw [val_wd, val_wd];refine WL.ev (Ev.lss rfl rfl) rfl ?_;refine za rfl (zz (kh8 ?_));refine zy rfl ?_ ?_<;>intro hc1<;>try simp only [qs] at hc1
  ·have hlt : val la < val lb := Nat.lt_of_not_le fun hle => by unfold sgn at hc1; split at hc1 <;> (try split at hc1) <;> omega
   refine Sr fun _ kh10 => za rfl (za rfl (zz (kh10 ?_)));refine zr (zr2 rfl rfl rfl ?_);exact ⟨.inr (.inr ⟨hfit, hlt, rfl⟩), hch⟩
  ·have hle : val lb ≤ val la := Nat.le_of_not_lt fun hlt => by unfold sgn at hc1; rw [if_pos hlt] at hc1; omega
   refine zkk ?_;refine kh5 (Sr fun _ kh12 => zm rfl (zm rfl ?_));refine WL.call hasF117 rfl rfl (less_spec _ _ _ _ _ hNx hNy (by rw [val_wd, val_wd]; exact hle)) fun v w2 h' => ?_;obtain ⟨L, hNL, hvL, hC25⟩ := h';have hch := hch.trans hC25;rw [val_wd, val_wd] at hvL;refine WL.call hasF107 rfl rfl (fits_spec _ _ _ hNL) fun v w3 h' => ?_;obtain ⟨h', rfl⟩ := h';rw [hvL] at h';obtain ⟨hfs, r, rfl, hNr⟩ := h'.resolve_right (fun q => by have := q.1; have := wd_length_mono (Nat.sub_le (val la) (val lb)); omega);refine zx rfl rfl (zx rfl rfl (za rfl (za rfl (zz (kh12 ?_)))));refine zr (zr2 rfl rfl rfl ?_);exact ⟨.inl ⟨hfit.1, hfit.2, hle, r, rfl, hNr⟩, hch⟩
 ·refine zm rfl (zx rfl rfl (zx rfl rfl (zx rfl rfl (za rfl (za rfl (za rfl (zz (kh3 (zc fun _ kh14 => ?_)))))))));refine CW.block ?_;refine Sr fun _ kh15 => zm rfl ?_;refine WL.ev (Ev.neq rfl rfl) rfl ?_;refine za rfl (zz (kh15 ?_));refine CW.condT rfl ?_;refine Sr fun _ kh17 => zm rfl (za rfl (za rfl (zz (kh17 ?_))));refine zr (zr2 rfl rfl rfl ?_);exact ⟨.inr (.inl ⟨by omega, rfl⟩), Chg.refl _ _⟩

end

/- Package wide: up, down, Shift, times, Mul. No condition. -/
section
open Go Sx Wd

structure KU (l : List Nat) (s : Nat) (w : World) (b : Nat) (g : Nat × List Nat) (wr : World) : Prop where
  a : UpI l s g.1 g.2
  ob : OB wr b 100 g.2
  chg : Chg [] w wr
structure KD (l : List Nat) (s : Nat) (w : World) (b : Nat) (g : Nat × List Nat) (wr : World) : Prop where
  a : DownI l s g.1 g.2
  ob : OB wr b 100 g.2
  chg : Chg [] w wr

theorem up_spec (v : Value) (l : List Nat) (s : Nat) (w : World) (h : NU w v l) (hs : s < 32) (hlm : l.length < 70368744177664) : Ret Tryz.prog 115 [v, .int .i64 (s : Int)] w fun u w' => ∃ L, NU w' u L ∧ L.length = l.length + 1 ∧ val L = val l * 2 ^ s ∧ Chg [] w w' := by
 obtain ⟨⟨al, cl, rfl, hcapl, hrl⟩, hWl, hll⟩ := h;have hch : Chg [] w w := Chg.refl _ _;refine zE2 Tryz.func115 rfl ?_;refine Sr fun _ kh1 => za rfl (zz (kh1 (Sr fun _ kh3 => zm rfl (zn rfl ?_))));(first | refine zi rfl rfl ?_ | refine zo rfl rfl ?_);refine WL.makeU (((l).length + 1)) (((l).length + 1)) rfl rfl (by omega) (by omega) (by omega) (by omega) (by omega) rfl fun b12 wm12 hb12 hcm12 hge12 => ?_;have hgehch12 := Nat.le_trans hch.size hge12;have hch := hch.ta hcm12;refine za rfl (zz (kh3 (zc fun _ kh5 => Sr fun _ kh6 => zm rfl (zn rfl (zm rfl (zz (kh6 ?_)))))));refine CW.block ?_;refine CW.loop (S := fun g : Nat × List Nat => [(1, .int .i64 (s : Int)), (5, .slice (some ⟨b12, 0, none⟩) (l.length + 1) (l.length + 1)), (13, .slice al l.length cl), (14, .int .i64 (l.length : Int)), (15, .int .i64 (g.1 : Int))]) (Inv := KU l s w b12) (mu := fun g => l.length - g.1) ((0, List.replicate (l.length + 1) 0)) ?_ ?_ ?_
 ·exact ⟨UpI.zero l s, hb12, hch⟩
 ·exact SLp
 ·rintro ⟨i, L⟩ wr ⟨hAd, hb12, hch⟩;dsimp only at hAd hb12 hch;have hiX := hAd.le;have hLl := hAd.len;have hWL := hAd.w;refine Sr fun _ kh8 => ?_;refine WL.ev (Ev.lss rfl rfl) rfl ?_;refine zz (kh8 (zc fun _ kh10 => ?_));refine zy rfl ?_ ?_<;>intro hc1<;>try simp only [qs] at hc1
  ·have hst := hAd.step hs hWl (by omega);refine zkk ?_
   refine kh10 (zc fun _ kh11 => ?_);refine CW.block ?_;refine Sr fun _ kh12 => zm rfl ?_;refine WL.ev (Ev.ixR (i) rfl rfl (hrl.keep0 hch) (by omega) (by omega) (by simp; omega)) rfl ?_;refine WL.ev (Ev.load rfl rfl ((hrl.keep0 hch).u32 (by first | omega | (simp; omega)))) rfl ?_;have hw19 := hWl.getD (i);refine za rfl (za rfl (zz (kh12 (Sr fun _ kh14 => zm rfl ?_))));refine WL.ev (Ev.convIn rfl rfl (in_u64 (by omega))) rfl ?_;refine zm rfl ?_;refine WL.ev (Ev.shlU64 rfl rfl) rfl ?_;refine za rfl (zz (kh14 (Sr fun _ kh16 => zm rfl (zm rfl ?_))));refine WL.ev (Ev.ixB (i) rfl rfl (by omega) (by omega)) rfl ?_;refine WL.ev (Ev.load rfl rfl (hb12.u32 (by first | omega | (simp; omega)))) rfl ?_;have hw27 := hWL.getD (i);refine zm rfl ?_;refine WL.ev (Ev.conv32 rfl rfl) rfl ?_;refine WL.ev (Ev.orU rfl rfl rfl (by simp only [IntKind.bits]; omega) (by simp only [IntKind.bits]; omega)) rfl ?_;refine WL.ev (Ev.ixB (i) rfl rfl (by omega) (by omega)) rfl ?_;refine WL.storeU rfl rfl hb12 (by first | omega | (simp; omega)) fun ws8 hb12_ hcs8 => ?_;have hch := hch.s1 hcs8;have hb12 := hb12_;refine zz (kh16 ?_);refine zR fun _ kr18 => ?_;refine zm rfl (zm rfl ?_);(first | refine zi rfl rfl ?_ | refine zo rfl rfl ?_);refine zm rfl ?_;refine WL.ev (Ev.shrU (b := 32) rfl rfl (by simp only [IntKind.bits]; omega)) rfl ?_;refine WL.ev (Ev.conv32 rfl rfl) rfl ?_;refine WL.ev (Ev.ixB ((i + 1)) rfl rfl (by omega) (by omega)) rfl ?_;refine WL.storeU rfl rfl hb12 (by first | omega | (simp; omega)) fun ws9 hb12_ hcs9 => ?_;have hch := hch.s1 hcs9;have hb12 := hb12_;refine WL.nil (kr18 _ _ _ (kh11 ?_));refine zR fun _ kr19 => ?_;(first | refine zi rfl rfl ?_ | refine zo rfl rfl ?_);refine zm rfl ?_;refine WL.nil (kr19 _ _ _ ?_);refine ⟨rfl, (i + 1, (L.set i (L.getD i 0 ||| (l.getD i 0 * 2 ^ s % 18446744073709551616 % 4294967296))).set (i + 1) (l.getD i 0 * 2 ^ s % 18446744073709551616 / 2 ^ 32 % 4294967296)), ?_, ?_, ?_⟩
   ·exact SLp
   ·exact ⟨hst.2, hb12, hch⟩
   ·show l.length - (i + 1) < l.length - i; omega
  ·refine CW.exit ?_
   refine kh5 (Sr fun _ kh20 => zm rfl (za rfl (zz (kh20 ?_))));refine zr (zr1 rfl rfl ?_);have hiX2 : i = l.length := by omega
   subst hiX2;exact ⟨L, NU.of_block hb12 hAd.w (by omega) (by omega) (Nat.le_refl _), hAd.len, hAd.done, hch⟩

theorem down_spec (v : Value) (l : List Nat) (s : Nat) (w : World) (h : NU w v l) (hs : s < 32) : Ret Tryz.prog 114 [v, .int .i64 (s : Int)] w fun u w' => ∃ L, NU w' u L ∧ val L = val l / 2 ^ s ∧ Chg [] w w' := by
 obtain ⟨⟨al, cl, rfl, hcapl, hrl⟩, hWl, hll⟩ := h;have hch : Chg [] w w := Chg.refl _ _;refine zE2 Tryz.func114 rfl ?_;refine Sr fun _ kh1 => za rfl (zz (kh1 (Sr fun _ kh3 => zm rfl (zn rfl ?_))));refine WL.makeU ((l).length) ((l).length) rfl rfl (by omega) (by omega) (by omega) (by omega) (by omega) rfl fun b11 wm11 hb11 hcm11 hge11 => ?_;have hgehch11 := Nat.le_trans hch.size hge11;have hch := hch.ta hcm11;refine za rfl (zz (kh3 (zc fun _ kh5 => Sr fun _ kh6 => zm rfl (zn rfl (zm rfl (zz (kh6 ?_)))))));refine CW.block ?_;refine CW.loop (S := fun g : Nat × List Nat => [(0, .slice al l.length cl), (1, .int .i64 (s : Int)), (5, .slice (some ⟨b11, 0, none⟩) l.length l.length), (12, .slice al l.length cl), (13, .int .i64 (l.length : Int)), (14, .int .i64 (g.1 : Int))]) (Inv := KD l s w b11) (mu := fun g => l.length - g.1) ((0, List.replicate l.length 0)) ?_ ?_ ?_
 ·exact ⟨DownI.zero l _ s (by simp) (W_replicate _), hb11, hch⟩
 ·exact SLp
 ·rintro ⟨i, L⟩ wr ⟨hAd, hb11, hch⟩;dsimp only at hAd hb11 hch;have hiX := hAd.le;have hLl := hAd.len;have hWL := hAd.w;refine Sr fun _ kh8 => ?_;refine WL.ev (Ev.lss rfl rfl) rfl ?_;refine zz (kh8 (zc fun _ kh10 => ?_));refine zy rfl ?_ ?_<;>intro hc1<;>try simp only [qs] at hc1
  ·refine zkk ?_
   refine kh10 (zc fun _ kh11 => ?_);refine CW.block ?_;refine Sr fun _ kh12 => zm rfl ?_;refine WL.ev (Ev.ixR (i) rfl rfl (hrl.keep0 hch) (by omega) (by omega) (by simp; omega)) rfl ?_;refine WL.ev (Ev.load rfl rfl ((hrl.keep0 hch).u32 (by first | omega | (simp; omega)))) rfl ?_;have hw18 := hWl.getD (i);refine za rfl (za rfl (zz (kh12 (Sr fun _ kh14 => zm rfl ?_))));refine WL.ev (Ev.convIn rfl rfl (in_u64 (by omega))) rfl ?_;refine za rfl (zz (kh14 (zc fun _ kh16 => Sr fun _ kh17 => zm rfl ?_)));(first | refine zi rfl rfl ?_ | refine zo rfl rfl ?_);refine zm rfl (zn rfl ?_);refine WL.ev (Ev.lss rfl rfl) rfl ?_;refine zz (kh17 ?_);refine zy rfl ?_ ?_<;>intro hc2<;>try simp only [qs] at hc2
   ·refine zR fun _ kr19 => ?_
    refine zm rfl (zm rfl (zm rfl ?_));(first | refine zi rfl rfl ?_ | refine zo rfl rfl ?_);refine WL.ev (Ev.ixR ((i + 1)) rfl rfl (hrl.keep0 hch) (by omega) (by omega) (by simp; omega)) rfl ?_;refine WL.ev (Ev.load rfl rfl ((hrl.keep0 hch).u32 (by first | omega | (simp; omega)))) rfl ?_;have hw31 := hWl.getD ((i + 1));refine WL.ev (Ev.convIn rfl rfl (in_u64 (by omega))) rfl ?_;refine WL.ev (Ev.shlU64 (b := 32) rfl rfl) rfl ?_;refine WL.ev (Ev.orU rfl rfl rfl (by simp only [IntKind.bits]; omega) (by simp only [IntKind.bits]; omega)) rfl ?_;rw [Nat.mod_eq_of_lt (show l.getD (i + 1) 0 * 2 ^ 32 < 18446744073709551616 by omega), or_of_mul (show l.getD i 0 < 2 ^ 32 by omega), show l.getD (i + 1) 0 * 2 ^ 32 = l.getD (i + 1) 0 * 4294967296 from rfl];refine za rfl ?_;refine WL.nil (kr19 _ _ _ (kh16 ?_));refine zR fun _ kr20 => ?_;refine zm rfl (zm rfl (zm rfl (zm rfl ?_)));have hdl : (l.getD i 0 + l.getD (i + 1) 0 * 4294967296) / 2 ^ s ≤ l.getD i 0 + l.getD (i + 1) 0 * 4294967296 := Nat.div_le_self _ _;have hw1 := hWl.getD (i + 1);refine WL.ev (Ev.shrU rfl rfl (by simp only [IntKind.bits]; omega)) rfl ?_;refine WL.ev (Ev.conv32 rfl rfl) rfl ?_;refine WL.ev (Ev.ixB (i) rfl rfl (by omega) (by omega)) rfl ?_;refine WL.storeU rfl rfl hb11 (by first | omega | (simp; omega)) fun ws10 hb11_ hcs10 => ?_;have hch := hch.s1 hcs10;have hb11 := hb11_;refine WL.nil (kr20 _ _ _ (kh11 ?_));refine zR fun _ kr21 => ?_;(first | refine zi rfl rfl ?_ | refine zo rfl rfl ?_);refine zm rfl ?_;refine WL.nil (kr21 _ _ _ ?_);refine ⟨rfl, (i + 1, L.set i ((l.getD i 0 + l.getD (i + 1) 0 * 4294967296) / 2 ^ s % 4294967296)), ?_, ?_, ?_⟩
    ·exact SLp
    ·exact ⟨hAd.step hs hWl (by omega) rfl, hb11, hch⟩
    ·show l.length - (i + 1) < l.length - i; omega
   ·have hz1 : l.getD (i + 1) 0 = 0 := getD_out (by omega);have e0 : (l.getD i 0) = l.getD i 0 + l.getD (i + 1) 0 * 4294967296 := by omega
    refine zkk ?_;refine kh16 ?_;refine zR fun _ kr22 => ?_;refine zm rfl (zm rfl (zm rfl ?_));rw [show (Value.int IntKind.u64 ((l.getD i 0 : Nat) : Int)) = Value.int IntKind.u64 ((l.getD i 0 + l.getD (i + 1) 0 * 4294967296 : Nat) : Int) from congrArg (fun q : Nat => Value.int IntKind.u64 (q : Int)) e0];refine zm rfl ?_;have hdl : (l.getD i 0 + l.getD (i + 1) 0 * 4294967296) / 2 ^ s ≤ l.getD i 0 + l.getD (i + 1) 0 * 4294967296 := Nat.div_le_self _ _;have hw1 := hWl.getD (i + 1);refine WL.ev (Ev.shrU rfl rfl (by simp only [IntKind.bits]; omega)) rfl ?_;refine WL.ev (Ev.conv32 rfl rfl) rfl ?_;refine WL.ev (Ev.ixB (i) rfl rfl (by omega) (by omega)) rfl ?_;refine WL.storeU rfl rfl hb11 (by first | omega | (simp; omega)) fun ws11 hb11_ hcs11 => ?_;have hch := hch.s1 hcs11;have hb11 := hb11_;refine WL.nil (kr22 _ _ _ (kh11 ?_));refine zR fun _ kr23 => ?_;(first | refine zi rfl rfl ?_ | refine zo rfl rfl ?_);refine zm rfl ?_;refine WL.nil (kr23 _ _ _ ?_);refine ⟨rfl, (i + 1, L.set i ((l.getD i 0 + l.getD (i + 1) 0 * 4294967296) / 2 ^ s % 4294967296)), ?_, ?_, ?_⟩
    ·exact SLp
    ·exact ⟨hAd.step hs hWl (by omega) rfl, hb11, hch⟩
    ·show l.length - (i + 1) < l.length - i; omega
  ·refine CW.exit ?_
   refine kh5 (Sr fun _ kh24 => zm rfl (za rfl (zz (kh24 ?_))));refine zr (zr1 rfl rfl ?_);have hiX2 : i = l.length := by omega
   subst hiX2;exact ⟨L, NU.of_block hb11 hAd.w (by omega) (by omega) (Nat.le_refl _), hAd.done hWl, hch⟩

structure KM (la lb : List Nat) (w : World) (b : Nat) (g : Nat × List Nat) (wr : World) : Prop where
  a : MulI la lb g.1 g.2
  ob : OB wr b 100 g.2
  chg : Chg [] w wr
structure KN (x : Nat) (lb : List Nat) (i : Nat) (L0 : List Nat) (w : World) (b : Nat) (g : Nat × List Nat × Nat) (wr : World) : Prop where
  a : MulJ x lb i L0 g.1 g.2.1 g.2.2
  ob : OB wr b 100 g.2.1
  chg : Chg [] w wr

theorem times_spec (va vb : Value) (la lb : List Nat) (w : World) (ha : NU w va la) (hb : NU w vb lb) (hlm : la.length + lb.length ≤ 70368744177664) : Ret Tryz.prog 108 [va, vb] w fun u w' => ∃ L, NU w' u L ∧ L.length = la.length + lb.length ∧ val L = val la * val lb ∧ Chg [] w w' := by
 obtain ⟨⟨ala, cla, rfl, hcapla, hrla⟩, hWla, hlla⟩ := ha;obtain ⟨⟨alb, clb, rfl, hcaplb, hrlb⟩, hWlb, hllb⟩ := hb;have hch : Chg [] w w := Chg.refl _ _;refine zE2 Tryz.func108 rfl ?_;refine Sr fun _ kh1 => za rfl (zz (kh1 (Sr fun _ kh3 => zm rfl (zn rfl (zm rfl (zn rfl ?_))))));(first | refine zi rfl rfl ?_ | refine zo rfl rfl ?_);refine WL.makeU (((la).length + (lb).length)) (((la).length + (lb).length)) rfl rfl (by omega) (by omega) (by omega) (by omega) (by omega) rfl fun b17 wm17 hb17 hcm17 hge17 => ?_;have hgehch17 := Nat.le_trans hch.size hge17;have hch := hch.ta hcm17;refine za rfl (zz (kh3 (zc fun _ kh5 => Sr fun _ kh6 => zm rfl (zn rfl (zm rfl (zz (kh6 ?_)))))));refine CW.block ?_;refine CW.loop (S := fun g : Nat × List Nat => [(1, .slice alb lb.length clb), (5, .slice (some ⟨b17, 0, none⟩) (la.length + lb.length) (la.length + lb.length)), (18, .slice ala la.length cla), (19, .int .i64 (la.length : Int)), (20, .int .i64 (g.1 : Int))]) (Inv := KM la lb w b17) (mu := fun g => la.length - g.1) ((0, List.replicate (la.length + lb.length) 0)) ?_ ?_ ?_
 ·exact ⟨MulI.zero la lb, hb17, hch⟩
 ·exact SLp
 ·rintro ⟨i, L0⟩ wr ⟨hAd, hb17, hch⟩;dsimp only at hAd hb17 hch;have hiX := hAd.le;have hLl := hAd.len;refine Sr fun _ kh8 => ?_;refine WL.ev (Ev.lss rfl rfl) rfl ?_;refine zz (kh8 (zc fun _ kh10 => ?_));refine zy rfl ?_ ?_<;>intro hc1<;>try simp only [qs] at hc1
  ·refine zkk ?_
   refine kh10 (zc fun _ kh11 => ?_);refine CW.block ?_;refine Sr fun _ kh12 => zm rfl ?_;refine WL.ev (Ev.ixR (i) rfl rfl (hrla.keep0 hch) (by omega) (by omega) (by simp; omega)) rfl ?_;refine WL.ev (Ev.load rfl rfl ((hrla.keep0 hch).u32 (by first | omega | (simp; omega)))) rfl ?_;have hw24 := hWla.getD (i);refine za rfl (za rfl (zz (kh12 (Sr fun _ kh14 => za rfl (zz (kh14 (zc fun _ kh16 => Sr fun _ kh17 => zm rfl (zn rfl (zm rfl (zz (kh17 ?_)))))))))));refine CW.block ?_;refine CW.loop (S := fun g : Nat × List Nat × Nat => [(1, .slice alb lb.length clb), (5, .slice (some ⟨b17, 0, none⟩) (la.length + lb.length) (la.length + lb.length)), (6, .int .i64 (i : Int)), (7, .int .u32 ((la.getD i 0 : Nat) : Int)), (8, .int .u64 (g.2.2 : Int)), (18, .slice ala la.length cla), (19, .int .i64 (la.length : Int)), (20, .int .i64 (i : Int)), (25, .slice alb lb.length clb), (26, .int .i64 (lb.length : Int)), (27, .int .i64 (g.1 : Int))]) (Inv := KN (la.getD i 0) lb i L0 w b17) (mu := fun g => lb.length - g.1) ((0, L0, 0)) ?_ ?_ ?_
   ·exact ⟨MulJ.zero hAd.w, hb17, hch⟩
   ·exact SLp
   ·rintro ⟨j, L, c⟩ wr2 ⟨hJ, hb17, hch⟩;dsimp only at hJ hb17 hch;have hjX := hJ.le;have hLl2 := hJ.len;have hWL := hJ.w;have hcc := hJ.c1;refine Sr fun _ kh19 => ?_;refine WL.ev (Ev.lss rfl rfl) rfl ?_;refine zz (kh19 (zc fun _ kh21 => ?_));refine zy rfl ?_ ?_<;>intro hc2<;>try simp only [qs] at hc2
    ·have hfit := MulJ.fits (hWla.getD i) (hWlb.getD j) (hWL.getD (i + j)) hcc
     have hxa := hWla.getD i;refine zkk ?_;refine kh21 (zc fun _ kh22 => ?_);refine CW.block ?_;refine Sr fun _ kh23 => zm rfl ?_;refine WL.ev (Ev.ixR (j) rfl rfl (hrlb.keep0 hch) (by omega) (by omega) (by simp; omega)) rfl ?_;refine WL.ev (Ev.load rfl rfl ((hrlb.keep0 hch).u32 (by first | omega | (simp; omega)))) rfl ?_;have hw31 := hWlb.getD (j);refine za rfl (za rfl (zz (kh23 (Sr fun _ kh25 => zm rfl ?_))));refine WL.ev (Ev.convIn rfl rfl (in_u64 (by omega))) rfl ?_;refine zm rfl ?_;refine WL.ev (Ev.convIn rfl rfl (in_u64 (by omega))) rfl ?_;refine WL.ev (Ev.mul64In rfl rfl hfit.2.1) rfl ?_;refine zm rfl (zm rfl (zm rfl ?_));(first | refine zi rfl rfl ?_ | refine zo rfl rfl ?_);refine WL.ev (Ev.ixB ((i + j)) rfl rfl (by omega) (by omega)) rfl ?_;refine WL.ev (Ev.load rfl rfl (hb17.u32 (by first | omega | (simp; omega)))) rfl ?_;have hw42 := hWL.getD ((i + j));refine WL.ev (Ev.convIn rfl rfl (in_u64 (by omega))) rfl ?_;refine WL.ev (Ev.add64In rfl rfl hfit.2.2) rfl ?_;refine zm rfl ?_;refine WL.ev (Ev.add64In rfl rfl hfit.1) rfl ?_;refine za rfl (zz (kh25 ?_));refine zR fun _ kr27 => ?_;refine zm rfl (zm rfl (zm rfl ?_));(first | refine zi rfl rfl ?_ | refine zo rfl rfl ?_);refine zm rfl ?_;refine WL.ev (Ev.conv32 rfl rfl) rfl ?_;refine zm rfl ?_;refine WL.ev (Ev.shrU (b := 32) rfl rfl (by simp only [IntKind.bits]; exact hfit.1)) rfl ?_;refine WL.ev (Ev.ixB ((i + j)) rfl rfl (by omega) (by omega)) rfl ?_;refine WL.storeU rfl rfl hb17 (by first | omega | (simp; omega)) fun ws12 hb17_ hcs12 => ?_;have hch := hch.s1 hcs12;have hb17 := hb17_;refine za rfl ?_;refine WL.nil (kr27 _ _ _ (kh22 ?_));refine zR fun _ kr28 => ?_;(first | refine zi rfl rfl ?_ | refine zo rfl rfl ?_);refine zm rfl ?_;refine WL.nil (kr28 _ _ _ ?_);refine ⟨rfl, (j + 1, L.set (i + j) ((la.getD i 0 * lb.getD j 0 + L.getD (i + j) 0 + c) % 4294967296), (la.getD i 0 * lb.getD j 0 + L.getD (i + j) 0 + c) / 4294967296), ?_, ?_, ?_⟩
     ·exact SLp
     ·exact ⟨hJ.step (hWla.getD i) hWlb (by omega) (by omega), hb17, hch⟩
     ·show lb.length - (j + 1) < lb.length - j; omega
    ·have hjX2 : j = lb.length := by omega
     subst hjX2;refine CW.exit ?_;refine kh16 ?_;refine zR fun _ kr29 => ?_;refine zm rfl (zm rfl (zm rfl (zn rfl ?_)));(first | refine zi rfl rfl ?_ | refine zo rfl rfl ?_);refine zm rfl ?_;refine WL.ev (Ev.conv32 rfl rfl) rfl ?_;rw [Nat.mod_eq_of_lt hcc];refine WL.ev (Ev.ixB ((i + (lb).length)) rfl rfl (by omega) (by omega)) rfl ?_;refine WL.storeU rfl rfl hb17 (by first | omega | (simp; omega)) fun ws13 hb17_ hcs13 => ?_;have hch := hch.s1 hcs13;have hb17 := hb17_;refine WL.nil (kr29 _ _ _ (kh11 ?_));refine zR fun _ kr30 => ?_;(first | refine zi rfl rfl ?_ | refine zo rfl rfl ?_);refine zm rfl ?_;refine WL.nil (kr30 _ _ _ ?_);refine ⟨rfl, (i + 1, L.set (i + lb.length) c), ?_, ?_, ?_⟩
     ·exact SLp
     ·exact ⟨hAd.step (by omega) hJ, hb17, hch⟩
     ·show la.length - (i + 1) < la.length - i; omega
  ·refine CW.exit ?_
   refine kh5 (Sr fun _ kh31 => zm rfl (za rfl (zz (kh31 ?_))));refine zr (zr1 rfl rfl ?_);have hiX2 : i = la.length := by omega
   subst hiX2;exact ⟨L0, NU.of_block hb17 hAd.w (by omega) (by omega) (Nat.le_refl _), by omega, hAd.done, hch⟩

end

/- Package wide: Mul, Shift; math/bits: Mul64. No condition. -/
section
open Go Sx Wd

theorem Mul_spec (va vb : Value) (la lb : List Nat) (w : World) (ha : NU w va la) (hb : NU w vb lb) : Ret Tryz.prog 71 [va, vb] w fun u w' => (((wd (val la)).length ≤ 8192 ∧ (wd (val lb)).length ≤ 8192 ∧ (wd (val la * val lb)).length ≤ 8192 ∧ ∃ r, u = .tuple [r, .int .i64 0].toArray ∧ NU w' r (wd (val la * val lb))) ∨ (¬ ((wd (val la)).length ≤ 8192 ∧ (wd (val lb)).length ≤ 8192 ∧ (wd (val la * val lb)).length ≤ 8192) ∧ u = .tuple [.slice none 0 0, .int .i64 2].toArray)) ∧ Chg [] w w' := by
 have hch : Chg [] w w := Chg.refl _ _;refine zE2 Tryz.func71 rfl ?_;refine Sr fun _ kh1 => za rfl (za rfl (zz (kh1 (Sr fun _ kh3 => zm rfl (zm rfl ?_)))));refine WL.call hasF106 rfl rfl (both_spec _ _ _ _ _ ha hb) fun v w10 h' => ?_;obtain ⟨h', rfl⟩ := h';rcases h' with ⟨hfit, x, y, rfl, hNx, hNy⟩ | ⟨hno, rfl⟩
 ·refine zm rfl (zx rfl rfl (zx rfl rfl (zx rfl rfl (za rfl (za rfl (za rfl (zz (kh3 (zc fun _ kh5 => Sr fun _ kh6 => zm rfl ?_)))))))));refine WL.ev (Ev.neq rfl rfl) rfl ?_;refine zz (kh6 ?_);refine CW.condF rfl ?_;refine zkk ?_;refine kh5 (Sr fun _ kh8 => zm rfl (zm rfl ?_));refine WL.call hasF108 rfl rfl (times_spec _ _ _ _ _ hNx hNy (by omega)) fun v w1 h' => ?_;obtain ⟨L, hNL, _, hvL, hC19⟩ := h';have hch := hch.trans hC19;rw [val_wd, val_wd] at hvL;refine WL.call hasF107 rfl rfl (fits_spec _ _ _ hNL) fun v w20 h' => ?_;obtain ⟨h', rfl⟩ := h';rw [hvL] at h';rcases h' with ⟨hfs, r, rfl, hNr⟩ | ⟨hfs, rfl⟩
  ·refine zx rfl rfl (zx rfl rfl (za rfl (za rfl (zz (kh8 ?_)))));refine zr (zr2 rfl rfl rfl ?_);exact ⟨.inl ⟨hfit.1, hfit.2, hfs, r, rfl, hNr⟩, hch⟩
  ·refine zx rfl rfl (zx rfl rfl (za rfl (za rfl (zz (kh8 ?_)))));refine zr (zr2 rfl rfl rfl ?_);exact ⟨.inr ⟨by omega, rfl⟩, hch⟩
 ·refine zm rfl (zx rfl rfl (zx rfl rfl (zx rfl rfl (za rfl (za rfl (za rfl (zz (kh3 (zc fun _ kh10 => Sr fun _ kh11 => zm rfl ?_)))))))));refine WL.ev (Ev.neq rfl rfl) rfl ?_;refine zz (kh11 ?_);refine CW.condT rfl ?_;refine Sr fun _ kh13 => zm rfl (za rfl (za rfl (zz (kh13 ?_))));refine zr (zr2 rfl rfl rfl ?_);exact ⟨.inr ⟨by omega, rfl⟩, Chg.refl _ _⟩

/-- A number moved, up or down. -/
def shiftN (n : Nat) (s : Int) : Nat := if s < 0 then n / 2 ^ (-s).toNat else n * 2 ^ s.toNat
theorem shiftN_neg (n q : Nat) (h : 0 < q) : shiftN n (-(q : Int)) = n / 2 ^ q := by
  unfold shiftN; rw [if_pos (by omega), show (- -(q : Int)).toNat = q by omega]
theorem shiftN_pos (n q : Nat) : shiftN n (q : Int) = n * 2 ^ q := by
  unfold shiftN; rw [if_neg (by omega), show (q : Int).toNat = q by omega]
theorem shiftN_out {n : Nat} {s : Int} (h : n = 0 ∨ s ≤ -(bl n : Int)) : shiftN n s = 0 := by
  rcases h with rfl | h
  · unfold shiftN; split <;> simp
  · by_cases h0 : n = 0
    · subst h0; unfold shiftN; split <;> simp
    · have := bl_pos h0
      obtain ⟨q, rfl⟩ : ∃ q : Nat, s = -(q : Int) := ⟨(-s).toNat, by omega⟩
      rw [shiftN_neg _ _ (by omega)]
      exact Nat.div_eq_of_lt (bl_le.1 (by omega))
theorem div_words {n q : Nat} : n / 2 ^ (32 * (q / 32)) / 2 ^ (q % 32) = n / 2 ^ q := by
  rw [Nat.div_div_eq_div_mul, ← Nat.pow_add, show 32 * (q / 32) + q % 32 = q by omega]
theorem bl_words {n k : Nat} : bl n ≤ 32 * k ↔ (wd n).length ≤ k := by rw [bl_le, wd_length_le]

theorem Shift_spec (v : Value) (l : List Nat) (s : Int) (w : World) (h : NU w v l) (hs : -9223372036854775808 ≤ s ∧ s ≤ 9223372036854775807) : Ret Tryz.prog 85 [v, .int .i64 s] w fun u w' => ((((wd (val l)).length ≤ 8192 ∧ (val l = 0 ∨ s ≤ 262144 - (bl (val l) : Int))) ∧ ∃ r, u = .tuple [r, .int .i64 0].toArray ∧ NU w' r (wd (shiftN (val l) s))) ∨ (¬ (((wd (val l)).length ≤ 8192 ∧ (val l = 0 ∨ s ≤ 262144 - (bl (val l) : Int)))) ∧ u = .tuple [.slice none 0 0, .int .i64 2].toArray)) ∧ Chg [] w w' := by
 obtain ⟨A, hA⟩ : ∃ A, A = wd (val l) := ⟨_, rfl⟩;have hvA : val A = val l := by rw [hA]; exact val_wd _
 have hb32 := bl_words (n := val l) (k := 8192);have hbz := bl_eq_zero (n := val l);rw [← hA] at hb32;have hbA : bl (val l) ≤ 32 * A.length := by rw [bl_words, ← hA]; exact Nat.le_refl _
 have hch : Chg [] w w := Chg.refl _ _;refine zE2 Tryz.func85 rfl ?_;refine Sr fun _ kh1 => za rfl (za rfl (zz (kh1 (Sr fun _ kh3 => zm rfl ?_))));refine WL.call hasF113 rfl rfl (cut_spec _ _ _ h) fun v w1 h' => ?_;obtain ⟨hN1, rfl⟩ := h';rw [← hA] at hN1;obtain ⟨⟨a1, c1, rfl, hcap1, hr1⟩, hW1, hl1⟩ := hN1;refine za rfl (zz (kh3 (zc fun _ kh5 => ?_)));refine CW.block ?_;refine Sr fun _ kh6 => zm rfl (zn rfl ?_);refine WL.ev (Ev.gtr rfl rfl) rfl ?_;refine za rfl (zz (kh6 ?_));refine zy rfl ?_ ?_<;>intro hc1<;>try simp only [qs] at hc1
 ·refine Sr fun _ kh8 => za rfl (za rfl (zz (kh8 ?_)));refine zr (zr2 rfl rfl rfl ?_);rw [← hA];exact ⟨.inr ⟨by omega, rfl⟩, hch⟩
 ·have hN1 : NU w (.slice a1 A.length c1) A := NU.of_row hr1 hW1 hl1 rfl hcap1
  have hAz : A.length = 0 ↔ val l = 0 := by rw [← hvA]; rw [hA]; rw [val_wd]; rw [List.length_eq_zero_iff, wd_eq_nil]
  refine Sr fun _ kh10 => zm rfl (zn rfl (zq rfl rfl (zm rfl ?_)));refine zb ?_ ?_<;>intro hg2<;>try simp only [qs] at hg2
  ·refine zv rfl (zv rfl (zv rfl (zv rfl (zv rfl (zt rfl rfl (za rfl (zz (kh10 ?_))))))));refine CW.condT rfl ?_
   refine Sr fun _ kh12 => za rfl (za rfl (zz (kh12 ?_)));refine zr (zr2 rfl rfl rfl ?_);have h0 : val l = 0 := by omega
   rw [shiftN_out (.inl h0), wd_zero, ← hA];exact ⟨.inl ⟨⟨by omega, .inl h0⟩, _, rfl, NU.nil⟩, hch⟩
  ·refine zw rfl (zm rfl (zw rfl (zm rfl (zw rfl ?_))));refine WL.call hasF109 rfl rfl (Len_spec _ _ _ hN1) fun v w2 h' => ?_
   obtain ⟨rfl, rfl⟩ := h';rw [hvA];refine zw rfl ?_;refine WL.ev (Ev.negIn rfl (by omega)) rfl ?_;refine zw rfl ?_;refine WL.ev (Ev.leq rfl rfl) rfl ?_;refine ze rfl rfl (za rfl (zz (kh10 ?_)));refine zy rfl ?_ ?_<;>intro hc3<;>try simp only [qs] at hc3
   ·refine Sr fun _ kh14 => za rfl (za rfl (zz (kh14 ?_)));refine zr (zr2 rfl rfl rfl ?_);rw [shiftN_out (.inr (by omega)), wd_zero, ← hA];exact ⟨.inl ⟨⟨by omega, .inr (by omega)⟩, _, rfl, NU.nil⟩, hch⟩
   ·refine Sr fun _ kh16 => zm rfl ?_
    refine WL.ev (Ev.lss rfl rfl) rfl ?_;refine za rfl (zz (kh16 ?_));refine zy rfl ?_ ?_<;>intro hc4<;>try simp only [qs] at hc4
    ·obtain ⟨q, rfl⟩ : ∃ q : Nat, s = -(q : Int) := ⟨(-s).toNat, by omega⟩
     have hN1d : NU w (.slice (cutAt a1 (q / 32) c1 1) (A.length - q / 32) (c1 - q / 32)) (A.drop (q / 32)) := NU.of_row (by rw [List.map_drop]; exact hr1.cut _ _ (by simp; omega) (by simpa using hcap1)) (hW1.drop _) (by simp; omega) (by simp) (by omega);refine Sr fun _ kh18 => zm rfl (zm rfl ?_);refine WL.ev (Ev.negIn rfl (by omega)) rfl ?_;rw [Int.neg_neg];refine WL.ev (Ev.quoU (b := 32) rfl rfl (by omega) (in_i64 (by omega)).2) rfl ?_;refine WL.ev (Ev.sliceLn ((q / 32)) rfl rfl (by omega) (by omega)) rfl ?_;refine zm rfl ?_;refine WL.ev (Ev.negIn rfl (by omega)) rfl ?_;rw [Int.neg_neg];refine WL.ev (Ev.remU (b := 32) rfl rfl (by omega)) rfl ?_;refine WL.call hasF114 rfl rfl (down_spec _ _ _ _ hN1d (by omega)) fun v w3 h' => ?_;obtain ⟨L, hNL, hvL, hC35⟩ := h';have hch := hch.trans hC35;rw [val_drop hW1 _ (by omega), hvA, div_words] at hvL;refine WL.call hasF103 rfl rfl (Norm_spec _ _ _ hNL) fun v w4 h' => ?_;obtain ⟨hNR, hC36⟩ := h';have hch := hch.trans hC36;rw [hvL] at hNR;refine za rfl (za rfl (zz (kh18 ?_)));refine zr (zr2 rfl rfl rfl ?_);rw [shiftN_neg _ _ (by omega), ← hA];exact ⟨.inl ⟨⟨by omega, .inr (by omega)⟩, _, rfl, hNR⟩, hch⟩
    ·obtain ⟨q, rfl⟩ : ∃ q : Nat, s = (q : Int) := ⟨s.toNat, by omega⟩
     refine Sr fun _ kh20 => zm rfl (zm rfl ?_);refine WL.call hasF109 rfl rfl (Len_spec _ _ _ hN1) fun v w5 h' => ?_;obtain ⟨rfl, rfl⟩ := h';rw [hvA]
     first | refine WL.ev (Ev.subIn rfl rfl (by omega)) rfl ?_ | refine WL.ev (Ev.sub rfl rfl) rfl ?_
     refine WL.ev (Ev.gtr rfl rfl) rfl ?_;refine za rfl (zz (kh20 ?_));refine zy rfl ?_ ?_<;>intro hc5<;>try simp only [qs] at hc5
     ·refine Sr fun _ kh22 => za rfl (za rfl (zz (kh22 ?_)));refine zr (zr2 rfl rfl rfl ?_);rw [← hA];exact ⟨.inr ⟨by omega, rfl⟩, hch⟩
     ·refine zkk ?_
      refine kh5 (Sr fun _ kh24 => zm rfl ?_);refine WL.ev (Ev.quoU (b := 32) rfl rfl (by omega) (in_i64 (by omega)).2) rfl ?_;refine zm rfl ?_;refine WL.ev (Ev.quoU (b := 32) rfl rfl (by omega) (in_i64 (by omega)).2) rfl ?_;refine zm rfl (zn rfl ?_);(first | refine zi rfl rfl ?_ | refine zo rfl rfl ?_);(first | refine zi rfl rfl ?_ | refine zo rfl rfl ?_);refine WL.makeU ((q / 32)) ((((q / 32) + (A).length) + 1)) rfl rfl (by omega) (by omega) (by omega) (by omega) (by omega) rfl fun b51 wm51 hb51 hcm51 hge51 => ?_;have hgehch51 := Nat.le_trans hch.size hge51;have hch := hch.ta hcm51;refine za rfl (zz (kh24 (Sr fun _ kh26 => zm rfl (zm rfl (zm rfl ?_)))));refine WL.ev (Ev.remU (b := 32) rfl rfl (by omega)) rfl ?_;refine WL.call hasF115 rfl rfl (up_spec _ _ _ _ (hN1.keep0 hch) (by omega) (by omega)) fun v w6 h' => ?_;obtain ⟨L, hNL, hlL, hvL, hC56⟩ := h';have hch := hch.trans hC56;have hb51 := hb51.k0 hC56;obtain ⟨⟨a2, c2, rfl, hcap2, hr2⟩, hW2, hl2⟩ := hNL;rw [hvA] at hvL;obtain ⟨ad2, rfl⟩ := hr2.some_ (by simp; omega);have hown := own_of_OB (k := q / 32) hb51 (by simp; omega) (by simp; omega);rw [List.length_replicate] at hown;refine WL.append (m := q / 32) (mm := L.length) (news := L.map u32v) (by rfl) (by decide) rfl rfl hown (by simp) (fun j u hu => by obtain ⟨ad3, e3, h3⟩ := hr2 j u hu; cases e3; exact h3) (u32_one _) (by unfold maxLen; omega) (by omega) rfl fun v57 w57 hown2 hcs57 hloc57 => ?_;have hfr57 : ∀ y ∈ (Value.slice (some ⟨b51, 0, none⟩) (q / 32) (q / 32 + A.length + 1)).ownBlock.toList, w.heap.size ≤ y := fun y hy => by
       have hy2 : y = b51 := by simpa [Value.ownBlock] using hy
       subst hy2; assumption
      have hch := hch.step hcs57 (fun y hy => .inr (hfr57 y hy));rw [← List.map_append] at hown2;have hN57 := NU.of_own hown2 (W_append.2 ⟨(W_replicate _).take _, hW2⟩) (by simp; omega);have hv57 : val ((List.replicate (q / 32 + A.length + 1) 0).take (q / 32) ++ L) = val l * 2 ^ q := by
       rw [List.take_replicate, show min (q / 32) (q / 32 + A.length + 1) = q / 32 by omega, val_append, val_replicate, List.length_replicate, hvL, Nat.zero_add, Nat.mul_left_comm, ← Nat.pow_add, show 32 * (q / 32) + q % 32 = q by omega]
      refine WL.call hasF107 rfl rfl (fits_spec _ _ _ hN57) fun v w7 h' => ?_;obtain ⟨h', rfl⟩ := h';rw [hv57] at h';obtain ⟨hfs, r, rfl, hNr⟩ := h'.resolve_right (fun q1 => by
       have q2 := q1.1;have q3 : (wd (val l * 2 ^ q)).length ≤ 8192 := by
        refine bl_words.1 ?_
        by_cases h0 : val l = 0
        · rw [h0]; simp [bl_zero]
        · rw [bl_mul_pow h0]; omega
       omega)
      refine zx rfl rfl (zx rfl rfl (za rfl (za rfl (zz (kh26 ?_)))));refine zr (zr2 rfl rfl rfl ?_);rw [shiftN_pos, ← hA];exact ⟨.inl ⟨⟨by omega, .inr (by omega)⟩, r, rfl, hNr⟩, hch⟩

end

/- Dyads as plain numbers: their form, sums, products. No condition. -/
namespace Wd

theorem eq_of_val {a b : List Nat} (ha : W a) (hb : W b) (hl : a.length = b.length) (hv : val a = val b) : a = b := by
  induction a generalizing b with
  | nil => cases b with
    | nil => rfl
    | cons y b => simp at hl
  | cons x a ih =>
    cases b with
    | nil => simp at hl
    | cons y b =>
      obtain ⟨h1, h2⟩ := W_cons.1 ha
      obtain ⟨h3, h4⟩ := W_cons.1 hb
      simp only [val] at hv
      have e1 : x = y := by omega
      have e2 := ih h2 h4 (by simpa using hl) (by omega)
      rw [e1, e2]
/-- A word moved down, with the next one's low bits over it. -/
theorem low_or {x y s : Nat} (hx : x < 4294967296) (hs : s < 32) : x / 2 ^ s ||| (y * 2 ^ (32 - s) % 4294967296) = (x + y * 4294967296) / 2 ^ s % 4294967296 := by
  have hp := Nat.two_pow_pos s
  have e32 : (4294967296 : Nat) = 2 ^ s * 2 ^ (32 - s) := by rw [← Nat.pow_add, show s + (32 - s) = 32 by omega]
  have e1 : y * 2 ^ (32 - s) % 4294967296 = (y % 2 ^ s) * 2 ^ (32 - s) := by rw [e32, Nat.mul_mod_mul_right]
  have hq : x / 2 ^ s < 2 ^ (32 - s) := by
    rw [Nat.div_lt_iff_lt_mul hp, Nat.mul_comm, ← e32]; exact hx
  have e2 : (x + y * 4294967296) / 2 ^ s = x / 2 ^ s + y * 2 ^ (32 - s) := by
    rw [e32, show y * (2 ^ s * 2 ^ (32 - s)) = 2 ^ s * (y * 2 ^ (32 - s)) by rw [Nat.mul_left_comm], Nat.add_mul_div_left _ _ hp]
  rw [e1, or_of_mul hq, e2]
  have hm : y % 2 ^ s + 1 ≤ 2 ^ s := Nat.mod_lt _ hp
  have hm2 := Nat.mul_le_mul_right (2 ^ (32 - s)) hm
  rw [← e32, Nat.add_mul, Nat.one_mul] at hm2
  have e3 : x / 2 ^ s + y * 2 ^ (32 - s) = (x / 2 ^ s + y % 2 ^ s * 2 ^ (32 - s)) + 4294967296 * (y / 2 ^ s) := by
    have := Nat.mod_add_div y (2 ^ s)
    have e4 : y * 2 ^ (32 - s) = y % 2 ^ s * 2 ^ (32 - s) + 4294967296 * (y / 2 ^ s) := by
      conv => lhs; rw [← this]
      rw [Nat.add_mul, e32]
      simp only [Nat.mul_comm, Nat.mul_left_comm, Nat.mul_assoc]
    omega
  have e5 : (x / 2 ^ s + y * 2 ^ (32 - s)) % 4294967296 = x / 2 ^ s + y % 2 ^ s * 2 ^ (32 - s) := by
    rw [e3, Nat.add_mul_mod_self_left]
    exact Nat.mod_eq_of_lt (by omega)
  exact e5.symm
/-- What is left of words moved down has one word less, or none. -/
theorem lower_words {l L : List Nat} {s : Nat} (hl : W l) (hL : W L) (hlen : L.length = l.length) (hp : 0 < l.length) (hlast : l.getD (l.length - 1) 0 ≠ 0) (hs : s < 32) (hv : val L = val l / 2 ^ s) :
    (L.getD (l.length - 1) 0 ≠ 0 → L = wd (val l / 2 ^ s)) ∧ (L.getD (l.length - 1) 0 = 0 → L.take (l.length - 1) = wd (val l / 2 ^ s)) := by
  refine ⟨fun h => ?_, fun h => ?_⟩
  · rw [← hv]; exact (wd_of_last hL (.inr (by rw [hlen]; exact h))).symm
  · have h1 : val L = val (L.take (l.length - 1)) := by
      have := val_take_succ' L (l.length - 1)
      rw [h, show l.length - 1 + 1 = L.length by omega, List.take_length] at this
      simpa using this
    have h2 : 2 ^ (32 * (l.length - 1)) ≤ val l := by
      have := bl_val hl (List.length_pos_iff.1 hp) hlast
      have hb := bl_pos hlast
      exact lt_bl.1 (by omega)
    refine eq_of_val (hL.take _) (W_wd _) ?_ (by rw [val_wd, ← hv, h1])
    rw [List.length_take, Nat.min_eq_left (by omega)]
    refine Nat.le_antisymm ?_ (wd_length_le.2 ?_)
    · by_cases hk : l.length - 1 = 0
      · omega
      · have h3 : 2 ^ (32 * (l.length - 1 - 1)) ≤ val l / 2 ^ s := by
          rw [Nat.le_div_iff_mul_le (Nat.two_pow_pos s), ← Nat.pow_add]
          exact Nat.le_trans (Nat.pow_le_pow_right (by decide) (by omega)) h2
        have h4 : ¬ (wd (val l / 2 ^ s)).length ≤ l.length - 1 - 1 := by rw [wd_length_le]; omega
        omega
    · rw [← hv, h1]
      have := val_lt (hL.take (l.length - 1))
      rwa [List.length_take, Nat.min_eq_left (by omega)] at this
/-- Mag times two to the power of e, below nought if neg. -/
structure Dy where
  neg : Bool
  m : Nat
  e : Int
def Dy.zero : Dy := ⟨false, 0, 0⟩
/-- The form of a value; none: it may not be. -/
def formD (neg : Bool) (n : Nat) (e : Int) : Option Dy :=
  if n = 0 then some Dy.zero else if 1048576 - (tz n : Int) < e ∨ e < -1048576 - (tz n : Int) ∨ 8192 < (wd (n / 2 ^ tz n)).length then none else some ⟨neg, n / 2 ^ tz n, e + tz n⟩
theorem formD_zero (neg : Bool) (e : Int) : formD neg 0 e = some Dy.zero := by simp [formD]
theorem formD_none {neg : Bool} {n : Nat} {e : Int} (h0 : n ≠ 0) (h : 1048576 - (tz n : Int) < e ∨ e < -1048576 - (tz n : Int) ∨ 8192 < (wd (n / 2 ^ tz n)).length) : formD neg n e = none := by
  unfold formD; rw [if_neg h0, if_pos h]
theorem formD_some {neg : Bool} {n : Nat} {e : Int} (h0 : n ≠ 0) (h : ¬ (1048576 - (tz n : Int) < e ∨ e < -1048576 - (tz n : Int) ∨ 8192 < (wd (n / 2 ^ tz n)).length)) : formD neg n e = some ⟨neg, n / 2 ^ tz n, e + tz n⟩ := by
  unfold formD; rw [if_neg h0, if_neg h]
/-- A dyad in its form. -/
structure Dy.ok (d : Dy) : Prop where
  z : d.m = 0 → d = Dy.zero
  odd : d.m ≠ 0 → d.m % 2 = 1
  len : (wd d.m).length ≤ 8192
  e : -1048576 ≤ d.e ∧ d.e ≤ 1048576
theorem formD_ok {neg : Bool} {n : Nat} {e : Int} {d : Dy} (h : formD neg n e = some d) : d.ok := by
  unfold formD at h
  split at h
  · cases h; exact ⟨fun _ => rfl, fun h => absurd rfl h, by simp [Dy.zero, wd_zero], by simp [Dy.zero]⟩
  · split at h
    · cases h
    · rename_i h0 h1
      cases h
      obtain ⟨a, b⟩ := tz_spec h0
      refine ⟨fun hz => ?_, fun _ => a, by simpa using (by omega : (wd (n / 2 ^ tz n)).length ≤ 8192), by simp; omega⟩
      simp only at hz
      rw [hz] at a; simp at a
theorem formD_self {d : Dy} (h : d.ok) : formD d.neg d.m d.e = some d := by
  by_cases h0 : d.m = 0
  · rw [h.z h0]; rfl
  · have ho := h.odd h0
    have ht := tz_odd ho
    have he := h.e
    have hl := h.len
    rw [formD_some h0 (by rw [ht]; simp; omega), ht]
    simp
/-- The sum of two forms. -/
def addD (x y : Dy) : Option Dy :=
  if x.m = 0 then some y else if y.m = 0 then some x else
  if 8192 < (wd (x.m * 2 ^ (x.e - min x.e y.e).toNat)).length ∨ 8192 < (wd (y.m * 2 ^ (y.e - min x.e y.e).toNat)).length then none
  else if x.neg = y.neg then formD x.neg (x.m * 2 ^ (x.e - min x.e y.e).toNat + y.m * 2 ^ (y.e - min x.e y.e).toNat) (min x.e y.e)
  else if x.m * 2 ^ (x.e - min x.e y.e).toNat < y.m * 2 ^ (y.e - min x.e y.e).toNat then formD y.neg (y.m * 2 ^ (y.e - min x.e y.e).toNat - x.m * 2 ^ (x.e - min x.e y.e).toNat) (min x.e y.e)
  else formD x.neg (x.m * 2 ^ (x.e - min x.e y.e).toNat - y.m * 2 ^ (y.e - min x.e y.e).toNat) (min x.e y.e)
def mulD (x y : Dy) : Option Dy := if 8192 < (wd (x.m * y.m)).length then none else formD (x.neg != y.neg) (x.m * y.m) (x.e + y.e)
/-- Two values, both in their forms, put together. -/
def both2 (f : Dy → Dy → Option Dy) (a b : Option Dy) : Option Dy :=
  match a, b with
  | some x, some y => f x y
  | _, _ => none
theorem both2_none_right {f : Dy → Dy → Option Dy} {a : Option Dy} : both2 f a none = none := by cases a <;> rfl
end Wd

/- Package dyad: forms. No condition. -/
section
open Go Sx Wd

theorem lower_spec (v : Value) (l : List Nat) (s : Nat) (w : World) (h : NU w v l) (hs : s < 32) (hp : 0 < l.length) (hlast : l.getD (l.length - 1) 0 ≠ 0) : Ret Tryz.prog 105 [v, .int .i64 (s : Int)] w fun u w' => NU w' u (wd (val l / 2 ^ s)) ∧ Chg [] w w' := by
  obtain ⟨⟨al, cl, rfl, hcapl, hrl⟩, hWl, hll⟩ := h;have hch : Chg [] w w := Chg.refl _ _;refine zE2 Tryz.func105 rfl ?_;refine Sr fun _ kh1 => za rfl (zz (kh1 (Sr fun _ kh3 => zm rfl (zn rfl ?_))));refine WL.makeU ((l).length) ((l).length) rfl rfl (by omega) (by omega) (by omega) (by omega) (by omega) rfl fun b11 wm11 hb11 hcm11 hge11 => ?_;have hgehch11 := Nat.le_trans hch.size hge11;have hch := hch.trans hcm11;refine za rfl (zz (kh3 (zc fun _ kh5 => Sr fun _ kh6 => zm rfl (zn rfl (zm rfl (zz (kh6 ?_)))))));refine CW.block ?_;refine CW.loop (S := fun g : Nat × List Nat => [(0, .slice al l.length cl), (1, .int .i64 (s : Int)), (5, .slice (some ⟨b11, 0, none⟩) l.length l.length), (12, .slice al l.length cl), (13, .int .i64 (l.length : Int)), (14, .int .i64 (g.1 : Int))]) (Inv := KD l s w b11) (mu := fun g => l.length - g.1) ((0, List.replicate l.length 0)) ?_ ?_ ?_
  · exact ⟨DownI.zero l _ s (by simp) (W_replicate _), hb11, hch⟩
  · exact SLp
  · rintro ⟨i, L⟩ wr ⟨hAd, hb11, hch⟩;dsimp only at hAd hb11 hch;have hiX := hAd.le;have hLl := hAd.len;have hWL := hAd.w;refine Sr fun _ kh8 => ?_;refine WL.ev (Ev.lss rfl rfl) rfl ?_;refine zz (kh8 (zc fun _ kh10 => ?_));refine zy rfl ?_ ?_<;>intro hc1<;>try simp only [qs] at hc1
    · refine zkk ?_
      refine kh10 (zc fun _ kh11 => ?_);refine CW.block ?_;refine Sr fun _ kh12 => zm rfl ?_;refine WL.ev (Ev.ixR (i) rfl rfl (hrl.keep0 hch) (by omega) (by omega) (by simp; omega)) rfl ?_;refine WL.ev (Ev.load rfl rfl ((hrl.keep0 hch).u32 (by first | omega | (simp; omega)))) rfl ?_;have hw18 := hWl.getD (i);refine za rfl (za rfl (zz (kh12 (Sr fun _ kh14 => zm rfl (zm rfl (zm rfl (zm rfl ?_)))))));refine WL.ev (Ev.shrU rfl rfl (by simp only [IntKind.bits]; omega)) rfl ?_;have hdl : l.getD i 0 / 2 ^ s ≤ l.getD i 0 := Nat.div_le_self _ _;refine WL.ev (Ev.ixB (i) rfl rfl (by omega) (by omega)) rfl ?_;refine WL.storeU rfl rfl hb11 (by first | omega | (simp; omega)) fun ws1 hb11_ hcs1 => ?_;have hch := hch.step hcs1 (fun y hy => .inr (by simp only [List.mem_singleton] at hy; subst hy; first | assumption | omega));have hb11 := hb11_;refine zz (kh14 ?_);refine CW.seqM 33 (decide (0 < s ∧ i + 1 < l.length)) ?_ ?_
      · refine zR fun _ kr16 => ?_;refine zm rfl ?_;refine WL.ev (Ev.gtr rfl rfl) rfl ?_;refine zm rfl ?_;refine zb ?_ ?_<;>intro hg2<;>try simp only [qs] at hg2
        · refine zw rfl (zm rfl (zw rfl ?_));(first | refine zi rfl rfl ?_ | refine zo rfl rfl ?_);refine zw rfl (zm rfl (zw rfl (zn rfl (zw rfl ?_))));refine WL.ev (Ev.lss rfl rfl) rfl ?_
          refine zt rfl rfl ?_;refine WL.nil (kr16 _ _ _ ?_);refine ⟨rfl, rfl, Subs.consB rfl ?_ ?_⟩
          · first | (simp; omega) | (refine decide_eq_decide.2 ?_; omega)
          · exact SMg
        · refine zv rfl (zv rfl (zv rfl (zv rfl (zv rfl (ze rfl rfl ?_)))));refine WL.nil (kr16 _ _ _ ?_);refine ⟨rfl, rfl, Subs.consB rfl ?_ ?_⟩
          · first | (simp; omega) | (refine decide_eq_decide.2 ?_; omega)
          · exact SMg
      · refine zy rfl ?_ ?_<;>intro hc3<;>try simp only [qs] at hc3
        · refine CW.regionKC 14 15 rfl hmix fun kR17 kr17 hS hdr => ?_
          have hch := hch.trans hdr;have hb11 := hb11.k0 hdr;have hch_r := hch;have hb11_r := hb11;refine wk 0 rfl hS (fun _ _ => Ev.move rfl) (wk 1 rfl hS (fun _ _ => Ev.move rfl) (wk 2 rfl hS (fun _ _ => Ev.ixB (i) rfl rfl (by omega) (by omega)) (wk 3 rfl hS (fun _ hw' => Ev.load rfl rfl ((hb11_r.keep0 hw').u32 (by simp; omega))) ?_)));rw [getD_set_self (by omega)];refine wk 4 rfl hS (fun _ _ => Ev.move rfl) (wk 5 rfl hS (fun _ _ => Ev.move rfl) (wk 6 rfl hS (fun _ _ => Ev.addIn rfl rfl (by omega)) (wk 7 rfl hS (fun _ hw' => Ev.ixR ((i + 1)) rfl rfl (hrl.keep0 (hch_r.trans hw')) (by omega) (by omega) (by simp; omega)) (wk 8 rfl hS (fun _ hw' => Ev.load rfl rfl ((hrl.keep0 (hch_r.trans hw')).u32 (by first | omega | (simp; omega)))) ?_))));have hw42 := hWl.getD ((i + 1));refine wk 9 rfl hS (fun _ _ => Ev.move rfl) (wk 10 rfl hS (fun _ _ => Ev.subIn rfl rfl (by omega)) ?_);rw [show (32 : Int) - (s : Int) = ((32 - s : Nat) : Int) by omega];refine wk 11 rfl hS (fun _ _ => Ev.shlU32 rfl rfl) (wk 12 rfl hS (fun _ _ => Ev.orU rfl rfl rfl (by simp only [IntKind.bits]; omega) (by simp only [IntKind.bits]; omega)) ?_);rw [low_or (hWl.getD i) hs];refine wk 13 rfl hS (fun _ _ => Ev.ixB (i) rfl rfl (by omega) (by omega)) ?_;refine WK.storeU 14 rfl (by kernel_rfl) (by kernel_rfl) rfl rfl hb11 (by first | omega | (simp; omega)) fun ws2 hb11_ hcs2 => ?_;have hch := hch.step hcs2 (fun y hy => .inr (by simp only [List.mem_singleton] at hy; subst hy; first | assumption | omega));have hb11 := hb11_;refine WK.done (by kernel_rfl) (kr17 _ _ _ ?_);refine kh11 ?_;refine zR fun _ kr18 => ?_;(first | refine zi rfl rfl ?_ | refine zo rfl rfl ?_);refine zm rfl ?_;refine WL.nil (kr18 _ _ _ ?_);refine ⟨rfl, (i + 1, L.set i ((l.getD i 0 + l.getD (i + 1) 0 * 4294967296) / 2 ^ s % 4294967296)), ?_, ?_, ?_⟩
          · exact SLp
          · rw [List.set_set] at hb11;exact ⟨hAd.step hs hWl (by omega) rfl, hb11, hch⟩
          · show l.length - (i + 1) < l.length - i; omega
        · have hfin : l.getD i 0 / 2 ^ s = (l.getD i 0 + l.getD (i + 1) 0 * 4294967296) / 2 ^ s % 4294967296 := by
            by_cases q0 : i + 1 < l.length
            · have : s = 0 := by omega
              subst this; rw [Nat.pow_zero, Nat.div_one, Nat.div_one]; omega
            · rw [getD_out (i := i + 1) (by omega), Nat.zero_mul, Nat.add_zero, Nat.mod_eq_of_lt (by omega)]
          refine zkk ?_;refine kh11 ?_;refine zR fun _ kr19 => ?_;(first | refine zi rfl rfl ?_ | refine zo rfl rfl ?_);refine zm rfl ?_;refine WL.nil (kr19 _ _ _ ?_);refine ⟨rfl, (i + 1, L.set i ((l.getD i 0 + l.getD (i + 1) 0 * 4294967296) / 2 ^ s % 4294967296)), ?_, ?_, ?_⟩
          · exact SLp
          · rw [hfin] at hb11;exact ⟨hAd.step hs hWl (by omega) rfl, hb11, hch⟩
          · show l.length - (i + 1) < l.length - i; omega
    · refine CW.exit ?_
      refine kh5 (zc fun _ kh20 => zc fun _ kh21 => ?_);have hiX2 : i = l.length := by omega
      subst hiX2;have hvL := hAd.done hWl;have hlw := lower_words hWl hWL hLl hp hlast hs hvL;refine zR fun _ kr22 => ?_;refine zm rfl (zn rfl ?_)
      first | refine WL.ev (Ev.subIn rfl rfl (by omega)) rfl ?_ | refine WL.ev (Ev.sub rfl rfl) rfl ?_
      refine za rfl ?_;refine WL.nil (kr22 _ _ _ (kh21 ?_));refine Sr fun _ kh23 => zm rfl (zm rfl ?_);refine WL.ev (Ev.ixB ((l.length - 1)) rfl rfl (by omega) (by omega)) rfl ?_;refine WL.ev (Ev.load rfl rfl (hb11.u32 (by first | omega | (simp; omega)))) rfl ?_;have hw55 := hWL.getD ((l.length - 1));refine zq rfl rfl (zz (kh23 ?_));refine zy rfl ?_ ?_<;>intro hc4<;>try simp only [qs] at hc4
      · refine zR fun _ kr25 => ?_
        refine zm rfl (zm rfl (zm rfl ?_));refine WL.ev (Ev.slice3n ((l.length - 1)) ((l.length - 1)) rfl rfl rfl (by omega) (by omega) (by omega) (by omega)) rfl ?_;refine za rfl ?_;refine WL.nil (kr25 _ _ _ (kh20 ?_));refine Sr fun _ kh26 => zm rfl (za rfl (zz (kh26 ?_)));refine zr (zr1 rfl rfl ?_);rw [← hlw.2 (by omega)];exact ⟨NU.part hb11.row hWL (by omega) (by omega) (Nat.le_refl _), hch⟩
      · refine zkk ?_
        refine kh20 (Sr fun _ kh28 => zm rfl (za rfl (zz (kh28 ?_))));refine zr (zr1 rfl rfl ?_);rw [← hlw.1 (by omega)];exact ⟨NU.of_block hb11 hWL (by omega) (by omega) (Nat.le_refl _), hch⟩

/-- A value that is the dyad d. -/
structure DY (w : World) (u : Value) (d : Dy) : Prop where
  ex : ∃ r, u = .agg [.bool d.neg, r, .int .i64 d.e].toArray ∧ NU w r (wd d.m)
/-- A dyad's answer, or none. -/
def DR (w : World) (u : Value) (x : Option Dy) : Prop := (∃ r d, x = some d ∧ u = .tuple [.agg [.bool d.neg, r, .int .i64 d.e].toArray, .int .i64 0].toArray ∧ NU w r (wd d.m)) ∨ (x = none ∧ u = .tuple [.agg [.bool false, .slice none 0 0, .int .i64 0].toArray, .int .i64 2].toArray)
theorem form_spec (neg : Bool) (v : Value) (l : List Nat) (e : Int) (w : World) (h : NU w v l) (hg : GW w) (he : -9223372036854775808 ≤ e ∧ e ≤ 9223372036854775807) : Ret Tryz.prog 68 [.bool neg, v, .int .i64 e] w fun u w' => DR w' u (formD neg (val l) e) ∧ Chg [] w w' := by
 obtain ⟨A, hA⟩ : ∃ A, A = wd (val l) := ⟨_, rfl⟩;have hvA : val A = val l := by rw [hA]; exact val_wd _
 have hch : Chg [] w w := Chg.refl _ _;refine zE3 Tryz.func68 rfl ?_;refine Sr fun _ kh1 => ?_;refine WL.allocB (l := [.bool false, .slice none 0 0, .int .i64 0]) rfl rfl fun b6 wm6 hb6 hcm6 hge6 => ?_;have hgehch6 := Nat.le_trans hch.size hge6;have hch := hch.trans hcm6;refine za rfl (zz (kh1 (Sr fun _ kh3 => zm rfl ?_)));refine WL.call hasF103 rfl rfl (Norm_spec _ _ _ (h.keep0 hch)) fun v w1 h' => ?_;obtain ⟨hN1, hC11⟩ := h';rw [← hA] at hN1;have hN1d := hN1;obtain ⟨⟨a1, c1, rfl, hcap1, hr1⟩, hW1, hl1⟩ := hN1d;have hch := hch.trans hC11;have hb6 := hb6.k0 hC11;refine za rfl (zz (kh3 (zc fun _ kh5 => Sr fun _ kh6 => zm rfl (zn rfl (zq rfl rfl (zz (kh6 ?_)))))));refine zy rfl ?_ ?_<;>intro hc1<;>try simp only [qs] at hc1
 ·refine Sr fun _ kh8 => ?_
  refine WL.ev (Ev.build (vs := _) (cs := [_, _, _]) rfl rfl) rfl ?_;refine zss rfl rfl ao hb6 rfl fun ws3 hb6_ hcs3 => ?_;(try simp only [Sx.splice, qt] at hb6_);have hch := hch.step hcs3 (fun y hy => .inr (by simp only [List.mem_singleton] at hy; subst hy; first | assumption | omega));have hb6 := hb6_;refine za rfl (zz (kh8 ?_));refine zr (bodyA.retR2 rfl (RVal.cell rfl (hb6.varA rfl rfl)) (RVal.tmp rfl) ?_);have hv0 : val l = 0 := by rw [← hvA, List.length_eq_zero_iff.1 (show A.length = 0 by omega)]; rfl
  rw [hv0, formD_zero];exact ⟨.inl ⟨_, _, rfl, rfl, by rw [show Dy.zero.m = 0 from rfl, wd_zero]; exact NU.nil⟩, hch⟩
 ·have hn0 : val l ≠ 0 := fun e0 => by rw [e0, wd_zero] at hA; rw [hA] at hc1; exact hc1 rfl
  have hAl : A.getD (A.length - 1) 0 ≠ 0 := by rw [hA]; exact wd_last hn0
  obtain ⟨q, hq⟩ : ∃ q, q = tz (val l) := ⟨_, rfl⟩;have hqb := tz_lt_bl hn0;have hbA : bl (val l) ≤ 32 * A.length := by rw [bl_words, ← hA]; exact Nat.le_refl _
  rw [← hq] at hqb;refine zkk ?_;refine kh5 (Sr fun _ kh10 => zm rfl ?_);refine WL.call hasF104 rfl rfl (Low_spec _ _ _ hN1 (hg.keep0 hch)) fun v w2 h' => ?_;obtain ⟨rfl, rfl⟩ := h';rw [hvA, ← hq];refine za rfl (zz (kh10 (Sr fun _ kh12 => zm rfl (zm rfl ?_))));refine WL.ev (Ev.quoU (b := 32) rfl rfl (by omega) (in_i64 (by omega)).2) rfl ?_;refine WL.ev (Ev.sliceLn ((q / 32)) rfl rfl (by omega) (by omega)) rfl ?_;refine zm rfl ?_;refine WL.ev (Ev.remU (b := 32) rfl rfl (by omega)) rfl ?_;refine WL.call hasF105 rfl rfl (lower_spec _ (A.drop (q / 32)) (q % 32) _ (NU.of_row (by rw [List.map_drop]; exact hr1.cut _ _ (by simp; omega) (by simpa using hcap1)) (hW1.drop _) (by simp; omega) (by simp) (by omega)) (by omega) (by simp; omega) (by rw [List.length_drop, List.getD_eq_getElem?_getD, List.getElem?_drop, ← List.getD_eq_getElem?_getD, show q / 32 + (A.length - q / 32 - 1) = A.length - 1 by omega]; exact hAl)) fun v w3 h' => ?_;obtain ⟨hN2, hC24⟩ := h';rw [val_drop hW1 _ (by omega), hvA, div_words] at hN2;obtain ⟨B, hB⟩ : ∃ B, B = wd (val l / 2 ^ q) := ⟨_, rfl⟩;rw [← hB] at hN2;have hN2d := hN2;obtain ⟨⟨a2, c2, rfl, hcap2, hr2⟩, hW2, hl2⟩ := hN2d;have hch := hch.trans hC24;have hb6 := hb6.k0 hC24;refine za rfl (zz (kh12 (zc fun _ kh14 => ?_)));refine CW.seqM 39 (decide ((1048576 - (q : Int) < e ∨ e < -1048576 - (q : Int)) ∨ 8192 < B.length)) ?_ ?_
  ·refine zR fun _ kr15 => ?_;refine zm rfl (zm rfl ?_);refine WL.ev (Ev.subIn rfl rfl (by omega)) rfl ?_;refine WL.ev (Ev.gtr rfl rfl) rfl ?_;refine zm rfl ?_;refine zb ?_ ?_<;>intro hg2<;>try simp only [qs] at hg2
   ·refine zv rfl (zv rfl (zv rfl (zv rfl (zt rfl rfl (zm rfl (zv rfl (zv rfl (zv rfl (zt rfl rfl ?_)))))))));refine WL.nil (kr15 _ _ _ ?_);refine ⟨rfl, rfl, Subs.consB rfl ?_ ?_⟩
    ·first | (simp; omega) | (refine decide_eq_decide.2 ?_; omega)
    ·exact SMg
   ·refine zw rfl (zm rfl (zw rfl (zm rfl (zw rfl ?_))))
    first | refine WL.ev (Ev.subIn rfl rfl (by omega)) rfl ?_ | refine WL.ev (Ev.sub rfl rfl) rfl ?_
    refine zw rfl ?_;refine WL.ev (Ev.lss rfl rfl) rfl ?_;refine ze rfl rfl (zm rfl ?_);refine zb ?_ ?_<;>intro hg3<;>try simp only [qs] at hg3
    ·refine zv rfl (zv rfl (zv rfl (zt rfl rfl ?_)));refine WL.nil (kr15 _ _ _ ?_);refine ⟨rfl, rfl, Subs.consB rfl ?_ ?_⟩
     ·first | (simp; omega) | (refine decide_eq_decide.2 ?_; omega)
     ·exact SMg
    ·refine zw rfl (zm rfl (zw rfl (zn rfl (zw rfl ?_))));refine WL.ev (Ev.gtr rfl rfl) rfl ?_
     refine ze rfl rfl ?_;refine WL.nil (kr15 _ _ _ ?_);refine ⟨rfl, rfl, Subs.consB rfl ?_ ?_⟩
     ·first | (simp; omega) | (refine decide_eq_decide.2 ?_; omega)
     ·exact SMg
  ·refine zy rfl ?_ ?_<;>intro hc4<;>try simp only [qs] at hc4
   ·refine Sr fun _ kh16 => ?_
    refine WL.ev (Ev.build (vs := _) (cs := [_, _, _]) rfl rfl) rfl ?_;refine zss rfl rfl ao hb6 rfl fun ws4 hb6_ hcs4 => ?_;(try simp only [Sx.splice, qt] at hb6_);have hch := hch.step hcs4 (fun y hy => .inr (by simp only [List.mem_singleton] at hy; subst hy; first | assumption | omega));have hb6 := hb6_;refine za rfl (zz (kh16 ?_));refine zr (bodyA.retR2 rfl (RVal.cell rfl (hb6.varA rfl rfl)) (RVal.tmp rfl) ?_);rw [formD_none hn0 (by rw [← hq, ← hB]; omega)];exact ⟨.inr ⟨rfl, rfl⟩, hch⟩
   ·refine zkk ?_
    refine kh14 (Sr fun _ kh18 => zm rfl (zm rfl (zm rfl (zm rfl ?_))));(first | refine zi rfl rfl ?_ | refine zo rfl rfl ?_);refine WL.ev (Ev.build (vs := _) (cs := [_, _, _]) rfl rfl) rfl ?_;refine zss rfl rfl ao hb6 rfl fun ws5 hb6_ hcs5 => ?_;(try simp only [Sx.splice, qt] at hb6_);have hch := hch.step hcs5 (fun y hy => .inr (by simp only [List.mem_singleton] at hy; subst hy; first | assumption | omega));have hN2 := hN2.keepBK hb6 hcs5 an;have hb6 := hb6_;refine za rfl (zz (kh18 ?_));refine zr (bodyA.retR2 rfl (RVal.cell rfl (hb6.varA rfl rfl)) (RVal.tmp rfl) ?_);rw [formD_some hn0 (by rw [← hq, ← hB]; omega), ← hq];refine ⟨.inl ⟨_, _, rfl, rfl, ?_⟩, hch⟩;simp only;rw [← hB];exact hN2

end

/- Package dyad: Make, Int, sums. No condition. -/
section
open Go Sx Wd

theorem formD_int {n : Nat} {neg : Bool} (h : n < 18446744073709551616) : ∃ d, formD neg n 0 = some d := by
  by_cases h0 : n = 0
  · exact ⟨_, by rw [h0]; exact formD_zero _ _⟩
  · have h1 := tz_lt_bl h0
    have h2 := bl_le (n := n) (k := 64)
    have h3 : n / 2 ^ tz n ≤ n := Nat.div_le_self _ _
    have h4 := wd_length_le (n := n / 2 ^ tz n) (k := 2)
    have h5 : (wd (n / 2 ^ tz n)).length ≤ 2 := h4.2 (Nat.lt_of_le_of_lt h3 h)
    have h6 : bl n ≤ 64 := h2.2 h
    exact ⟨_, formD_some h0 (by omega)⟩
/-- A whole number as a dyad. -/
def intD (n : Int) : Dy := ((formD (decide (n < 0)) n.natAbs 0).getD Dy.zero)
theorem intD_eq {n : Int} (h : n.natAbs < 18446744073709551616) : formD (decide (n < 0)) n.natAbs 0 = some (intD n) := by
  obtain ⟨d, hd⟩ := formD_int (neg := decide (n < 0)) h
  unfold intD; rw [hd]; rfl

theorem Int_spec (n : Int) (w : World) (hg : GW w) (hn : -9223372036854775808 ≤ n ∧ n ≤ 9223372036854775807) : Ret Tryz.prog 80 [.int .i64 n] w fun u w' => DY w' u (intD n) ∧ Chg [] w w' := by
 have hch : Chg [] w w := Chg.refl _ _;refine zE1 Tryz.func80 rfl ?_;refine Sr fun _ kh1 => ?_;refine WL.allocB (l := [.bool false, .slice none 0 0, .int .i64 0]) rfl rfl fun b2 wm2 hb2 hcm2 hge2 => ?_;have hgehch2 := Nat.le_trans hch.size hge2;have hch := hch.trans hcm2;refine zz (kh1 (Sr fun _ kh3 => zm rfl ?_));refine WL.ev (Ev.conv rfl rfl) rfl ?_;rw [wrap_u64i];refine za rfl (zz (kh3 (zc fun _ kh5 => Sr fun _ kh6 => zm rfl ?_)));refine WL.ev (Ev.lss rfl rfl) rfl ?_;refine zz (kh6 ?_);refine zy rfl ?_ ?_<;>intro hc1<;>try simp only [qs] at hc1
 ·refine zR fun _ kr8 => ?_
  refine zm rfl ?_;refine WL.ev (Ev.neg rfl) rfl ?_;rw [wrap_u64i, show (0 - n % 18446744073709551616) % 18446744073709551616 = ((n.natAbs : Nat) : Int) by omega];have hab : n.natAbs = n.natAbs := rfl;refine za rfl ?_;refine WL.nil (kr8 _ _ _ (kh5 ?_));refine Sr fun _ kh9 => zm rfl ?_;refine WL.ev (Ev.lss rfl rfl) rfl ?_;refine zm rfl ?_;refine WL.call hasF69 rfl rfl (Of_spec n.natAbs _ (by omega)) fun v w1 h' => ?_;obtain ⟨hN16, hC16⟩ := h';have hch := hch.trans hC16;have hb2 := hb2.k0 hC16;refine WL.call hasF68 rfl rfl (form_spec _ _ _ 0 _ hN16 (hg.keep0 hch) (by omega)) fun v w2 h' => ?_;obtain ⟨hD, hC17⟩ := h';rw [val_wd, hab, intD_eq (by omega)] at hD;rcases hD with ⟨r, d, hd, rfl, hNr⟩ | ⟨hd, rfl⟩
  rotate_left
  · cases hd
  cases hd;have hch := hch.trans hC17;have hb2 := hb2.k0 hC17;refine zm rfl (zx rfl rfl (zx rfl rfl ?_));refine WL.allocB (l := [.bool false, .slice none 0 0, .int .i64 0]) rfl rfl fun b4 wm4 hb4 hcm4 hge4 => ?_;have hgehch4 := Nat.le_trans hch.size hge4;have hch := hch.trans hcm4;have hNr := hNr.keep0 hcm4;have hneb24 := zdd hb2.lt hge4;have hb2 := hb2.k0 hcm4;refine zss rfl rfl ao hb4 rfl fun ws8 hb4_ hcs8 => ?_;(try simp only [Sx.splice, qt] at hb4_);have hch := hch.step hcs8 (fun y hy => .inr (by simp only [List.mem_singleton] at hy; subst hy; first | assumption | omega));have hb2 := hb2.kq hcs8;have hNr := hNr.keepBK hb4 hcs8 an;have hb4 := hb4_;refine za rfl (zz (kh9 (Sr fun _ kh11 => zg hb4 rfl ?_)));refine zss rfl rfl ao hb2 rfl fun ws9 hb2_ hcs9 => ?_;(try simp only [Sx.splice, qt] at hb2_);have hch := hch.step hcs9 (fun y hy => .inr (by simp only [List.mem_singleton] at hy; subst hy; first | assumption | omega));have hNr := hNr.keepBK hb2 hcs9 an;have hb2 := hb2_;refine zz (kh11 ?_);refine zr (bodyA.retR1 rfl (RVal.cell rfl (hb2.varA rfl rfl)) ?_);exact ⟨⟨⟨_, rfl, hNr⟩⟩, hch⟩
 ·rw [show n % 18446744073709551616 = ((n.natAbs : Nat) : Int) by omega]
  have hab : n.natAbs = n.natAbs := rfl;refine zkk ?_;refine kh5 (Sr fun _ kh13 => zm rfl ?_);refine WL.ev (Ev.lss rfl rfl) rfl ?_;refine zm rfl ?_;refine WL.call hasF69 rfl rfl (Of_spec n.natAbs _ (by omega)) fun v w3 h' => ?_;obtain ⟨hN16, hC16⟩ := h';have hch := hch.trans hC16;have hb2 := hb2.k0 hC16;refine WL.call hasF68 rfl rfl (form_spec _ _ _ 0 _ hN16 (hg.keep0 hch) (by omega)) fun v w4 h' => ?_;obtain ⟨hD, hC17⟩ := h';rw [val_wd, hab, intD_eq (by omega)] at hD;rcases hD with ⟨r, d, hd, rfl, hNr⟩ | ⟨hd, rfl⟩
  rotate_left
  · cases hd
  cases hd;have hch := hch.trans hC17;have hb2 := hb2.k0 hC17;refine zm rfl (zx rfl rfl (zx rfl rfl ?_));refine WL.allocB (l := [.bool false, .slice none 0 0, .int .i64 0]) rfl rfl fun b4 wm4 hb4 hcm4 hge4 => ?_;have hgehch4 := Nat.le_trans hch.size hge4;have hch := hch.trans hcm4;have hNr := hNr.keep0 hcm4;have hneb24 := zdd hb2.lt hge4;have hb2 := hb2.k0 hcm4;refine zss rfl rfl ao hb4 rfl fun ws10 hb4_ hcs10 => ?_;(try simp only [Sx.splice, qt] at hb4_);have hch := hch.step hcs10 (fun y hy => .inr (by simp only [List.mem_singleton] at hy; subst hy; first | assumption | omega));have hb2 := hb2.kq hcs10;have hNr := hNr.keepBK hb4 hcs10 an;have hb4 := hb4_;refine za rfl (zz (kh13 (Sr fun _ kh15 => zg hb4 rfl ?_)));refine zss rfl rfl ao hb2 rfl fun ws11 hb2_ hcs11 => ?_;(try simp only [Sx.splice, qt] at hb2_);have hch := hch.step hcs11 (fun y hy => .inr (by simp only [List.mem_singleton] at hy; subst hy; first | assumption | omega));have hNr := hNr.keepBK hb2 hcs11 an;have hb2 := hb2_;refine zz (kh15 ?_);refine zr (bodyA.retR1 rfl (RVal.cell rfl (hb2.varA rfl rfl)) ?_);exact ⟨⟨⟨_, rfl, hNr⟩⟩, hch⟩

end

/- Package dyad: sums, products. No condition. -/
section
open Go Sx Wd

/-- The forms of two, or an error beside whatever. -/
def BR (w : World) (u : Value) (a b : Option Dy) : Prop :=
  (∃ x y rx ry, a = some x ∧ b = some y ∧ u = .tuple [.agg [.bool x.neg, rx, .int .i64 x.e].toArray, .agg [.bool y.neg, ry, .int .i64 y.e].toArray, .int .i64 0].toArray ∧ NU w rx (wd x.m) ∧ NU w ry (wd y.m)) ∨
  ((a = none ∨ b = none) ∧ ∃ n1 v1 e1 n2 v2 e2, u = .tuple [.agg [.bool n1, v1, .int .i64 e1].toArray, .agg [.bool n2, v2, .int .i64 e2].toArray, .int .i64 2].toArray ∧ v1.oneCell' = true ∧ v2.oneCell' = true)

theorem dboth_spec (na nb : Bool) (va vb : Value) (la lb : List Nat) (ea eb : Int) (w : World) (ha : NU w va la) (hb : NU w vb lb) (hg : GW w) (hea : -9223372036854775808 ≤ ea ∧ ea ≤ 9223372036854775807) (heb : -9223372036854775808 ≤ eb ∧ eb ≤ 9223372036854775807) : Ret Tryz.prog 70 [.agg [.bool na, va, .int .i64 ea].toArray, .agg [.bool nb, vb, .int .i64 eb].toArray] w fun u w' => BR w' u (formD na (val la) ea) (formD nb (val lb) eb) ∧ Chg [] w w' := by
 have hch : Chg [] w w := Chg.refl _ _;have hoa := ha.one;have hob := hb.one;refine zE2 Tryz.func70 rfl ?_;refine Sr fun _ kh1 => ?_;refine WL.boxB rfl rfl rfl fun b2 wm2 hb2 hcm2 hge2 => ?_;have hgehch2 := Nat.le_trans hch.size hge2;have hch := hch.trans hcm2;have ha := ha.keep0 hcm2;have hb := hb.keep0 hcm2;refine WL.boxB rfl rfl rfl fun b3 wm3 hb3 hcm3 hge3 => ?_;have hgehch3 := Nat.le_trans hch.size hge3;have hch := hch.trans hcm3;have ha := ha.keep0 hcm3;have hb := hb.keep0 hcm3;have hneb23 := zdd hb2.lt hge3;have hb2 := hb2.k0 hcm3;refine WL.allocB (l := [.bool false, .slice none 0 0, .int .i64 0]) rfl rfl fun b4 wm4 hb4 hcm4 hge4 => ?_;have hgehch4 := Nat.le_trans hch.size hge4;have hch := hch.trans hcm4;have ha := ha.keep0 hcm4;have hb := hb.keep0 hcm4;have hneb24 := zdd hb2.lt hge4;have hb2 := hb2.k0 hcm4;have hneb34 := zdd hb3.lt hge4;have hb3 := hb3.k0 hcm4;refine WL.allocB (l := [.bool false, .slice none 0 0, .int .i64 0]) rfl rfl fun b5 wm5 hb5 hcm5 hge5 => ?_;have hgehch5 := Nat.le_trans hch.size hge5;have hch := hch.trans hcm5;have ha := ha.keep0 hcm5;have hb := hb.keep0 hcm5;have hneb25 := zdd hb2.lt hge5;have hb2 := hb2.k0 hcm5;have hneb35 := zdd hb3.lt hge5;have hb3 := hb3.k0 hcm5;have hneb45 := zdd hb4.lt hge5;have hb4 := hb4.k0 hcm5;refine za rfl (zz (kh1 (Sr fun _ kh3 => zf rfl (zl hb2 rfl rfl (zf rfl (zl hb2 rfl rfl (zf rfl (zl hb2 rfl rfl ?_))))))));refine WL.call hasF68 rfl rfl (form_spec na va la ea _ ha (hg.keep0 hch) hea) fun v w1 h' => ?_;obtain ⟨hD1, hC1⟩ := h';have hch := hch.trans hC1;have hb3 := hb3.k0 hC1;have hb4 := hb4.k0 hC1;have hb5 := hb5.k0 hC1;have hb := hb.keep0 hC1;rcases hD1 with ⟨r1, d1, hd1, rfl, hNr1⟩ | ⟨hd1, rfl⟩
 ·refine zm rfl (zx rfl rfl (zx rfl rfl ?_));refine zss rfl rfl ao hb4 rfl fun ws12 hb4_ hcs12 => ?_;(try simp only [Sx.splice, qt] at hb4_);have hch := hch.step hcs12 (fun y hy => .inr (by simp only [List.mem_singleton] at hy; subst hy; first | assumption | omega));have hb3 := hb3.kq hcs12;have hb5 := hb5.kq hcs12;have hb := hb.keepBK hb4 hcs12 an;have hNr1 := hNr1.keepBK hb4 hcs12 an;have hb4 := hb4_;refine za rfl (zz (kh3 (zc fun _ kh5 => Sr fun _ kh6 => zm rfl (zq rfl rfl (zz (kh6 ?_))))));refine CW.condT rfl ?_;refine zR fun _ kr8 => ?_;refine zf rfl (zl hb3 rfl rfl (zf rfl (zl hb3 rfl rfl (zf rfl (zl hb3 rfl rfl ?_)))));refine WL.call hasF68 rfl rfl (form_spec nb vb lb eb _ hb (hg.keep0 hch) heb) fun v w2 h' => ?_;obtain ⟨hD2, hC2⟩ := h';have hch := hch.trans hC2;have hb4 := hb4.k0 hC2;have hb5 := hb5.k0 hC2;have hNr1 := hNr1.keep0 hC2;rcases hD2 with ⟨r2, d2, hd2, rfl, hNr2⟩ | ⟨hd2, rfl⟩
  ·refine zm rfl (zx rfl rfl (zx rfl rfl ?_));refine zss rfl rfl ao hb5 rfl fun ws13 hb5_ hcs13 => ?_;(try simp only [Sx.splice, qt] at hb5_);have hch := hch.step hcs13 (fun y hy => .inr (by simp only [List.mem_singleton] at hy; subst hy; first | assumption | omega));have hb4 := hb4.kq hcs13;have hNr1 := hNr1.keepBK hb5 hcs13 an;have hNr2 := hNr2.keepBK hb5 hcs13 an;have hb5 := hb5_;refine za rfl ?_;refine WL.nil (kr8 _ _ _ (kh5 ?_));refine zc fun _ kh9 => ?_;refine CW.regionS2 6 hb4 hb5 rfl hmix fun kR10 kr10 hS hdr => ?_;have hch := hch.trans hdr;have hb4 := hb4.k0 hdr;have hb5 := hb5.k0 hdr;have hNr1 := hNr1.keep0 hdr;have hNr2 := hNr2.keep0 hdr;refine wh 0 rfl hS (fun _ hw' => Ev.loadA rfl rfl hw'.1 rfl) (wh 1 rfl hS (fun _ hw' => Ev.loadA rfl rfl hw'.2 rfl) (wh 2 rfl hS (fun _ _ => Ev.move rfl) ?_));refine WH.same1 3 rfl (by kernel_rfl) rfl rfl rfl ao (by omega) hS fun ws14 hS hcs14 => ?_;have hch := hch.step hcs14 (fun y hy => .inr (by simp only [List.mem_singleton] at hy; subst hy; first | assumption | omega));have hNr1 := hNr1.keepBK hb4 hcs14 an;have hNr2 := hNr2.keepBK hb4 hcs14 an;have hb4 := hS.1;have hb5 := hS.2;refine WH.same2 4 rfl (by kernel_rfl) rfl rfl rfl ao (by omega) hS fun ws15 hS hcs15 => ?_;have hch := hch.step hcs15 (fun y hy => .inr (by simp only [List.mem_singleton] at hy; subst hy; first | assumption | omega));have hNr1 := hNr1.keepBK hb5 hcs15 an;have hNr2 := hNr2.keepBK hb5 hcs15 an;have hb4 := hS.1;have hb5 := hS.2;refine wh 5 rfl hS (fun _ _ => Ev.assign rfl) ?_;refine WH.done (by kernel_rfl) (kr10 _ _ _ ?_);refine kh9 ?_;refine zr (bodyA.retR3 rfl (RVal.cell rfl (hb4.varA rfl rfl)) (RVal.cell rfl (hb5.varA rfl rfl)) (RVal.tmp rfl) ?_);exact ⟨.inl ⟨d1, d2, r1, r2, hd1, hd2, rfl, hNr1, hNr2⟩, hch⟩
  ·refine zm rfl (zx rfl rfl (zx rfl rfl ?_));refine zss rfl rfl ao hb5 rfl fun ws16 hb5_ hcs16 => ?_;(try simp only [Sx.splice, qt] at hb5_);have hch := hch.step hcs16 (fun y hy => .inr (by simp only [List.mem_singleton] at hy; subst hy; first | assumption | omega));have hb4 := hb4.kq hcs16;have hNr1 := hNr1.keepBK hb5 hcs16 an;have hb5 := hb5_;refine za rfl ?_;refine WL.nil (kr8 _ _ _ (kh5 ?_));refine zc fun _ kh11 => ?_;refine CW.regionS2 6 hb4 hb5 rfl hmix fun kR12 kr12 hS hdr => ?_;have hch := hch.trans hdr;have hb4 := hb4.k0 hdr;have hb5 := hb5.k0 hdr;have hNr1 := hNr1.keep0 hdr;refine wh 0 rfl hS (fun _ hw' => Ev.loadA rfl rfl hw'.1 rfl) (wh 1 rfl hS (fun _ hw' => Ev.loadA rfl rfl hw'.2 rfl) (wh 2 rfl hS (fun _ _ => Ev.move rfl) ?_));refine WH.same1 3 rfl (by kernel_rfl) rfl rfl rfl ao (by omega) hS fun ws17 hS hcs17 => ?_;have hch := hch.step hcs17 (fun y hy => .inr (by simp only [List.mem_singleton] at hy; subst hy; first | assumption | omega));have hNr1 := hNr1.keepBK hb4 hcs17 an;have hb4 := hS.1;have hb5 := hS.2;refine WH.same2 4 rfl (by kernel_rfl) rfl rfl rfl ao (by omega) hS fun ws18 hS hcs18 => ?_;have hch := hch.step hcs18 (fun y hy => .inr (by simp only [List.mem_singleton] at hy; subst hy; first | assumption | omega));have hNr1 := hNr1.keepBK hb5 hcs18 an;have hb4 := hS.1;have hb5 := hS.2;refine wh 5 rfl hS (fun _ _ => Ev.assign rfl) ?_;refine WH.done (by kernel_rfl) (kr12 _ _ _ ?_);refine kh11 ?_;refine zr (bodyA.retR3 rfl (RVal.cell rfl (hb4.varA rfl rfl)) (RVal.cell rfl (hb5.varA rfl rfl)) (RVal.tmp rfl) ?_);exact ⟨.inr ⟨.inr hd2, _, _, _, _, _, _, rfl, hNr1.one, rfl⟩, hch⟩
 ·refine zm rfl (zx rfl rfl (zx rfl rfl ?_));refine zss rfl rfl ao hb4 rfl fun ws19 hb4_ hcs19 => ?_;(try simp only [Sx.splice, qt] at hb4_);have hch := hch.step hcs19 (fun y hy => .inr (by simp only [List.mem_singleton] at hy; subst hy; first | assumption | omega));have hb5 := hb5.kq hcs19;have hb4 := hb4_;refine za rfl (zz (kh3 (zc fun _ kh13 => Sr fun _ kh14 => zm rfl (zq rfl rfl (zz (kh14 ?_))))));refine CW.condF rfl ?_;refine zkk ?_;refine kh13 (zc fun _ kh16 => ?_);refine CW.regionS2 6 hb4 hb5 rfl hmix fun kR17 kr17 hS hdr => ?_;have hch := hch.trans hdr;have hb4 := hb4.k0 hdr;have hb5 := hb5.k0 hdr;refine wh 0 rfl hS (fun _ hw' => Ev.loadA rfl rfl hw'.1 rfl) (wh 1 rfl hS (fun _ hw' => Ev.loadA rfl rfl hw'.2 rfl) (wh 2 rfl hS (fun _ _ => Ev.move rfl) ?_));refine WH.same1 3 rfl (by kernel_rfl) rfl rfl rfl ao (by omega) hS fun ws20 hS hcs20 => ?_;have hch := hch.step hcs20 (fun y hy => .inr (by simp only [List.mem_singleton] at hy; subst hy; first | assumption | omega));have hb4 := hS.1;have hb5 := hS.2;refine WH.same2 4 rfl (by kernel_rfl) rfl rfl rfl ao (by omega) hS fun ws21 hS hcs21 => ?_;have hch := hch.step hcs21 (fun y hy => .inr (by simp only [List.mem_singleton] at hy; subst hy; first | assumption | omega));have hb4 := hS.1;have hb5 := hS.2;refine wh 5 rfl hS (fun _ _ => Ev.assign rfl) ?_;refine WH.done (by kernel_rfl) (kr17 _ _ _ ?_);refine kh16 ?_;refine zr (bodyA.retR3 rfl (RVal.cell rfl (hb4.varA rfl rfl)) (RVal.cell rfl (hb5.varA rfl rfl)) (RVal.tmp rfl) ?_);exact ⟨.inr ⟨.inl hd1, _, _, _, _, _, _, rfl, rfl, rfl⟩, hch⟩

structure KA2 (X Y : List Nat) (w : World) (b : Nat) (g : Nat × List Nat × Nat) (wr : World) : Prop where
  a : AddI X Y g.1 g.2.1 g.2.2
  ob : OB wr b 100 g.2.1
  chg : Chg [] w wr

theorem dsum_spec (va vb : Value) (la lb : List Nat) (w : World) (ha : NU w va la) (hb : NU w vb lb) (hla : la.length < 70368744177664) (hlb : lb.length < 70368744177664) : Ret Tryz.prog 86 [va, vb] w fun u w' => ∃ L, NU w' u L ∧ val L = val la + val lb ∧ Chg [] w w' := by
 obtain ⟨⟨a1, c1, rfl, hcap1, hr1⟩, hW1, hl1⟩ := ha;obtain ⟨⟨a2, c2, rfl, hcap2, hr2⟩, hW2, hl2⟩ := hb;have hch : Chg [] w w := Chg.refl _ _;refine zE2 Tryz.func86 rfl ?_;refine Sr fun _ kh1 => za rfl (zz (kh1 ?_));refine CW.seqJ (fun D s' w' => D = [] ∧ w = w' ∧ ∃ xa ca xb cb X Y, RW w xa (X.map u32v) ∧ W X ∧ RW w xb (Y.map u32v) ∧ W Y ∧ Y.length ≤ X.length ∧ X.length < 70368744177664 ∧ val X + val Y = val la + val lb ∧ Subs [(0, .slice xa X.length ca), (1, .slice xb Y.length cb)] s') ?_ ?_
 ·refine Sr fun _ kh4 => zm rfl (zn rfl (zm rfl (zn rfl ?_)));refine WL.ev (Ev.lss rfl rfl) rfl ?_;refine zz (kh4 ?_);refine zy rfl ?_ ?_<;>intro hc1<;>try simp only [qs] at hc1
  ·refine zR fun _ kr6 => ?_
   refine zm rfl (zm rfl (za rfl (za rfl ?_)));refine WL.nil (kr6 _ _ _ ?_);exact ⟨rfl, rfl, a2, c2, a1, c1, lb, la, hr2, hW2, hr1, hW1, by omega, by omega, by omega, (by repeat (first | exact Subs.nil | refine Subs.cons rfl ?_))⟩
  ·refine zkk ?_
   exact ⟨rfl, rfl, a1, c1, a2, c2, la, lb, hr1, hW1, hr2, hW2, by omega, by omega, rfl, (by repeat (first | exact Subs.nil | refine Subs.cons rfl ?_))⟩
 ·rintro _ s' _ ⟨rfl, rfl, xa, ca, xb, cb, X, Y, hrX, hWX, hrY, hWY, hYX, hXl, hXY, hsub⟩;refine CW.sub hsub ?_;refine Sr fun _ kh7 => zm rfl (zn rfl ?_);(first | refine zi rfl rfl ?_ | refine zo rfl rfl ?_);refine WL.makeU (((X).length + 1)) (((X).length + 1)) rfl rfl (by omega) (by omega) (by omega) (by omega) (by omega) rfl fun b19 wm19 hb19 hcm19 hge19 => ?_;have hgehch19 := Nat.le_trans hch.size hge19;have hch := hch.trans hcm19;refine za rfl (zz (kh7 (Sr fun _ kh9 => za rfl (zz (kh9 (zc fun _ kh11 => Sr fun _ kh12 => zm rfl (zn rfl (zm rfl (zz (kh12 ?_))))))))));refine CW.block ?_;refine CW.loop (S := fun g : Nat × List Nat × Nat => [(0, .slice xa X.length ca), (1, .slice xb Y.length cb), (5, .slice (some ⟨b19, 0, none⟩) (X.length + 1) (X.length + 1)), (6, .int .u32 (g.2.2 : Int)), (21, .int .i64 (X.length : Int)), (22, .int .i64 (g.1 : Int))]) (Inv := KA2 X Y w b19) (mu := fun g => X.length - g.1) ((0, List.replicate (X.length + 1) 0, 0)) ?_ ?_ ?_
  ·exact ⟨AddI.zero (by simp) (W_replicate _), hb19, hch⟩
  ·exact SLp
  ·rintro ⟨i, L, c⟩ wr ⟨hAd, hb19, hch⟩;dsimp only at hAd hb19 hch;have hiX := hAd.le;have hLl := hAd.len;have hcc := hAd.c1;refine Sr fun _ kh14 => ?_;refine WL.ev (Ev.lss rfl rfl) rfl ?_;refine zz (kh14 (zc fun _ kh16 => ?_));refine zy rfl ?_ ?_<;>intro hc2<;>try simp only [qs] at hc2
   ·refine zkk ?_
    refine kh16 (zc fun _ kh17 => ?_);refine CW.block ?_;refine Sr fun _ kh18 => zm rfl (za rfl (zz (kh18 (Sr fun _ kh20 => za rfl (zz (kh20 (zc fun _ kh22 => Sr fun _ kh23 => zm rfl (zm rfl (zn rfl ?_)))))))));refine WL.ev (Ev.lss rfl rfl) rfl ?_;refine zz (kh23 ?_);refine zy rfl ?_ ?_<;>intro hc3<;>try simp only [qs] at hc3
    ·refine zR fun _ kr25 => ?_
     refine zm rfl (zm rfl ?_);refine WL.ev (Ev.ixR (i) rfl rfl (hrY.keep0 hch) (by omega) (by omega) (by simp; omega)) rfl ?_;refine WL.ev (Ev.load rfl rfl ((hrY.keep0 hch).u32 (by first | omega | (simp; omega)))) rfl ?_;have hw32 := hWY.getD (i);refine za rfl ?_;refine WL.nil (kr25 _ _ _ (kh22 ?_));refine zR fun _ kr26 => ?_;refine zm rfl (zm rfl (zm rfl (zm rfl ?_)));refine WL.ev (Ev.ixR (i) rfl rfl (hrX.keep0 hch) (by omega) (by omega) (by simp; omega)) rfl ?_;refine WL.ev (Ev.load rfl rfl ((hrX.keep0 hch).u32 (by first | omega | (simp; omega)))) rfl ?_;have hw39 := hWX.getD (i);refine zm rfl (zm rfl ?_);refine WL.call hasF116 rfl rfl (Add32_spec (X.getD i 0) (Y.getD i 0) c _ (hWX.getD i) (hWY.getD i) (by omega)) fun v w1 h' => ?_;obtain ⟨rfl, rfl⟩ := h';refine zm rfl (zx rfl rfl (zx rfl rfl ?_));refine WL.ev (Ev.ixB (i) rfl rfl (by omega) (by omega)) rfl ?_;refine WL.storeU rfl rfl hb19 (by first | omega | (simp; omega)) fun ws22 hb19_ hcs22 => ?_;have hch := hch.step hcs22 (fun y hy => .inr (by simp only [List.mem_singleton] at hy; subst hy; first | assumption | omega));have hb19 := hb19_;refine za rfl ?_;refine WL.nil (kr26 _ _ _ (kh17 ?_));refine zR fun _ kr27 => ?_;(first | refine zi rfl rfl ?_ | refine zo rfl rfl ?_);refine zm rfl ?_;refine WL.nil (kr27 _ _ _ ?_);refine ⟨rfl, (i + 1, L.set i ((X.getD i 0 + Y.getD i 0 + c) % 4294967296), (X.getD i 0 + Y.getD i 0 + c) / 4294967296), ?_, ?_, ?_⟩
     ·exact SLp
     ·exact ⟨hAd.step hWX hWY (by omega), hb19, hch⟩
     ·show X.length - (i + 1) < X.length - i; omega
    ·have e0 : Value.int IntKind.u32 0 = Value.int IntKind.u32 ((Y.getD i 0 : Nat) : Int) := by rw [getD_out (by omega)]; rfl
     rw [e0];refine zkk ?_;refine kh22 ?_;refine zR fun _ kr28 => ?_;refine zm rfl (zm rfl (zm rfl (zm rfl ?_)));refine WL.ev (Ev.ixR (i) rfl rfl (hrX.keep0 hch) (by omega) (by omega) (by simp; omega)) rfl ?_;refine WL.ev (Ev.load rfl rfl ((hrX.keep0 hch).u32 (by first | omega | (simp; omega)))) rfl ?_;have hw39 := hWX.getD (i);refine zm rfl (zm rfl ?_);refine WL.call hasF116 rfl rfl (Add32_spec (X.getD i 0) (Y.getD i 0) c _ (hWX.getD i) (hWY.getD i) (by omega)) fun v w2 h' => ?_;obtain ⟨rfl, rfl⟩ := h';refine zm rfl (zx rfl rfl (zx rfl rfl ?_));refine WL.ev (Ev.ixB (i) rfl rfl (by omega) (by omega)) rfl ?_;refine WL.storeU rfl rfl hb19 (by first | omega | (simp; omega)) fun ws23 hb19_ hcs23 => ?_;have hch := hch.step hcs23 (fun y hy => .inr (by simp only [List.mem_singleton] at hy; subst hy; first | assumption | omega));have hb19 := hb19_;refine za rfl ?_;refine WL.nil (kr28 _ _ _ (kh17 ?_));refine zR fun _ kr29 => ?_;(first | refine zi rfl rfl ?_ | refine zo rfl rfl ?_);refine zm rfl ?_;refine WL.nil (kr29 _ _ _ ?_);refine ⟨rfl, (i + 1, L.set i ((X.getD i 0 + Y.getD i 0 + c) % 4294967296), (X.getD i 0 + Y.getD i 0 + c) / 4294967296), ?_, ?_, ?_⟩
     ·exact SLp
     ·exact ⟨hAd.step hWX hWY (by omega), hb19, hch⟩
     ·show X.length - (i + 1) < X.length - i; omega
   ·refine CW.exit ?_
    refine kh11 (zc fun _ kh30 => ?_);have hiX2 : i = X.length := by omega
    subst hiX2;obtain ⟨hv9, hW9, hl9⟩ := hAd.done hYX;rw [hXY] at hv9;refine zR fun _ kr31 => ?_;refine zm rfl (zm rfl (zn rfl (zm rfl ?_)));refine WL.ev (Ev.ixB (X.length) rfl rfl (by omega) (by omega)) rfl ?_;refine WL.storeU rfl rfl hb19 (by first | omega | (simp; omega)) fun ws24 hb19_ hcs24 => ?_;have hch := hch.step hcs24 (fun y hy => .inr (by simp only [List.mem_singleton] at hy; subst hy; first | assumption | omega));have hb19 := hb19_;refine WL.nil (kr31 _ _ _ (kh30 ?_));refine Sr fun _ kh32 => zm rfl (za rfl (zz (kh32 ?_)));refine zr (zr1 rfl rfl ?_);exact ⟨_, NU.of_block hb19 hW9 (by rw [hl9]; omega) (by rw [hl9]) (Nat.le_refl _), hv9, hch⟩

end

/- Package dyad: Add, Sub, Mul, Neg, Sign. No condition. -/
section
open Go Sx Wd

theorem shift_fits {m k : Nat} (h0 : m ≠ 0) : (m = 0 ∨ (k : Int) ≤ 262144 - (bl m : Int)) ↔ (wd (m * 2 ^ k)).length ≤ 8192 := by
  have h := bl_words (n := m * 2 ^ k) (k := 8192)
  rw [bl_mul_pow h0] at h
  omega
theorem addD_eq {x y : Dy} {p q : Nat} (h1 : x.m ≠ 0) (h2 : y.m ≠ 0) (hp : p = x.m * 2 ^ (x.e - min x.e y.e).toNat) (hq : q = y.m * 2 ^ (y.e - min x.e y.e).toNat) :
    addD x y = if 8192 < (wd p).length ∨ 8192 < (wd q).length then none else if x.neg = y.neg then formD x.neg (p + q) (min x.e y.e) else if p < q then formD y.neg (q - p) (min x.e y.e) else formD x.neg (p - q) (min x.e y.e) := by
  subst hp; subst hq
  unfold addD
  rw [if_neg h1, if_neg h2]

theorem Add_dspec (na nb : Bool) (va vb : Value) (la lb : List Nat) (ea eb : Int) (w : World) (ha : NU w va la) (hb : NU w vb lb) (hg : GW w) (hea : -9223372036854775808 ≤ ea ∧ ea ≤ 9223372036854775807) (heb : -9223372036854775808 ≤ eb ∧ eb ≤ 9223372036854775807) : Ret Tryz.prog 61 [.agg [.bool na, va, .int .i64 ea].toArray, .agg [.bool nb, vb, .int .i64 eb].toArray] w fun u w' => DR w' u (both2 addD (formD na (val la) ea) (formD nb (val lb) eb)) ∧ Chg [] w w' := by
 have hch : Chg [] w w := Chg.refl _ _;have hoa := ha.one;have hob := hb.one;refine zE2 Tryz.func61 rfl ?_;refine Sr fun _ kh1 => ?_;refine WL.boxB rfl rfl rfl fun b2 wm2 hb2 hcm2 hge2 => ?_;have hgehch2 := Nat.le_trans hch.size hge2;have hch := hch.trans hcm2;have ha := ha.keep0 hcm2;have hb := hb.keep0 hcm2;refine WL.boxB rfl rfl rfl fun b3 wm3 hb3 hcm3 hge3 => ?_;have hgehch3 := Nat.le_trans hch.size hge3;have hch := hch.trans hcm3;have ha := ha.keep0 hcm3;have hb := hb.keep0 hcm3;have hneb23 := zdd hb2.lt hge3;have hb2 := hb2.k0 hcm3;refine WL.allocB (l := [.bool false, .slice none 0 0, .int .i64 0]) rfl rfl fun b4 wm4 hb4 hcm4 hge4 => ?_;have hgehch4 := Nat.le_trans hch.size hge4;have hch := hch.trans hcm4;have ha := ha.keep0 hcm4;have hb := hb.keep0 hcm4;have hneb24 := zdd hb2.lt hge4;have hb2 := hb2.k0 hcm4;have hneb34 := zdd hb3.lt hge4;have hb3 := hb3.k0 hcm4;refine za rfl (zz (kh1 (Sr fun _ kh3 => zg hb2 rfl (zg hb3 rfl ?_))));refine WL.call hasF70 rfl rfl (dboth_spec na nb va vb la lb ea eb _ ha hb (hg.keep0 hch) hea heb) fun v w1 h' => ?_;obtain ⟨hB, hC1⟩ := h';have hch := hch.trans hC1;have hb4 := hb4.k0 hC1;rcases hB with ⟨d1, d2, r1, r2, hd1, hd2, rfl, hNr1, hNr2⟩ | ⟨hno, n1, v1, e1, n2, v2, e2, rfl, hv1, hv2⟩
 ·have hok1 := formD_ok hd1;have hok2 := formD_ok hd2;have he1 := hok1.e;have he2 := hok2.e;have hl1 := hok1.len;have hl2 := hok2.len;obtain ⟨⟨a1, c1, rfl, hcap1, hr1⟩, hW1, hl1⟩ := hNr1;have hNr1 : NU _ (.slice a1 (wd d1.m).length c1) (wd d1.m) := NU.of_row hr1 hW1 hl1 rfl hcap1;obtain ⟨⟨a2, c2, rfl, hcap2, hr2⟩, hW2, hl2⟩ := hNr2;have hNr2 : NU _ (.slice a2 (wd d2.m).length c2) (wd d2.m) := NU.of_row hr2 hW2 hl2 rfl hcap2;have hw1 : (wd d1.m).length = 0 ↔ d1.m = 0 := by rw [List.length_eq_zero_iff, wd_eq_nil]
  have hw2 : (wd d2.m).length = 0 ↔ d2.m = 0 := by rw [List.length_eq_zero_iff, wd_eq_nil]
  refine zm rfl (zx rfl rfl (zx rfl rfl (zx rfl rfl ?_)));refine WL.allocB (l := [.bool false, .slice none 0 0, .int .i64 0]) rfl rfl fun b6 wm6 hb6 hcm6 hge6 => ?_;have hgehch6 := Nat.le_trans hch.size hge6;have hch := hch.trans hcm6;have hNr1 := hNr1.keep0 hcm6;have hNr2 := hNr2.keep0 hcm6;have hneb46 := zdd hb4.lt hge6;have hb4 := hb4.k0 hcm6;refine WL.allocB (l := [.bool false, .slice none 0 0, .int .i64 0]) rfl rfl fun b7 wm7 hb7 hcm7 hge7 => ?_;have hgehch7 := Nat.le_trans hch.size hge7;have hch := hch.trans hcm7;have hNr1 := hNr1.keep0 hcm7;have hNr2 := hNr2.keep0 hcm7;have hneb47 := zdd hb4.lt hge7;have hb4 := hb4.k0 hcm7;have hneb67 := zdd hb6.lt hge7;have hb6 := hb6.k0 hcm7;refine zss rfl rfl ao hb6 rfl fun ws25 hb6_ hcs25 => ?_;(try simp only [Sx.splice, qt] at hb6_);have hch := hch.step hcs25 (fun y hy => .inr (by simp only [List.mem_singleton] at hy; subst hy; first | assumption | omega));have hb4 := hb4.kq hcs25;have hb7 := hb7.kq hcs25;have hNr1 := hNr1.keepBK hb6 hcs25 an;have hNr2 := hNr2.keepBK hb6 hcs25 an;have hb6 := hb6_;refine zss rfl rfl ao hb7 rfl fun ws26 hb7_ hcs26 => ?_;(try simp only [Sx.splice, qt] at hb7_);have hch := hch.step hcs26 (fun y hy => .inr (by simp only [List.mem_singleton] at hy; subst hy; first | assumption | omega));have hb4 := hb4.kq hcs26;have hb6 := hb6.kq hcs26;have hNr1 := hNr1.keepBK hb7 hcs26 an;have hNr2 := hNr2.keepBK hb7 hcs26 an;have hb7 := hb7_;refine za rfl (zz (kh3 (zc fun _ kh5 => ?_)));refine CW.block ?_;refine Sr fun _ kh6 => zm rfl ?_;refine WL.ev (Ev.neq rfl rfl) rfl ?_;refine za rfl (zz (kh6 ?_));refine CW.condF rfl ?_;refine Sr fun _ kh8 => zf rfl (zl hb6 rfl rfl (zn rfl (zq rfl rfl (za rfl (zz (kh8 ?_))))));refine zy rfl ?_ ?_<;>intro hc1<;>try simp only [qs] at hc1
  ·have h01 : d1.m = 0 := by omega
   refine Sr fun _ kh10 => zg hb7 rfl ?_;refine zss rfl rfl ao hb4 rfl fun ws27 hb4_ hcs27 => ?_;(try simp only [Sx.splice, qt] at hb4_);have hch := hch.step hcs27 (fun y hy => .inr (by simp only [List.mem_singleton] at hy; subst hy; first | assumption | omega));have hNr2 := hNr2.keepBK hb4 hcs27 an;have hb4 := hb4_;refine za rfl (zz (kh10 ?_));refine zr (bodyA.retR2 rfl (RVal.cell rfl (hb4.varA rfl rfl)) (RVal.tmp rfl) ?_);rw [hd1, hd2];exact ⟨.inl ⟨_, d2, by show addD d1 d2 = _; unfold addD; rw [if_pos h01], rfl, hNr2⟩, hch⟩
  ·have h01 : d1.m ≠ 0 := by omega
   refine Sr fun _ kh12 => zf rfl (zl hb7 rfl rfl (zn rfl (zq rfl rfl (za rfl (zz (kh12 ?_))))));refine zy rfl ?_ ?_<;>intro hc2<;>try simp only [qs] at hc2
   ·have h02 : d2.m = 0 := by omega
    refine Sr fun _ kh14 => zg hb6 rfl ?_;refine zss rfl rfl ao hb4 rfl fun ws28 hb4_ hcs28 => ?_;(try simp only [Sx.splice, qt] at hb4_);have hch := hch.step hcs28 (fun y hy => .inr (by simp only [List.mem_singleton] at hy; subst hy; first | assumption | omega));have hNr1 := hNr1.keepBK hb4 hcs28 an;have hb4 := hb4_;refine za rfl (zz (kh14 ?_));refine zr (bodyA.retR2 rfl (RVal.cell rfl (hb4.varA rfl rfl)) (RVal.tmp rfl) ?_);rw [hd1, hd2];exact ⟨.inl ⟨_, d1, by show addD d1 d2 = _; unfold addD; rw [if_neg h01, if_pos h02], rfl, hNr1⟩, hch⟩
   ·have h02 : d2.m ≠ 0 := by omega
    refine zkk ?_;refine kh5 (Sr fun _ kh16 => zf rfl (zl hb6 rfl rfl (zf rfl (zl hb7 rfl rfl ?_))));refine WL.ev (Ev.minI rfl rfl) rfl ?_;refine za rfl (zz (kh16 (Sr fun _ kh18 => zf rfl (zl hb6 rfl rfl (zf rfl (zl hb6 rfl rfl (zm rfl ?_)))))));refine WL.ev (Ev.subIn rfl rfl (by omega)) rfl ?_;refine WL.call hasF85 rfl rfl (Shift_spec _ _ _ _ hNr1 (by omega)) fun v w2 h' => ?_;obtain ⟨hD3, hC3⟩ := h';rw [val_wd, show d1.e - min d1.e d2.e = ((d1.e - min d1.e d2.e).toNat : Int) by omega, shiftN_pos] at hD3;obtain ⟨p, hp⟩ : ∃ p, p = d1.m * 2 ^ (d1.e - min d1.e d2.e).toNat := ⟨_, rfl⟩;rw [← hp] at hD3;have hch := hch.trans hC3;have hb4 := hb4.k0 hC3;have hb6 := hb6.k0 hC3;have hb7 := hb7.k0 hC3;have hNr2 := hNr2.keep0 hC3;rw [shift_fits h01, ← hp] at hD3;rcases hD3 with ⟨⟨_, hp8⟩, rp, rfl, hNp⟩ | ⟨hp8, rfl⟩
    ·refine zm rfl (zx rfl rfl (zx rfl rfl (za rfl (za rfl (zz (kh18 (Sr fun _ kh20 => zf rfl (zl hb7 rfl rfl (zf rfl (zl hb7 rfl rfl (zm rfl ?_)))))))))));refine WL.ev (Ev.subIn rfl rfl (by omega)) rfl ?_;refine WL.call hasF85 rfl rfl (Shift_spec _ _ _ _ hNr2 (by omega)) fun v w3 h' => ?_;obtain ⟨hD4, hC4⟩ := h';rw [val_wd, show d2.e - min d1.e d2.e = ((d2.e - min d1.e d2.e).toNat : Int) by omega, shiftN_pos] at hD4;obtain ⟨q, hq⟩ : ∃ q, q = d2.m * 2 ^ (d2.e - min d1.e d2.e).toNat := ⟨_, rfl⟩;rw [← hq] at hD4;have hch := hch.trans hC4;have hb4 := hb4.k0 hC4;have hb6 := hb6.k0 hC4;have hb7 := hb7.k0 hC4;have hNp := hNp.keep0 hC4;rw [shift_fits h02, ← hq] at hD4;rcases hD4 with ⟨⟨_, hq8⟩, rq, rfl, hNq⟩ | ⟨hq8, rfl⟩
     ·refine zm rfl (zx rfl rfl (zx rfl rfl (za rfl (za rfl (zz (kh20 (zc fun _ kh22 => ?_)))))));refine CW.block ?_;refine Sr fun _ kh23 => zm rfl ?_;refine WL.ev (Ev.neq rfl rfl) rfl ?_;refine zm rfl (zw rfl (zm rfl (zw rfl ?_)));refine WL.ev (Ev.neq rfl rfl) rfl ?_;refine ze rfl rfl (za rfl (zz (kh23 ?_)));refine CW.condF rfl ?_;refine Sr fun _ kh25 => zf rfl (zl hb6 rfl rfl (zf rfl (zl hb7 rfl rfl ?_)));refine WL.ev (Ev.eql_bool rfl rfl) rfl ?_;refine za rfl (zz (kh25 ?_));refine zy rfl ?_ ?_<;>intro hc3<;>try simp only [qs] at hc3
      ·have hsg : d1.neg = d2.neg := by simpa using hc3
       refine zc fun _ kh27 => ?_;refine CW.regionKC 9 11 rfl hmix fun kR28 kr28 hS hdr => ?_;have hch := hch.trans hdr;have hb4 := hb4.k0 hdr;have hb6 := hb6.k0 hdr;have hNp := hNp.keep0 hdr;have hNq := hNq.keep0 hdr;have hb6_r := hb6;refine wk 0 rfl hS (fun _ _ => Ev.fieldAddr rfl) (wk 1 rfl hS (fun _ hw' => Ev.load rfl rfl ((hb6_r.keep0 hw').at_ rfl)) (wk 2 rfl hS (fun _ _ => Ev.move rfl) (wk 3 rfl hS (fun _ _ => Ev.move rfl) (wk 5 rfl hS (fun _ _ => Ev.move rfl) ?_))));refine WK.oneCall 4 rfl (by kernel_rfl) hasF86 rfl rfl (dsum_spec _ _ _ _ _ hNp hNq (by omega) (by omega)) fun v w4 h' => ?_;obtain ⟨L, hNL, hvL, hC82⟩ := h';rw [val_wd, val_wd] at hvL;have hch := hch.trans hC82;have hb4 := hb4.k0 hC82;have hS := hS.trans hC82;refine ⟨hS, ?_⟩;refine WK.oneCall 6 rfl (by kernel_rfl) hasF68 rfl rfl (form_spec _ _ _ _ _ hNL (hg.keep0 hch) (by omega)) fun v w5 h' => ?_;obtain ⟨hD84, hC84⟩ := h';have hch := hch.trans hC84;have hb4 := hb4.k0 hC84;have hS := hS.trans hC84;refine ⟨hS, ?_⟩;rcases hD84 with ⟨r, d, hd, rfl, hNr⟩ | ⟨hd, rfl⟩
       ·refine wk 7 rfl hS (fun _ _ => Ev.extract rfl rfl) (wk 8 rfl hS (fun _ _ => Ev.extract rfl rfl) ?_);refine WK.storeB 9 rfl (by kernel_rfl) (by kernel_rfl) rfl rfl rfl ao hb4 (by simp) rfl fun ws29 hb4_ hcs29 => ?_;(try simp only [Sx.splice, qt] at hb4_);have hch := hch.step hcs29 (fun y hy => .inr (by simp only [List.mem_singleton] at hy; subst hy; first | assumption | omega));have hNr := hNr.keepBK hb4 hcs29 an;have hb4 := hb4_;refine WK.after 10 rfl (by kernel_rfl) (by kernel_rfl) (Ev.assign rfl) rfl ?_;refine WK.done (by kernel_rfl) (kr28 _ _ _ ?_);refine kh27 ?_;refine zr (bodyA.retR2 rfl (RVal.cell rfl (hb4.varA rfl rfl)) (RVal.tmp rfl) ?_);rw [hd1, hd2];exact ⟨.inl ⟨r, d, by rw [hvL] at hd; show addD d1 d2 = _; rw [addD_eq h01 h02 hp hq, if_neg (by omega), if_pos hsg]; exact hd, rfl, hNr⟩, hch⟩
       ·refine wk 7 rfl hS (fun _ _ => Ev.extract rfl rfl) (wk 8 rfl hS (fun _ _ => Ev.extract rfl rfl) ?_);refine WK.storeB 9 rfl (by kernel_rfl) (by kernel_rfl) rfl rfl rfl ao hb4 (by simp) rfl fun ws30 hb4_ hcs30 => ?_;(try simp only [Sx.splice, qt] at hb4_);have hch := hch.step hcs30 (fun y hy => .inr (by simp only [List.mem_singleton] at hy; subst hy; first | assumption | omega));have hb4 := hb4_;refine WK.after 10 rfl (by kernel_rfl) (by kernel_rfl) (Ev.assign rfl) rfl ?_;refine WK.done (by kernel_rfl) (kr28 _ _ _ ?_);refine kh27 ?_;refine zr (bodyA.retR2 rfl (RVal.cell rfl (hb4.varA rfl rfl)) (RVal.tmp rfl) ?_);rw [hd1, hd2];exact ⟨.inr ⟨by rw [hvL] at hd; show addD d1 d2 = _; rw [addD_eq h01 h02 hp hq, if_neg (by omega), if_pos hsg]; exact hd, rfl⟩, hch⟩
      ·have hsg : d1.neg ≠ d2.neg := by simpa using hc3
       refine Sr fun _ kh29 => zm rfl (zm rfl ?_);refine WL.call hasF87 rfl rfl (Cmp_spec _ _ _ _ _ hNp hNq) fun v w6 h' => ?_;obtain ⟨rfl, hC90⟩ := h';rw [val_wd, val_wd];have hch := hch.trans hC90;have hb4 := hb4.k0 hC90;have hb6 := hb6.k0 hC90;have hb7 := hb7.k0 hC90;have hNp := hNp.keep0 hC90;have hNq := hNq.keep0 hC90;refine WL.ev (Ev.lss rfl rfl) rfl ?_;refine za rfl (zz (kh29 ?_));refine zy rfl ?_ ?_<;>intro hc4<;>try simp only [qs] at hc4
       ·have hpq : p < q := by
         apply Classical.byContradiction; intro hn; unfold sgn at hc4; rw [if_neg hn] at hc4; split at hc4 <;> omega
        refine zR fun _ kr31 => ?_;refine zg hb7 rfl (zm rfl (zm rfl ?_));refine zss rfl rfl ao hb6 rfl fun ws31 hb6_ hcs31 => ?_;(try simp only [Sx.splice, qt] at hb6_);have hch := hch.step hcs31 (fun y hy => .inr (by simp only [List.mem_singleton] at hy; subst hy; first | assumption | omega));have hb4 := hb4.kq hcs31;have hNp := hNp.keepBK hb6 hcs31 an;have hNq := hNq.keepBK hb6 hcs31 an;have hb6 := hb6_;refine za rfl (za rfl ?_);refine WL.nil (kr31 _ _ _ (kh22 ?_));refine Sr fun _ kh32 => zm rfl (zm rfl ?_);refine WL.call hasF88 rfl rfl (Sub_spec _ _ _ _ _ hNq hNp) fun v w7 h' => ?_;obtain ⟨hD98, hC98⟩ := h';rw [val_wd, val_wd] at hD98;rcases hD98 with ⟨_, _, _, rs, rfl, hNs⟩ | ⟨hno, _⟩ | ⟨_, hno, _⟩
        rotate_left
        · omega
        · omega
        have hch := hch.trans hC98;have hb4 := hb4.k0 hC98;have hb6 := hb6.k0 hC98;refine zm rfl (zx rfl rfl (zx rfl rfl (za rfl (za rfl (zz (kh32 (Sr fun _ kh34 => zf rfl (zl hb6 rfl rfl (zm rfl (zm rfl ?_))))))))));refine WL.call hasF68 rfl rfl (form_spec _ _ _ _ _ hNs (hg.keep0 hch) (by omega)) fun v w8 h' => ?_;obtain ⟨hD105, hC105⟩ := h';have hch := hch.trans hC105;have hb4 := hb4.k0 hC105;rcases hD105 with ⟨r, d, hd, rfl, hNr⟩ | ⟨hd, rfl⟩
        ·refine zx rfl rfl (zx rfl rfl ?_);refine zss rfl rfl ao hb4 rfl fun ws32 hb4_ hcs32 => ?_;(try simp only [Sx.splice, qt] at hb4_);have hch := hch.step hcs32 (fun y hy => .inr (by simp only [List.mem_singleton] at hy; subst hy; first | assumption | omega));have hNr := hNr.keepBK hb4 hcs32 an;have hb4 := hb4_;refine za rfl (zz (kh34 ?_));refine zr (bodyA.retR2 rfl (RVal.cell rfl (hb4.varA rfl rfl)) (RVal.tmp rfl) ?_);rw [hd1, hd2];exact ⟨.inl ⟨r, d, by rw [val_wd] at hd; show addD d1 d2 = _; rw [addD_eq h01 h02 hp hq, if_neg (by omega), if_neg hsg, if_pos hpq]; exact hd, rfl, hNr⟩, hch⟩
        ·refine zx rfl rfl (zx rfl rfl ?_);refine zss rfl rfl ao hb4 rfl fun ws33 hb4_ hcs33 => ?_;(try simp only [Sx.splice, qt] at hb4_);have hch := hch.step hcs33 (fun y hy => .inr (by simp only [List.mem_singleton] at hy; subst hy; first | assumption | omega));have hb4 := hb4_;refine za rfl (zz (kh34 ?_));refine zr (bodyA.retR2 rfl (RVal.cell rfl (hb4.varA rfl rfl)) (RVal.tmp rfl) ?_);rw [hd1, hd2];exact ⟨.inr ⟨by rw [val_wd] at hd; show addD d1 d2 = _; rw [addD_eq h01 h02 hp hq, if_neg (by omega), if_neg hsg, if_pos hpq]; exact hd, rfl⟩, hch⟩
       ·have hpq : ¬ p < q := fun hn => by unfold sgn at hc4; rw [if_pos hn] at hc4; omega
        refine zkk ?_;refine kh22 (Sr fun _ kh36 => zm rfl (zm rfl ?_));refine WL.call hasF88 rfl rfl (Sub_spec _ _ _ _ _ hNp hNq) fun v w9 h' => ?_;obtain ⟨hD98, hC98⟩ := h';rw [val_wd, val_wd] at hD98;rcases hD98 with ⟨_, _, _, rs, rfl, hNs⟩ | ⟨hno, _⟩ | ⟨_, hno, _⟩
        rotate_left
        · omega
        · omega
        have hch := hch.trans hC98;have hb4 := hb4.k0 hC98;have hb6 := hb6.k0 hC98;refine zm rfl (zx rfl rfl (zx rfl rfl (za rfl (za rfl (zz (kh36 (Sr fun _ kh38 => zf rfl (zl hb6 rfl rfl (zm rfl (zm rfl ?_))))))))));refine WL.call hasF68 rfl rfl (form_spec _ _ _ _ _ hNs (hg.keep0 hch) (by omega)) fun v w10 h' => ?_;obtain ⟨hD105, hC105⟩ := h';have hch := hch.trans hC105;have hb4 := hb4.k0 hC105;rcases hD105 with ⟨r, d, hd, rfl, hNr⟩ | ⟨hd, rfl⟩
        ·refine zx rfl rfl (zx rfl rfl ?_);refine zss rfl rfl ao hb4 rfl fun ws34 hb4_ hcs34 => ?_;(try simp only [Sx.splice, qt] at hb4_);have hch := hch.step hcs34 (fun y hy => .inr (by simp only [List.mem_singleton] at hy; subst hy; first | assumption | omega));have hNr := hNr.keepBK hb4 hcs34 an;have hb4 := hb4_;refine za rfl (zz (kh38 ?_));refine zr (bodyA.retR2 rfl (RVal.cell rfl (hb4.varA rfl rfl)) (RVal.tmp rfl) ?_);rw [hd1, hd2];exact ⟨.inl ⟨r, d, by rw [val_wd] at hd; show addD d1 d2 = _; rw [addD_eq h01 h02 hp hq, if_neg (by omega), if_neg hsg, if_neg hpq]; exact hd, rfl, hNr⟩, hch⟩
        ·refine zx rfl rfl (zx rfl rfl ?_);refine zss rfl rfl ao hb4 rfl fun ws35 hb4_ hcs35 => ?_;(try simp only [Sx.splice, qt] at hb4_);have hch := hch.step hcs35 (fun y hy => .inr (by simp only [List.mem_singleton] at hy; subst hy; first | assumption | omega));have hb4 := hb4_;refine za rfl (zz (kh38 ?_));refine zr (bodyA.retR2 rfl (RVal.cell rfl (hb4.varA rfl rfl)) (RVal.tmp rfl) ?_);rw [hd1, hd2];exact ⟨.inr ⟨by rw [val_wd] at hd; show addD d1 d2 = _; rw [addD_eq h01 h02 hp hq, if_neg (by omega), if_neg hsg, if_neg hpq]; exact hd, rfl⟩, hch⟩
     ·refine zm rfl (zx rfl rfl (zx rfl rfl (za rfl (za rfl (zz (kh20 (zc fun _ kh40 => ?_)))))));refine CW.block ?_;refine Sr fun _ kh41 => zm rfl ?_;refine WL.ev (Ev.neq rfl rfl) rfl ?_;refine zm rfl (zw rfl (zm rfl (zw rfl ?_)));refine WL.ev (Ev.neq rfl rfl) rfl ?_;refine ze rfl rfl (za rfl (zz (kh41 ?_)));refine CW.condT rfl ?_;refine Sr fun _ kh43 => ?_;refine WL.ev (Ev.build (vs := _) (cs := [_, _, _]) rfl rfl) rfl ?_;refine zss rfl rfl ao hb4 rfl fun ws36 hb4_ hcs36 => ?_;(try simp only [Sx.splice, qt] at hb4_);have hch := hch.step hcs36 (fun y hy => .inr (by simp only [List.mem_singleton] at hy; subst hy; first | assumption | omega));have hb4 := hb4_;refine za rfl (zz (kh43 ?_));refine zr (bodyA.retR2 rfl (RVal.cell rfl (hb4.varA rfl rfl)) (RVal.tmp rfl) ?_);rw [hd1, hd2];exact ⟨.inr ⟨by show addD d1 d2 = _; rw [addD_eq h01 h02 hp hq, if_pos (by omega)], rfl⟩, hch⟩
    ·refine zm rfl (zx rfl rfl (zx rfl rfl (za rfl (za rfl (zz (kh18 (Sr fun _ kh45 => zf rfl (zl hb7 rfl rfl (zf rfl (zl hb7 rfl rfl (zm rfl ?_)))))))))));refine WL.ev (Ev.subIn rfl rfl (by omega)) rfl ?_;refine WL.call hasF85 rfl rfl (Shift_spec _ _ _ _ hNr2 (by omega)) fun v w11 h' => ?_;obtain ⟨hD4, hC4⟩ := h';rw [val_wd, show d2.e - min d1.e d2.e = ((d2.e - min d1.e d2.e).toNat : Int) by omega, shiftN_pos] at hD4;obtain ⟨q, hq⟩ : ∃ q, q = d2.m * 2 ^ (d2.e - min d1.e d2.e).toNat := ⟨_, rfl⟩;rw [← hq] at hD4;have hch := hch.trans hC4;have hb4 := hb4.k0 hC4;rcases hD4 with ⟨_, rq, rfl, hNq⟩ | ⟨_, rfl⟩
     ·refine zm rfl (zx rfl rfl (zx rfl rfl (za rfl (za rfl (zz (kh45 (zc fun _ kh47 => ?_)))))));refine CW.block ?_;refine Sr fun _ kh48 => zm rfl ?_;refine WL.ev (Ev.neq rfl rfl) rfl ?_;refine zm rfl (zv rfl (zv rfl (zt rfl rfl (za rfl (zz (kh48 ?_))))));refine CW.condT rfl ?_;refine Sr fun _ kh50 => ?_;refine WL.ev (Ev.build (vs := _) (cs := [_, _, _]) rfl rfl) rfl ?_;refine zss rfl rfl ao hb4 rfl fun ws37 hb4_ hcs37 => ?_;(try simp only [Sx.splice, qt] at hb4_);have hch := hch.step hcs37 (fun y hy => .inr (by simp only [List.mem_singleton] at hy; subst hy; first | assumption | omega));have hb4 := hb4_;refine za rfl (zz (kh50 ?_));refine zr (bodyA.retR2 rfl (RVal.cell rfl (hb4.varA rfl rfl)) (RVal.tmp rfl) ?_);rw [hd1, hd2];exact ⟨.inr ⟨by show addD d1 d2 = _; rw [addD_eq h01 h02 hp hq, if_pos (by omega)], rfl⟩, hch⟩
     ·refine zm rfl (zx rfl rfl (zx rfl rfl (za rfl (za rfl (zz (kh45 (zc fun _ kh52 => ?_)))))));refine CW.block ?_;refine Sr fun _ kh53 => zm rfl ?_;refine WL.ev (Ev.neq rfl rfl) rfl ?_;refine zm rfl (zv rfl (zv rfl (zt rfl rfl (za rfl (zz (kh53 ?_))))));refine CW.condT rfl ?_;refine Sr fun _ kh55 => ?_;refine WL.ev (Ev.build (vs := _) (cs := [_, _, _]) rfl rfl) rfl ?_;refine zss rfl rfl ao hb4 rfl fun ws38 hb4_ hcs38 => ?_;(try simp only [Sx.splice, qt] at hb4_);have hch := hch.step hcs38 (fun y hy => .inr (by simp only [List.mem_singleton] at hy; subst hy; first | assumption | omega));have hb4 := hb4_;refine za rfl (zz (kh55 ?_));refine zr (bodyA.retR2 rfl (RVal.cell rfl (hb4.varA rfl rfl)) (RVal.tmp rfl) ?_);rw [hd1, hd2];exact ⟨.inr ⟨by show addD d1 d2 = _; rw [addD_eq h01 h02 hp hq, if_pos (by omega)], rfl⟩, hch⟩
 ·have hF : both2 addD (formD na (val la) ea) (formD nb (val lb) eb) = none := by rcases hno with hno | hno <;> rw [hno] <;> first | rfl | exact both2_none_right
  refine zm rfl (zx rfl rfl (zx rfl rfl (zx rfl rfl ?_)));refine WL.allocB (l := [.bool false, .slice none 0 0, .int .i64 0]) rfl rfl fun b6 wm6 hb6 hcm6 hge6 => ?_;have hgehch6 := Nat.le_trans hch.size hge6;have hch := hch.trans hcm6;have hneb46 := zdd hb4.lt hge6;have hb4 := hb4.k0 hcm6;refine WL.allocB (l := [.bool false, .slice none 0 0, .int .i64 0]) rfl rfl fun b7 wm7 hb7 hcm7 hge7 => ?_;have hgehch7 := Nat.le_trans hch.size hge7;have hch := hch.trans hcm7;have hneb47 := zdd hb4.lt hge7;have hb4 := hb4.k0 hcm7;have hneb67 := zdd hb6.lt hge7;have hb6 := hb6.k0 hcm7;refine zss rfl rfl ao hb6 rfl fun ws39 hb6_ hcs39 => ?_;have hch := hch.step hcs39 (fun y hy => .inr (by simp only [List.mem_singleton] at hy; subst hy; first | assumption | omega));have hb4 := hb4.kq hcs39;have hb7 := hb7.kq hcs39;refine zss rfl rfl ao hb7 rfl fun ws40 hb7_ hcs40 => ?_;have hch := hch.step hcs40 (fun y hy => .inr (by simp only [List.mem_singleton] at hy; subst hy; first | assumption | omega));have hb4 := hb4.kq hcs40;refine za rfl (zz (kh3 (zc fun _ kh57 => ?_)));refine CW.block ?_;refine Sr fun _ kh58 => zm rfl ?_;refine WL.ev (Ev.neq rfl rfl) rfl ?_;refine za rfl (zz (kh58 ?_));refine CW.condT rfl ?_;refine Sr fun _ kh60 => ?_;refine WL.ev (Ev.build (vs := _) (cs := [_, _, _]) rfl rfl) rfl ?_;refine zm rfl ?_;refine zss rfl rfl ao hb4 rfl fun ws41 hb4_ hcs41 => ?_;(try simp only [Sx.splice, qt] at hb4_);have hch := hch.step hcs41 (fun y hy => .inr (by simp only [List.mem_singleton] at hy; subst hy; first | assumption | omega));have hb4 := hb4_;refine za rfl (zz (kh60 ?_));refine zr (bodyA.retR2 rfl (RVal.cell rfl (hb4.varA rfl rfl)) (RVal.tmp rfl) ?_);rw [hF];exact ⟨.inr ⟨rfl, rfl⟩, hch⟩

end

/- Package dyad: Sub, Mul, Neg, Sign. No condition. -/
section
open Go Sx Wd

theorem Mul_dspec (na nb : Bool) (va vb : Value) (la lb : List Nat) (ea eb : Int) (w : World) (ha : NU w va la) (hb : NU w vb lb) (hg : GW w) (hea : -9223372036854775808 ≤ ea ∧ ea ≤ 9223372036854775807) (heb : -9223372036854775808 ≤ eb ∧ eb ≤ 9223372036854775807) : Ret Tryz.prog 43 [.agg [.bool na, va, .int .i64 ea].toArray, .agg [.bool nb, vb, .int .i64 eb].toArray] w fun u w' => DR w' u (both2 mulD (formD na (val la) ea) (formD nb (val lb) eb)) ∧ Chg [] w w' := by
 have hch : Chg [] w w := Chg.refl _ _;have hoa := ha.one;have hob := hb.one;refine zE2 Tryz.func43 rfl ?_;refine Sr fun _ kh1 => ?_;refine WL.boxB rfl rfl rfl fun b2 wm2 hb2 hcm2 hge2 => ?_;have hgehch2 := Nat.le_trans hch.size hge2;have hch := hch.trans hcm2;have ha := ha.keep0 hcm2;have hb := hb.keep0 hcm2;refine WL.boxB rfl rfl rfl fun b3 wm3 hb3 hcm3 hge3 => ?_;have hgehch3 := Nat.le_trans hch.size hge3;have hch := hch.trans hcm3;have ha := ha.keep0 hcm3;have hb := hb.keep0 hcm3;have hneb23 := zdd hb2.lt hge3;have hb2 := hb2.k0 hcm3;refine WL.allocB (l := [.bool false, .slice none 0 0, .int .i64 0]) rfl rfl fun b4 wm4 hb4 hcm4 hge4 => ?_;have hgehch4 := Nat.le_trans hch.size hge4;have hch := hch.trans hcm4;have ha := ha.keep0 hcm4;have hb := hb.keep0 hcm4;have hneb24 := zdd hb2.lt hge4;have hb2 := hb2.k0 hcm4;have hneb34 := zdd hb3.lt hge4;have hb3 := hb3.k0 hcm4;refine za rfl (zz (kh1 (Sr fun _ kh3 => zg hb2 rfl (zg hb3 rfl ?_))));refine WL.call hasF70 rfl rfl (dboth_spec na nb va vb la lb ea eb _ ha hb (hg.keep0 hch) hea heb) fun v w1 h' => ?_;obtain ⟨hB, hC1⟩ := h';have hch := hch.trans hC1;have hb4 := hb4.k0 hC1;rcases hB with ⟨d1, d2, r1, r2, hd1, hd2, rfl, hNr1, hNr2⟩ | ⟨hno, n1, v1, e1, n2, v2, e2, rfl, hv1, hv2⟩
 ·have hok1 := formD_ok hd1;have hok2 := formD_ok hd2;have he1 := hok1.e;have he2 := hok2.e;have hl1 := hok1.len;have hl2 := hok2.len;obtain ⟨⟨a1, c1, rfl, hcap1, hr1⟩, hW1, hl1⟩ := hNr1;have hNr1 : NU _ (.slice a1 (wd d1.m).length c1) (wd d1.m) := NU.of_row hr1 hW1 hl1 rfl hcap1;obtain ⟨⟨a2, c2, rfl, hcap2, hr2⟩, hW2, hl2⟩ := hNr2;have hNr2 : NU _ (.slice a2 (wd d2.m).length c2) (wd d2.m) := NU.of_row hr2 hW2 hl2 rfl hcap2;have hw1 : (wd d1.m).length = 0 ↔ d1.m = 0 := by rw [List.length_eq_zero_iff, wd_eq_nil]
  have hw2 : (wd d2.m).length = 0 ↔ d2.m = 0 := by rw [List.length_eq_zero_iff, wd_eq_nil]
  refine zm rfl (zx rfl rfl (zx rfl rfl (zx rfl rfl ?_)));refine WL.allocB (l := [.bool false, .slice none 0 0, .int .i64 0]) rfl rfl fun b6 wm6 hb6 hcm6 hge6 => ?_;have hgehch6 := Nat.le_trans hch.size hge6;have hch := hch.trans hcm6;have hNr1 := hNr1.keep0 hcm6;have hNr2 := hNr2.keep0 hcm6;have hneb46 := zdd hb4.lt hge6;have hb4 := hb4.k0 hcm6;refine WL.allocB (l := [.bool false, .slice none 0 0, .int .i64 0]) rfl rfl fun b7 wm7 hb7 hcm7 hge7 => ?_;have hgehch7 := Nat.le_trans hch.size hge7;have hch := hch.trans hcm7;have hNr1 := hNr1.keep0 hcm7;have hNr2 := hNr2.keep0 hcm7;have hneb47 := zdd hb4.lt hge7;have hb4 := hb4.k0 hcm7;have hneb67 := zdd hb6.lt hge7;have hb6 := hb6.k0 hcm7;refine zss rfl rfl ao hb6 rfl fun ws45 hb6_ hcs45 => ?_;(try simp only [Sx.splice, qt] at hb6_);have hch := hch.step hcs45 (fun y hy => .inr (by simp only [List.mem_singleton] at hy; subst hy; first | assumption | omega));have hb4 := hb4.kq hcs45;have hb7 := hb7.kq hcs45;have hNr1 := hNr1.keepBK hb6 hcs45 an;have hNr2 := hNr2.keepBK hb6 hcs45 an;have hb6 := hb6_;refine zss rfl rfl ao hb7 rfl fun ws46 hb7_ hcs46 => ?_;(try simp only [Sx.splice, qt] at hb7_);have hch := hch.step hcs46 (fun y hy => .inr (by simp only [List.mem_singleton] at hy; subst hy; first | assumption | omega));have hb4 := hb4.kq hcs46;have hb6 := hb6.kq hcs46;have hNr1 := hNr1.keepBK hb7 hcs46 an;have hNr2 := hNr2.keepBK hb7 hcs46 an;have hb7 := hb7_;refine za rfl (zz (kh3 (zc fun _ kh5 => Sr fun _ kh6 => zm rfl ?_)));refine WL.ev (Ev.neq rfl rfl) rfl ?_;refine zz (kh6 ?_);refine CW.condF rfl ?_;refine zkk ?_;refine kh5 (Sr fun _ kh8 => zf rfl (zl hb6 rfl rfl (zf rfl (zl hb7 rfl rfl ?_))));refine WL.call hasF71 rfl rfl (Mul_spec _ _ _ _ _ hNr1 hNr2) fun v w2 h' => ?_;obtain ⟨hD3, hC3⟩ := h';rw [val_wd, val_wd] at hD3;have hch := hch.trans hC3;have hb4 := hb4.k0 hC3;have hb6 := hb6.k0 hC3;have hb7 := hb7.k0 hC3;rcases hD3 with ⟨_, _, hp8, rp, rfl, hNp⟩ | ⟨hp8, rfl⟩
  ·refine zm rfl (zx rfl rfl (zx rfl rfl (za rfl (za rfl (zz (kh8 (zc fun _ kh10 => Sr fun _ kh11 => zm rfl ?_)))))));refine WL.ev (Ev.neq rfl rfl) rfl ?_;refine zz (kh11 ?_);refine CW.condF rfl ?_;refine zkk ?_;refine kh10 (Sr fun _ kh13 => zf rfl (zl hb6 rfl rfl (zf rfl (zl hb7 rfl rfl ?_))));refine WL.ev (Ev.neq_bool rfl rfl) rfl ?_;refine zm rfl (zf rfl (zl hb6 rfl rfl (zf rfl (zl hb7 rfl rfl ?_))));(first | refine zi rfl rfl ?_ | refine zo rfl rfl ?_);refine WL.call hasF68 rfl rfl (form_spec _ _ _ _ _ hNp (hg.keep0 hch) (by omega)) fun v w3 h' => ?_;obtain ⟨hD44, hC44⟩ := h';have hch := hch.trans hC44;have hb4 := hb4.k0 hC44;rcases hD44 with ⟨r, d, hd, rfl, hNr⟩ | ⟨hd, rfl⟩
   ·refine zx rfl rfl (zx rfl rfl ?_);refine zss rfl rfl ao hb4 rfl fun ws47 hb4_ hcs47 => ?_;(try simp only [Sx.splice, qt] at hb4_);have hch := hch.step hcs47 (fun y hy => .inr (by simp only [List.mem_singleton] at hy; subst hy; first | assumption | omega));have hNr := hNr.keepBK hb4 hcs47 an;have hb4 := hb4_;refine za rfl (zz (kh13 ?_));refine zr (bodyA.retR2 rfl (RVal.cell rfl (hb4.varA rfl rfl)) (RVal.tmp rfl) ?_);rw [hd1, hd2];exact ⟨.inl ⟨r, d, by rw [val_wd] at hd; show mulD d1 d2 = _; unfold mulD; rw [if_neg (by omega)]; exact hd, rfl, hNr⟩, hch⟩
   ·refine zx rfl rfl (zx rfl rfl ?_);refine zss rfl rfl ao hb4 rfl fun ws48 hb4_ hcs48 => ?_;(try simp only [Sx.splice, qt] at hb4_);have hch := hch.step hcs48 (fun y hy => .inr (by simp only [List.mem_singleton] at hy; subst hy; first | assumption | omega));have hb4 := hb4_;refine za rfl (zz (kh13 ?_));refine zr (bodyA.retR2 rfl (RVal.cell rfl (hb4.varA rfl rfl)) (RVal.tmp rfl) ?_);rw [hd1, hd2];exact ⟨.inr ⟨by rw [val_wd] at hd; show mulD d1 d2 = _; unfold mulD; rw [if_neg (by omega)]; exact hd, rfl⟩, hch⟩
  ·refine zm rfl (zx rfl rfl (zx rfl rfl (za rfl (za rfl (zz (kh8 (zc fun _ kh15 => Sr fun _ kh16 => zm rfl ?_)))))));refine WL.ev (Ev.neq rfl rfl) rfl ?_;refine zz (kh16 ?_);refine CW.condT rfl ?_;refine Sr fun _ kh18 => ?_;refine WL.ev (Ev.build (vs := _) (cs := [_, _, _]) rfl rfl) rfl ?_;refine zm rfl ?_;refine zss rfl rfl ao hb4 rfl fun ws49 hb4_ hcs49 => ?_;(try simp only [Sx.splice, qt] at hb4_);have hch := hch.step hcs49 (fun y hy => .inr (by simp only [List.mem_singleton] at hy; subst hy; first | assumption | omega));have hb4 := hb4_;refine za rfl (zz (kh18 ?_));refine zr (bodyA.retR2 rfl (RVal.cell rfl (hb4.varA rfl rfl)) (RVal.tmp rfl) ?_);rw [hd1, hd2];exact ⟨.inr ⟨by show mulD d1 d2 = _; unfold mulD; rw [if_pos (by omega)], rfl⟩, hch⟩
 ·have hF : both2 mulD (formD na (val la) ea) (formD nb (val lb) eb) = none := by rcases hno with hno | hno <;> rw [hno] <;> first | rfl | exact both2_none_right
  refine zm rfl (zx rfl rfl (zx rfl rfl (zx rfl rfl ?_)));refine WL.allocB (l := [.bool false, .slice none 0 0, .int .i64 0]) rfl rfl fun b6 wm6 hb6 hcm6 hge6 => ?_;have hgehch6 := Nat.le_trans hch.size hge6;have hch := hch.trans hcm6;have hneb46 := zdd hb4.lt hge6;have hb4 := hb4.k0 hcm6;refine WL.allocB (l := [.bool false, .slice none 0 0, .int .i64 0]) rfl rfl fun b7 wm7 hb7 hcm7 hge7 => ?_;have hgehch7 := Nat.le_trans hch.size hge7;have hch := hch.trans hcm7;have hneb47 := zdd hb4.lt hge7;have hb4 := hb4.k0 hcm7;have hneb67 := zdd hb6.lt hge7;have hb6 := hb6.k0 hcm7;refine zss rfl rfl ao hb6 rfl fun ws50 hb6_ hcs50 => ?_;have hch := hch.step hcs50 (fun y hy => .inr (by simp only [List.mem_singleton] at hy; subst hy; first | assumption | omega));have hb4 := hb4.kq hcs50;have hb7 := hb7.kq hcs50;refine zss rfl rfl ao hb7 rfl fun ws51 hb7_ hcs51 => ?_;have hch := hch.step hcs51 (fun y hy => .inr (by simp only [List.mem_singleton] at hy; subst hy; first | assumption | omega));have hb4 := hb4.kq hcs51;refine za rfl (zz (kh3 (zc fun _ kh20 => Sr fun _ kh21 => zm rfl ?_)));refine WL.ev (Ev.neq rfl rfl) rfl ?_;refine zz (kh21 ?_);refine CW.condT rfl ?_;refine Sr fun _ kh23 => ?_;refine WL.ev (Ev.build (vs := _) (cs := [_, _, _]) rfl rfl) rfl ?_;refine zm rfl ?_;refine zss rfl rfl ao hb4 rfl fun ws52 hb4_ hcs52 => ?_;(try simp only [Sx.splice, qt] at hb4_);have hch := hch.step hcs52 (fun y hy => .inr (by simp only [List.mem_singleton] at hy; subst hy; first | assumption | omega));have hb4 := hb4_;refine za rfl (zz (kh23 ?_));refine zr (bodyA.retR2 rfl (RVal.cell rfl (hb4.varA rfl rfl)) (RVal.tmp rfl) ?_);rw [hF];exact ⟨.inr ⟨rfl, rfl⟩, hch⟩

/-- How a value stands to nought. -/
def sgD (neg : Bool) (n : Nat) : Int := if n = 0 then 0 else if neg then -1 else 1

theorem Sign_dspec (na : Bool) (va : Value) (la : List Nat) (ea : Int) (w : World) (ha : NU w va la) : Ret Tryz.prog 79 [.agg [.bool na, va, .int .i64 ea].toArray] w fun u w' => u = .int .i64 (sgD na (val la)) ∧ Chg [] w w' := by
 have hch : Chg [] w w := Chg.refl _ _;have hoa := ha.one;have hbz := bl_eq_zero (n := val la);refine zE1 Tryz.func79 rfl ?_;refine Sr fun _ kh1 => ?_;refine WL.boxB rfl rfl rfl fun b1 wm1 hb1 hcm1 hge1 => ?_;have hgehch1 := Nat.le_trans hch.size hge1;have hch := hch.trans hcm1;have ha := ha.keep0 hcm1;refine za rfl (zz (kh1 (zc fun _ kh3 => ?_)));refine CW.block ?_;refine Sr fun _ kh4 => zf rfl (zl hb1 rfl rfl ?_);refine WL.call hasF109 rfl rfl (Len_spec _ _ _ ha) fun v w1 h' => ?_;obtain ⟨rfl, rfl⟩ := h';refine zq rfl rfl (za rfl (zz (kh4 ?_)));refine zy rfl ?_ ?_<;>intro hc1<;>try simp only [qs] at hc1
 ·refine Sr fun _ kh6 => za rfl (zz (kh6 ?_));refine zr (zr1 rfl rfl ?_);unfold sgD; rw [if_pos (by omega)];exact ⟨rfl, hch⟩
 ·refine Sr fun _ kh8 => zf rfl (zl hb1 rfl rfl (za rfl (zz (kh8 ?_))));refine zy rfl ?_ ?_<;>intro hc2<;>try simp only [qs] at hc2
  ·refine Sr fun _ kh10 => za rfl (zz (kh10 ?_));refine zr (zr1 rfl rfl ?_);unfold sgD; rw [if_neg (by omega), if_pos hc2];exact ⟨rfl, hch⟩
  ·refine zkk ?_
   refine kh3 (Sr fun _ kh12 => za rfl (zz (kh12 ?_)));refine zr (zr1 rfl rfl ?_);unfold sgD; rw [if_neg (by omega), if_neg (by rw [hc2]; decide)];exact ⟨rfl, hch⟩

end

/- Numbers of 64 bits as plain numbers: which are NaN, their order. No condition. -/
namespace Fl
open Go

def isNaN (b : Nat) : Bool := decide (9218868437227405312 < b % 9223372036854775808)
def canon (b : Nat) : Nat := if isNaN b then 9221120237041090560 else b
/-- The program's key. -/
def key (b : Nat) : Int := if isNaN b then 9223372036854775807 else if 9223372036854775808 ≤ b then -1 - ((b : Int) - 9223372036854775808) else b
/-- The reference's place. -/
def place (b : Nat) : Int := if 9223372036854775808 ≤ canon b then -1 - ((canon b : Int) - 9223372036854775808) else canon b
def cmpI (a b : Int) : Int := if a < b then -1 else if b < a then 1 else 0

theorem double_sign : Ieee.double.signWeight = 9223372036854775808 := by decide
theorem double_inf : Ieee.double.infRung = 9218868437227405312 := by decide
theorem double_bin : Ieee.double.binade = 4503599627370496 := by decide

theorem cmp_self (x : Int) : compare x x = .eq := by simp
theorem cmpN_self (x : Nat) : compare x x = .eq := by simp
theorem order_self (b : Nat) : (FloatKind.f64.format.order b b != some .eq) = isNaN b := by
  show ((Ieee.double.read b).order (Ieee.double.read b) != some .eq) = isNaN b
  unfold Ieee.Format.read isNaN
  simp only [double_sign, double_inf, double_bin]
  split
  · rename_i h
    have h2 : decide (9218868437227405312 < b % 9223372036854775808) = false := by simp; omega
    rw [h2]
    simp [Ieee.Datum.order, cmp_self]
  · split
    · rename_i h h'
      have h2 : decide (9218868437227405312 < b % 9223372036854775808) = false := by simp; omega
      rw [h2]
      simp [Ieee.Datum.order, cmp_self]
    · split
      · rename_i h h' h3
        have h2 : decide (9218868437227405312 < b % 9223372036854775808) = false := by simp; omega
        rw [h2]
        simp [Ieee.Datum.order, cmpN_self]
      · rename_i h h' h3
        have h2 : decide (9218868437227405312 < b % 9223372036854775808) = true := by simp; omega
        rw [h2]
        simp [Ieee.Datum.order]
theorem signed_zero (k : Nat) : Ieee.signed false 0 k = 0 := by simp [Ieee.signed]
theorem signed_eq (s : Bool) (m k : Nat) : Ieee.signed s m k = 0 ↔ m = 0 := by
  have hp : 0 < 2 ^ k := Nat.two_pow_pos k
  have hz : m * 2 ^ k = 0 ↔ m = 0 := by
    constructor
    · intro h; rcases Nat.mul_eq_zero.1 h with h | h
      · exact h
      · omega
    · intro h; simp [h]
  unfold Ieee.signed
  rw [Nat.shiftLeft_eq]
  split <;> omega
theorem cmp_eq (x y : Int) : (some (compare x y) == some Ordering.eq) = decide (x = y) := by
  rw [Bool.eq_iff_iff]; simp
theorem order_num (s : Bool) (m : Nat) (i : Int) (j : Int) : (Ieee.Datum.order (.number s m i) (.number false 0 j) == some .eq) = decide (m = 0) := by
  unfold Ieee.Datum.order
  simp only [signed_zero]
  rw [cmp_eq, Bool.eq_iff_iff]
  simp [signed_eq]
theorem read_zero : Ieee.double.read 0 = .number false 0 Ieee.double.leastPlace := by decide
theorem order_zero (b : Nat) : (FloatKind.f64.format.order b 0 == some .eq) = decide (b % 9223372036854775808 = 0) := by
  show ((Ieee.double.read b).order (Ieee.double.read 0) == some .eq) = _
  rw [read_zero]
  unfold Ieee.Format.read
  simp only [double_sign, double_inf, double_bin]
  split
  · rw [order_num]
  · split
    · rename_i h h'
      rw [order_num, Bool.eq_iff_iff]
      simp; omega
    · split
      · rename_i h h' h3
        have h2 : decide (b % 9223372036854775808 = 0) = false := by simp; omega
        rw [h2]
        simp only [Ieee.Datum.order]
        split <;> rfl
      · rename_i h h' h3
        have h2 : decide (b % 9223372036854775808 = 0) = false := by simp; omega
        rw [h2]
        rfl
theorem key_pos_eq {b : Nat} (hn : isNaN b = false) (h : b < 9223372036854775808) : key b = b := by
  unfold key; rw [hn]; simp; omega
theorem key_neg_eq {b : Nat} (hn : isNaN b = false) (h : 9223372036854775808 ≤ b) : key b = -1 - ((b : Int) - 9223372036854775808) := by
  unfold key; rw [hn]; simp; omega
end Fl

/- Package dyad: higher. No condition. -/
section
open Go Sx Wd Fl

theorem rep_get {p i : Nat} {L : List Nat} : (List.replicate p 0 ++ L).getD (p + i) 0 = L.getD i 0 := by
  rw [List.getD_eq_getElem?_getD, List.getElem?_append_right (by simp), List.length_replicate, Nat.add_sub_cancel_left, ← List.getD_eq_getElem?_getD]
theorem rep_set2 {p i v : Nat} {L : List Nat} : (List.replicate p 0 ++ L).set (p + i) v = List.replicate p 0 ++ L.set i v := by
  rw [List.set_append_right _ _ (by simp), List.length_replicate, Nat.add_sub_cancel_left]
theorem val_zeros2 (k : Nat) (l : List Nat) : val (List.replicate k 0 ++ l) = val l * 2 ^ (32 * k) := by
  rw [val_append, val_replicate, List.length_replicate, Nat.zero_add, Nat.mul_comm]
structure KHi (l : List Nat) (p s : Nat) (w0 : World) (b : Nat) (g : Nat × List Nat) (w : World) : Prop where
  up : UpI l s g.1 g.2
  hB : OB w b 100 (List.replicate p 0 ++ g.2)
  ch : Chg [] w0 w

theorem higher_spec (v : Value) (l : List Nat) (k p s : Nat) (w : World) (h : NU w v l) (hlm : l.length ≤ 1000000) (hk : k ≤ 1000000000) (hp : p = k / 32) (hsd : s = k % 32) : Ret Tryz.prog 125 [v, .int .i64 (k : Int)] w fun u w' => ∃ L, NU w' u L ∧ val L = val l * 2 ^ k ∧ Chg [] w w' := by
 obtain ⟨⟨al, cl, rfl, hcapl, hrl⟩, hWl, hll⟩ := h;have hch : Chg [] w w := Chg.refl _ _;have hs : s < 32 := by omega
 have hquo : (k : Int) / 32 = (p : Int) := by omega
 have hrem : (k : Int) % 32 = (s : Int) := by omega
 refine zE2 Tryz.func125 rfl ?_;refine Sr fun _ kh1 => za rfl (zz (kh1 (Sr fun _ kh3 => zm rfl ?_)));refine WL.ev (Ev.quoIn rfl rfl (by omega) (by simp only [IntKind.max, IntKind.signed, IntKind.bits]; omega) (by omega)) rfl ?_;rw [hquo];refine zm rfl (zn rfl ?_);(first | refine zi rfl rfl ?_ | refine zo rfl rfl ?_);(first | refine zi rfl rfl ?_ | refine zo rfl rfl ?_);refine WL.makeU (((p + (l).length) + 1)) (((p + (l).length) + 1)) rfl rfl (by omega) (by omega) (by omega) (by omega) (by omega) rfl fun b15 wm15 hb15 hcm15 hge15 => ?_;have hgehch15 := Nat.le_trans hch.size hge15;have hch := hch.ta hcm15;refine za rfl (zz (kh3 (zc fun _ kh5 => Sr fun _ kh6 => zm rfl (zn rfl (zm rfl (zz (kh6 ?_)))))));refine CW.block ?_;refine CW.loop (S := fun g : Nat × List Nat => [(1, .int .i64 (k : Int)), (5, .slice (some ⟨b15, 0, none⟩) (p + l.length + 1) (p + l.length + 1)), (16, .slice al l.length cl), (17, .int .i64 (l.length : Int)), (18, .int .i64 (g.1 : Int))]) (Inv := KHi l p s w b15) (mu := fun g => l.length - g.1) ((0, List.replicate (l.length + 1) 0)) ?_ ?_ ?_
 ·exact ⟨UpI.zero l s, by rw [List.replicate_append_replicate, show p + (l.length + 1) = p + l.length + 1 by omega]; exact hb15, hch⟩
 ·exact SLp
 ·rintro ⟨i, L⟩ wr ⟨hAd, hb15, hch⟩;dsimp only at hAd hb15 hch;dsimp only;have hiX := hAd.le;have hLl := hAd.len;have hWL := hAd.w;refine Sr fun _ kh8 => ?_;refine WL.ev (Ev.lss rfl rfl) rfl ?_;refine zz (kh8 (zc fun _ kh10 => ?_));refine zy rfl ?_ ?_<;>intro hc1<;>try simp only [qs] at hc1
  ·have hst := hAd.step hs hWl (by omega);have hxl := hWl.getD i
   have hg1 : (List.replicate p 0 ++ L).getD (p + i) 0 = L.getD i 0 := rep_get;have hWLi := hWL.getD i;have hlen2 : (List.replicate p 0 ++ L).length = p + l.length + 1 := by simp; omega
   generalize hLL : List.replicate p 0 ++ L = LL at *;refine zkk ?_;refine kh10 (zc fun _ kh11 => ?_);refine CW.block ?_;refine Sr fun _ kh12 => zm rfl ?_;refine WL.ev (Ev.ixR (i) rfl rfl (hrl.keep0 hch) (by omega) (by omega) (by simp; omega)) rfl ?_;refine WL.ev (Ev.load rfl rfl ((hrl.keep0 hch).u32 (by first | omega | (simp; omega)))) rfl ?_;have hw22 := hWl.getD (i);refine za rfl (za rfl (zz (kh12 (Sr fun _ kh14 => zm rfl ?_))));refine WL.ev (Ev.convIn rfl rfl (in_u64 (by omega))) rfl ?_;refine zm rfl ?_;refine WL.ev (Ev.remIn rfl rfl (by omega) (by omega)) rfl ?_;rw [hrem];refine WL.ev (Ev.shlU64 rfl rfl) rfl ?_;refine za rfl (zz (kh14 (Sr fun _ kh16 => zm rfl (zm rfl ?_))));refine WL.ev (Ev.quoIn rfl rfl (by omega) (by simp only [IntKind.max, IntKind.signed, IntKind.bits]; omega) (by omega)) rfl ?_;rw [hquo];refine zm rfl ?_;(first | refine zi rfl rfl ?_ | refine zo rfl rfl ?_);refine WL.ev (Ev.ixB ((p + i)) rfl rfl (by omega) (by omega)) rfl ?_;refine WL.ev (Ev.load rfl rfl (hb15.u32 (by first | omega | (simp; omega)))) rfl ?_;rw [hg1];refine zm rfl ?_;refine WL.ev (Ev.conv32 rfl rfl) rfl ?_;refine WL.ev (Ev.orU rfl rfl rfl (by simp only [IntKind.bits]; omega) (by simp only [IntKind.bits]; omega)) rfl ?_;refine WL.ev (Ev.ixB ((p + i)) rfl rfl (by omega) (by omega)) rfl ?_;refine WL.storeU rfl rfl hb15 (by first | omega | (simp; done) | (simp; omega)) fun ws8 hb15_ hcs8 => ?_;have hch := hch.s1 hcs8;have hb15 := hb15_;refine zz (kh16 ?_);refine zR fun _ kr18 => ?_;refine zm rfl (zm rfl ?_);refine WL.ev (Ev.quoIn rfl rfl (by omega) (by simp only [IntKind.max, IntKind.signed, IntKind.bits]; omega) (by omega)) rfl ?_;rw [hquo];refine zm rfl ?_;(first | refine zi rfl rfl ?_ | refine zo rfl rfl ?_);(first | refine zi rfl rfl ?_ | refine zo rfl rfl ?_);refine zm rfl ?_;refine WL.ev (Ev.shrU (b := 32) rfl rfl (by simp only [IntKind.bits]; omega)) rfl ?_;refine WL.ev (Ev.conv32 rfl rfl) rfl ?_;refine WL.ev (Ev.ixB (((p + i) + 1)) rfl rfl (by omega) (by omega)) rfl ?_;refine WL.storeU rfl rfl hb15 (by first | omega | (simp; done) | (simp; omega)) fun ws9 hb15_ hcs9 => ?_;have hch := hch.s1 hcs9;have hb15 := hb15_;refine WL.nil (kr18 _ _ _ (kh11 ?_));refine zR fun _ kr19 => ?_;(first | refine zi rfl rfl ?_ | refine zo rfl rfl ?_);refine zm rfl ?_;refine WL.nil (kr19 _ _ _ ?_);refine ⟨rfl, (i + 1, ((L.set i (L.getD i 0 ||| (l.getD i 0 * 2 ^ s % 18446744073709551616 % 4294967296))).set (i + 1) (l.getD i 0 * 2 ^ s % 18446744073709551616 / 2 ^ 32 % 4294967296))), ?_, ?_, ?_⟩
   ·exact SLp
   ·refine ⟨hst.2, ?_, hch⟩;rw [← hLL, Nat.add_assoc, rep_set2, rep_set2] at hb15;exact hb15
   ·show l.length - (i + 1) < l.length - i; omega
  ·have hiX2 : i = l.length := by omega
   subst hiX2;refine CW.exit ?_;refine kh5 (Sr fun _ kh20 => zm rfl (za rfl (zz (kh20 ?_))));refine zr (zr1 rfl rfl ?_);refine ⟨_, NU.of_block hb15 (W_append.2 ⟨W_replicate _, hWL⟩) (by simp; omega) (by simp; omega) (Nat.le_refl _), ?_, hch⟩;rw [val_zeros2, hAd.done, Nat.mul_assoc, ← Nat.pow_add, show s + 32 * p = k by omega]

end

/- Rounding to numbers of 64 bits: what it is, and that it is one. No condition. -/
namespace Wd

/-- The k-th number from nought on, in units of 2^-1074. -/
def nz (k : Nat) : Nat := if k < 4503599627370496 then k else (4503599627370496 + k % 4503599627370496) * 2 ^ (k / 4503599627370496 - 1)
theorem nz_form {n x : Nat} (h : n ≤ 9007199254740992) (hx : x = 0 ∨ 4503599627370496 ≤ n) : nz (n + x * 4503599627370496) = n * 2 ^ x := by
  unfold nz
  by_cases h1 : n + x * 4503599627370496 < 4503599627370496
  · rw [if_pos h1]
    have : x = 0 := by omega
    subst this; simp
  · rw [if_neg h1]
    by_cases h2 : n = 9007199254740992
    · subst h2
      rw [show (9007199254740992 + x * 4503599627370496) % 4503599627370496 = 0 by omega, show (9007199254740992 + x * 4503599627370496) / 4503599627370496 - 1 = x + 1 by omega, Nat.pow_succ]
      omega
    · rw [show (n + x * 4503599627370496) / 4503599627370496 - 1 = x by omega, show 4503599627370496 + (n + x * 4503599627370496) % 4503599627370496 = n by omega]
theorem nz_split (k : Nat) : ∃ n x, k = n + x * 4503599627370496 ∧ n < 9007199254740992 ∧ (x = 0 ∨ 4503599627370496 ≤ n) := by
  by_cases h : k < 4503599627370496
  · exact ⟨k, 0, by omega, by omega, .inl rfl⟩
  · exact ⟨4503599627370496 + k % 4503599627370496, k / 4503599627370496 - 1, by omega, by omega, .inr (by omega)⟩
theorem nz_succ {n x : Nat} (h : n < 9007199254740992) (hx : x = 0 ∨ 4503599627370496 ≤ n) : nz (n + x * 4503599627370496 + 1) = (n + 1) * 2 ^ x := by
  rw [show n + x * 4503599627370496 + 1 = (n + 1) + x * 4503599627370496 by omega]
  exact nz_form (by omega) (by omega)
theorem nz_lt_succ (k : Nat) : nz k < nz (k + 1) := by
  obtain ⟨n, x, rfl, h1, h2⟩ := nz_split k
  rw [nz_form (by omega) h2, nz_succ h1 h2]
  exact Nat.mul_lt_mul_of_pos_right (Nat.lt_succ_self n) (Nat.two_pow_pos x)
theorem nz_mono {a b : Nat} (h : a < b) : nz a < nz b := by
  induction b with
  | zero => omega
  | succ b ih =>
    by_cases e : a = b
    · subst e; exact nz_lt_succ a
    · exact Nat.lt_trans (ih (by omega)) (nz_lt_succ b)
theorem nz_le {a b : Nat} (h : a ≤ b) : nz a ≤ nz b := by
  rcases Nat.lt_or_eq_of_le h with h | rfl
  · exact Nat.le_of_lt (nz_mono h)
  · exact Nat.le_refl _
/-- Does a mode go on to the next number? (A: the value; M: the middle.) -/
def upM (mode : Int) (neg : Bool) (k A M : Nat) : Bool :=
  if mode = 0 then decide (M < A) || (decide (M = A) && decide (k % 2 = 1))
  else if mode = 2 then !neg
  else if mode = 3 then neg
  else if mode = 4 then decide (M ≤ A)
  else false
/-- r is the value A / B (in units of 2^-1075), rounded. -/
def IsNear (A B : Nat) (neg : Bool) (mode : Int) (r : Nat) : Prop :=
  ∃ k, k < 9218868437227405312 ∧ 2 * nz k * B ≤ A ∧ (A < 2 * nz (k + 1) * B ∨ k + 1 = 9218868437227405312) ∧
    r = if 2 * nz k * B = A then k else if upM mode neg k A ((nz k + nz (k + 1)) * B) then k + 1 else k
end Wd

/- Package dyad: rounding. No condition. -/
section
open Go Sx Wd

end

/- Package dyad: on, told, Round. No condition. -/
section
open Go Sx Wd

end

/- Package dyad: told, Round. No condition. -/
section
open Go Sx Wd

theorem negF {x : Nat} (h : x < 9223372036854775808) : Op.negFloat .f64 x = x + 9223372036854775808 := by
  show x ^^^ 2 ^ 63 = _
  have e1 : x ^^^ 2 ^ 63 = x ||| 2 ^ 63 := by
    apply Nat.eq_of_testBit_eq
    intro j
    rw [Nat.testBit_xor, Nat.testBit_or, Nat.testBit_two_pow]
    by_cases hj : 63 = j
    · subst hj
      rw [Nat.testBit_lt_two_pow (show x < 2 ^ 63 from h)]
      simp
    · simp [hj]
  have := or_of_mul (x := x) (y := 1) (s := 63) h
  rw [Nat.one_mul] at this
  rw [e1, this]

end

/- Package bits: a number's parts. No condition. -/
section
open Go Sx Wd

/-- A number's parts. -/
structure PP where
  neg : Bool
  cls : Nat
  exp : Int
  frac : Nat
def splitP (x : Nat) : PP :=
  if x / 4503599627370496 % 2048 = 2047 ∧ x % 4503599627370496 ≠ 0 then ⟨false, 4, 0, 0⟩
  else if x / 4503599627370496 % 2048 = 2047 then ⟨decide (x / 9223372036854775808 % 2 = 1), 3, 0, 0⟩
  else if 0 < x / 4503599627370496 % 2048 then ⟨decide (x / 9223372036854775808 % 2 = 1), 2, -1074 + ((x / 4503599627370496 % 2048 : Nat) : Int) - 1, x % 4503599627370496 + 4503599627370496⟩
  else if 0 < x % 4503599627370496 then ⟨decide (x / 9223372036854775808 % 2 = 1), 1, -1074, x % 4503599627370496⟩
  else ⟨decide (x / 9223372036854775808 % 2 = 1), 0, -1074, 0⟩

theorem parts_spec (x : Nat) (w : World) (hx : x < 18446744073709551616) : Ret Tryz.prog 102 [.agg [.int .i64 11, .int .i64 52, .int .i64 (-1074)].toArray, .int .u64 (x : Int)] w fun u w' => u = .agg [.bool (splitP x).neg, .int .i64 ((splitP x).cls : Int), .int .i64 (splitP x).exp, .int .u64 ((splitP x).frac : Int)].toArray ∧ Chg [] w w' := by
 have hch : Chg [] w w := Chg.refl _ _;refine zE2 Tryz.func102 rfl ?_;refine Sr fun _ kh1 => ?_;refine zBh rfl rfl rfl hch fun b2 wm2 hb2 hcm2 hge2 hgehch2 hch => ?_;refine WL.allocB (l := [.bool false, .int .i64 0, .int .i64 0, .int .u64 0]) rfl rfl fun b4 wm4 hb4 hcm4 hge4 => ?_;have hgehch4 := Nat.le_trans hch.size hge4;have hch := hch.ta hcm4;have hneb24 := zdd hb2.lt hge4;have hb2 := hb2.k0 hcm4;refine zz (kh1 (Sr fun _ kh3 => zm rfl (zf rfl (zl hb2 rfl rfl ?_))));refine WL.ev (Ev.shlU64 (a := 1) (b := 52) rfl rfl) rfl ?_;rw [show 1 * 2 ^ 52 % 18446744073709551616 = 4503599627370496 by omega];refine WL.ev (Ev.sub64In (b := 1) rfl rfl (by omega) (by omega)) rfl ?_;refine WL.ev (Ev.andU rfl rfl rfl (by simp only [IntKind.bits]; omega) (by simp only [IntKind.bits]; omega)) rfl ?_;rw [show x &&& (4503599627370496 - 1) = x % 4503599627370496 from Nat.and_two_pow_sub_one_eq_mod x 52];refine za rfl (zz (kh3 (zc fun _ kh5 => ?_)));refine CW.regionSC hmix (by kernel_rfl) fun kR6 kr6 hdr => ?_;have hch := hch.ta hdr;have hb2 := hb2.k0 hdr;have hb4 := hb4.k0 hdr;refine ym rfl ?_;refine WS.ev (Ev.fieldAddr rfl) rfl ?_;refine WS.ev (Ev.load rfl rfl (hb2.at_ rfl)) rfl ?_;refine WS.ev (Ev.shrU (b := 52) rfl rfl (by simp only [IntKind.bits]; omega)) rfl ?_;rw [show x / 2 ^ 52 = x / 4503599627370496 by omega];refine WS.ev (Ev.convIn rfl rfl (in_i64 (by omega))) rfl ?_;refine WS.ev (Ev.fieldAddr rfl) rfl ?_;refine WS.ev (Ev.load rfl rfl (hb2.at_ rfl)) rfl ?_;refine WS.ev (Ev.shlI (a := 1) (b := 11) (c := 2048) rfl rfl (by decide) (by decide)) rfl ?_
 first | refine WS.ev (Ev.subIn rfl rfl (by omega)) rfl ?_ | refine WS.ev (Ev.sub rfl rfl) rfl ?_
 refine WS.ev (Ev.andI (b := 2047) rfl rfl (by omega) (by omega)) rfl ?_;rw [show x / 4503599627370496 &&& 2047 = x / 4503599627370496 % 2048 from Nat.and_two_pow_sub_one_eq_mod _ 11];refine ya rfl ?_;refine WS.nil (kr6 _ _ ?_);refine kh5 (Sr fun _ kh7 => zm rfl (zf rfl (zl hb2 rfl rfl (zf rfl (zl hb2 rfl rfl ?_)))));(first | refine zi rfl rfl ?_ | refine zo rfl rfl ?_);refine WL.ev (Ev.shrU (b := 63) rfl rfl (by simp only [IntKind.bits]; omega)) rfl ?_;rw [show x / 2 ^ 63 = x / 9223372036854775808 by omega];refine WL.ev (Ev.andU (b := 1) rfl rfl rfl (by simp only [IntKind.bits]; omega) (by simp only [IntKind.bits]; omega)) rfl ?_;rw [Nat.and_one_is_mod];refine zq rfl rfl ?_;have hng : decide (((x / 9223372036854775808 % 2 : Nat) : Int) = 1) = decide (x / 9223372036854775808 % 2 = 1) := decide_eq_decide.2 (by omega);rw [hng];refine za rfl (zz (kh7 (zc fun _ kh9 => ?_)));refine CW.block ?_;refine CW.seqM 33 (decide (x / 4503599627370496 % 2048 = 2047 ∧ x % 4503599627370496 ≠ 0)) ?_ ?_
 ·refine zR fun _ kr10 => ?_;refine zm rfl (zf rfl (zl hb2 rfl rfl ?_));refine WL.ev (Ev.shlI (a := 1) (b := 11) (c := 2048) rfl rfl (by decide) (by decide)) rfl ?_
  first | refine WL.ev (Ev.subIn rfl rfl (by omega)) rfl ?_ | refine WL.ev (Ev.sub rfl rfl) rfl ?_
  refine zq rfl rfl (zm rfl ?_);refine zb ?_ ?_<;>intro hg1<;>try simp only [qs] at hg1
  ·refine zw rfl (zm rfl (zw rfl ?_));refine WL.ev (Ev.neq rfl rfl) rfl ?_
   refine zt rfl rfl (za rfl ?_);refine WL.nil (kr10 _ _ _ ?_);refine ⟨rfl, rfl, Subs.consB rfl ?_ ?_⟩
   ·first | (simp; omega) | (refine decide_eq_decide.2 ?_; omega)
   ·exact SMg
  ·refine zv rfl (zv rfl (ze rfl rfl (za rfl ?_)));refine WL.nil (kr10 _ _ _ ?_);refine ⟨rfl, rfl, Subs.consB rfl ?_ ?_⟩
   ·first | (simp; omega) | (refine decide_eq_decide.2 ?_; omega)
   ·exact SMg
 ·refine zy rfl ?_ ?_<;>intro hc2<;>try simp only [qs] at hc2
  ·refine Sr fun _ kh11 => ?_
   refine WL.ev (Ev.build (vs := _) (cs := [_, _, _, _]) rfl rfl) rfl ?_;refine zss rfl rfl ao hb4 rfl fun ws1 hb4_ hcs1 => ?_;(try simp only [Sx.splice, qt] at hb4_);have hch := hch.s1 hcs1;have hb4 := hb4_;refine zz (kh11 ?_);refine zr (bodyA.retR1 rfl (RVal.cell rfl (hb4.varA rfl rfl)) ?_);unfold splitP; rw [if_pos (by omega)];exact ⟨rfl, hch⟩
  ·refine Sr fun _ kh13 => zm rfl (zf rfl (zl hb2 rfl rfl ?_));refine WL.ev (Ev.shlI (a := 1) (b := 11) (c := 2048) rfl rfl (by decide) (by decide)) rfl ?_
   first | refine WL.ev (Ev.subIn rfl rfl (by omega)) rfl ?_ | refine WL.ev (Ev.sub rfl rfl) rfl ?_
   refine zq rfl rfl (za rfl (zz (kh13 ?_)));refine zy rfl ?_ ?_<;>intro hc3<;>try simp only [qs] at hc3
   ·refine Sr fun _ kh15 => zm rfl ?_
    refine WL.ev (Ev.build (vs := _) (cs := [_, _, _, _]) rfl rfl) rfl ?_;refine zss rfl rfl ao hb4 rfl fun ws2 hb4_ hcs2 => ?_;(try simp only [Sx.splice, qt] at hb4_);have hch := hch.s1 hcs2;have hb4 := hb4_;refine zz (kh15 ?_);refine zr (bodyA.retR1 rfl (RVal.cell rfl (hb4.varA rfl rfl)) ?_);unfold splitP; rw [if_neg (by omega), if_pos (by omega)];exact ⟨rfl, hch⟩
   ·refine Sr fun _ kh17 => zm rfl ?_
    refine WL.ev (Ev.gtr rfl rfl) rfl ?_;refine za rfl (zz (kh17 ?_));refine zy rfl ?_ ?_<;>intro hc4<;>try simp only [qs] at hc4
    ·refine zc fun _ kh19 => ?_
     refine CW.regionKC 12 13 rfl hmix fun kR20 kr20 hS hdr => ?_;have hch := hch.ta hdr;have hb2 := hb2.k0 hdr;have hb4 := hb4.k0 hdr;have hb2_r := hb2;refine wk 0 rfl hS (fun _ _ => Ev.move rfl) (wk 1 rfl hS (fun _ _ => Ev.fieldAddr rfl) (wk 2 rfl hS (fun _ hw' => Ev.load rfl rfl ((hb2_r.keep0 hw').at_ rfl)) (wk 3 rfl hS (fun _ _ => Ev.move rfl) (wk 4 rfl hS (fun _ _ => Ev.addIn rfl rfl (by omega)) (wk 5 rfl hS (fun _ _ => Ev.subIn rfl rfl (by omega)) (wk 6 rfl hS (fun _ _ => Ev.move rfl) (wk 7 rfl hS (fun _ _ => Ev.fieldAddr rfl) (wk 8 rfl hS (fun _ hw' => Ev.load rfl rfl ((hb2_r.keep0 hw').at_ rfl)) (wk 9 rfl hS (fun _ _ => Ev.shlU64 (a := 1) (b := 52) rfl rfl) ?_)))))))));rw [show 1 * 2 ^ 52 % 18446744073709551616 = 4503599627370496 by omega];refine wk 10 rfl hS (fun _ _ => Ev.orU rfl rfl rfl (by simp only [IntKind.bits]; omega) (by simp only [IntKind.bits]; omega)) ?_;rw [show x % 4503599627370496 ||| 4503599627370496 = x % 4503599627370496 + 4503599627370496 from or_of_mul (s := 52) (y := 1) (Nat.mod_lt _ (by decide))];refine wk 11 rfl hS (fun _ _ => Ev.build (vs := _) (cs := [_, _, _, _]) rfl rfl) ?_;refine WK.storeB 12 rfl (by kernel_rfl) (by kernel_rfl) rfl rfl rfl ao hb4 (by simp) rfl fun ws3 hb4_ hcs3 => ?_;(try simp only [Sx.splice, qt] at hb4_);have hch := hch.s1 hcs3;have hb4 := hb4_;refine WK.done (by kernel_rfl) (kr20 _ _ _ ?_);refine kh19 ?_;refine zr (bodyA.retR1 rfl (RVal.cell rfl (hb4.varA rfl rfl)) ?_);unfold splitP; rw [if_neg (by omega), if_neg (by omega), if_pos (by omega)];exact ⟨rfl, hch⟩
    ·refine Sr fun _ kh21 => zm rfl ?_
     refine WL.ev (Ev.gtr rfl rfl) rfl ?_;refine za rfl (zz (kh21 ?_));refine zy rfl ?_ ?_<;>intro hc5<;>try simp only [qs] at hc5
     ·refine Sr fun _ kh23 => zm rfl (zf rfl (zl hb2 rfl rfl (zm rfl ?_)));refine WL.ev (Ev.build (vs := _) (cs := [_, _, _, _]) rfl rfl) rfl ?_
      refine zss rfl rfl ao hb4 rfl fun ws4 hb4_ hcs4 => ?_;(try simp only [Sx.splice, qt] at hb4_);have hch := hch.s1 hcs4;have hb4 := hb4_;refine zz (kh23 ?_);refine zr (bodyA.retR1 rfl (RVal.cell rfl (hb4.varA rfl rfl)) ?_);unfold splitP; rw [if_neg (by omega), if_neg (by omega), if_neg (by omega), if_pos (by omega)];exact ⟨rfl, hch⟩
     ·refine zkk ?_
      refine kh9 (Sr fun _ kh25 => zm rfl (zf rfl (zl hb2 rfl rfl ?_)));refine WL.ev (Ev.build (vs := _) (cs := [_, _, _, _]) rfl rfl) rfl ?_;refine zss rfl rfl ao hb4 rfl fun ws5 hb4_ hcs5 => ?_;(try simp only [Sx.splice, qt] at hb4_);have hch := hch.s1 hcs5;have hb4 := hb4_;refine zz (kh25 ?_);refine zr (bodyA.retR1 rfl (RVal.cell rfl (hb4.varA rfl rfl)) ?_);unfold splitP; rw [if_neg (by omega), if_neg (by omega), if_neg (by omega), if_neg (by omega)];exact ⟨rfl, hch⟩

end

/- Package bits: Split, Class; package policy: kinds, counts. No condition. -/
section
open Go Sx Wd

theorem long_spec (w : World) : Ret Tryz.prog 101 [] w fun u w' => u = .agg [.int .i64 11, .int .i64 52, .int .i64 (-1074)].toArray ∧ Chg [] w w' := by
 have hch : Chg [] w w := Chg.refl _ _;refine zE0 Tryz.func101 rfl ?_;refine Sr fun _ kh1 => ?_;refine WL.allocB (l := [.int .i64 0, .int .i64 0, .int .i64 0]) rfl rfl fun b0 wm0 hb0 hcm0 hge0 => ?_;have hgehch0 := Nat.le_trans hch.size hge0;have hch := hch.ta hcm0;refine zz (kh1 (Sr fun _ kh3 => ?_));refine WL.ev (Ev.build (vs := _) (cs := [_, _, _]) rfl rfl) rfl ?_;refine zss rfl rfl ao hb0 rfl fun ws6 hb0_ hcs6 => ?_;(try simp only [Sx.splice, qt] at hb0_);have hch := hch.s1 hcs6;have hb0 := hb0_;refine zz (kh3 ?_);refine zr (bodyA.retR1 rfl (RVal.cell rfl (hb0.varA rfl rfl)) ?_);exact ⟨rfl, hch⟩

theorem Split_spec (x : Nat) (w : World) (hx : x < 18446744073709551616) : Ret Tryz.prog 67 [.float .f64 x] w fun u w' => u = .agg [.bool (splitP x).neg, .int .i64 ((splitP x).cls : Int), .int .i64 (splitP x).exp, .int .u64 ((splitP x).frac : Int)].toArray ∧ Chg [] w w' := by
 have hch : Chg [] w w := Chg.refl _ _;refine zE1 Tryz.func67 rfl ?_;refine Sr fun _ kh1 => ?_;refine WL.allocB (l := [.bool false, .int .i64 0, .int .i64 0, .int .u64 0]) rfl rfl fun b2 wm2 hb2 hcm2 hge2 => ?_;have hgehch2 := Nat.le_trans hch.size hge2;have hch := hch.ta hcm2;refine zz (kh1 (Sr fun _ kh3 => ?_));refine WL.call hasF101 rfl rfl (long_spec _) fun v w1 h' => ?_;obtain ⟨rfl, hC3⟩ := h';have hch := hch.ta hC3;have hb2 := hb2.k0 hC3;refine zm rfl ?_;refine WL.ev (Ev.ext rfl (ext29 _ _)) rfl ?_;refine WL.call hasF102 rfl rfl (parts_spec x _ hx) fun v w2 h' => ?_;obtain ⟨rfl, hC6⟩ := h';have hch := hch.ta hC6;have hb2 := hb2.k0 hC6;refine zss rfl rfl ao hb2 rfl fun ws7 hb2_ hcs7 => ?_;(try simp only [Sx.splice, qt] at hb2_);have hch := hch.s1 hcs7;have hb2 := hb2_;refine zz (kh3 ?_);refine zr (bodyA.retR1 rfl (RVal.cell rfl (hb2.varA rfl rfl)) ?_);exact ⟨rfl, hch⟩

/-- A number's kind: finite, -0, +0, +Inf, -Inf, NaN. -/
def kindP (x : Nat) : Nat :=
  if (splitP x).cls = 4 then 5 else if (splitP x).cls = 3 ∧ (splitP x).neg = true then 4 else if (splitP x).cls = 3 then 3
  else if (splitP x).cls = 0 ∧ (splitP x).neg = true then 1 else if (splitP x).cls = 0 then 2 else 0

theorem kind_spec (x : Nat) (w : World) (hx : x < 18446744073709551616) : Ret Tryz.prog 65 [.float .f64 x] w fun u w' => u = .int .i64 (kindP x : Int) ∧ Chg [] w w' := by
 have hch : Chg [] w w := Chg.refl _ _;refine zE1 Tryz.func65 rfl ?_;refine Sr fun _ kh1 => za rfl (zz (kh1 (Sr fun _ kh3 => zm rfl ?_)));refine WL.call hasF67 rfl rfl (Split_spec x _ hx) fun v w1 h' => ?_;obtain ⟨rfl, hC5⟩ := h';have hch := hch.ta hC5;refine WL.allocB (l := [.bool false, .int .i64 0, .int .i64 0, .int .u64 0]) rfl rfl fun b3 wm3 hb3 hcm3 hge3 => ?_;have hgehch3 := Nat.le_trans hch.size hge3;have hch := hch.ta hcm3;refine zss rfl rfl ao hb3 rfl fun ws8 hb3_ hcs8 => ?_;(try simp only [Sx.splice, qt] at hb3_);have hch := hch.s1 hcs8;have hb3 := hb3_;refine zz (kh3 (zc fun _ kh5 => ?_));refine CW.block ?_;refine Sr fun _ kh6 => zf rfl (zl hb3 rfl rfl (zq rfl rfl (za rfl (zz (kh6 ?_)))));refine zy rfl ?_ ?_<;>intro hc1<;>try simp only [qs] at hc1
 ·refine Sr fun _ kh8 => za rfl (zz (kh8 ?_));refine zr (zr1 rfl rfl ?_);unfold kindP; rw [if_pos (by omega)];exact ⟨rfl, hch⟩
 ·refine CW.seqM 10 (decide ((splitP x).cls = 3 ∧ (splitP x).neg = true)) ?_ ?_
  ·refine zR fun _ kr10 => ?_;refine zf rfl (zl hb3 rfl rfl (zq rfl rfl (zm rfl ?_)));refine zb ?_ ?_<;>intro hg2<;>try simp only [qs] at hg2
   ·refine zw rfl (zf rfl (zw rfl (zl hb3 rfl rfl (zt rfl rfl (za rfl ?_)))));refine WL.nil (kr10 _ _ _ ?_);refine ⟨rfl, rfl, Subs.consB rfl ?_ ?_⟩
    ·first | (simp_all; done) | (simp; omega) | (cases hnn : (splitP x).neg <;> simp_all <;> omega)
    ·exact SMg
   ·refine zv rfl (zv rfl (ze rfl rfl (za rfl ?_)));refine WL.nil (kr10 _ _ _ ?_);refine ⟨rfl, rfl, Subs.consB rfl ?_ ?_⟩
    ·first | (simp_all; done) | (simp; omega) | (cases hnn : (splitP x).neg <;> simp_all <;> omega)
    ·exact SMg
  ·refine zy rfl ?_ ?_<;>intro hc3<;>try simp only [qs] at hc3
   ·have hK10 := hc3
    refine Sr fun _ kh11 => za rfl (zz (kh11 ?_));refine zr (zr1 rfl rfl ?_);unfold kindP; rw [if_neg (by omega), if_pos hK10];exact ⟨rfl, hch⟩
   ·have hK10 := hc3
    refine Sr fun _ kh13 => zf rfl (zl hb3 rfl rfl (zq rfl rfl (za rfl (zz (kh13 ?_)))));refine zy rfl ?_ ?_<;>intro hc4<;>try simp only [qs] at hc4
    ·refine Sr fun _ kh15 => za rfl (zz (kh15 ?_));refine zr (zr1 rfl rfl ?_);unfold kindP; rw [if_neg (by omega), if_neg hK10, if_pos (by omega)];exact ⟨rfl, hch⟩
    ·refine CW.seqM 22 (decide ((splitP x).cls = 0 ∧ (splitP x).neg = true)) ?_ ?_
     ·refine zR fun _ kr17 => ?_;refine zf rfl (zl hb3 rfl rfl (zq rfl rfl (zm rfl ?_)));refine zb ?_ ?_<;>intro hg5<;>try simp only [qs] at hg5
      ·refine zw rfl (zf rfl (zw rfl (zl hb3 rfl rfl (zt rfl rfl (za rfl ?_)))));refine WL.nil (kr17 _ _ _ ?_);refine ⟨rfl, rfl, Subs.consB rfl ?_ ?_⟩
       ·first | (simp_all; done) | (simp; omega) | (cases hnn : (splitP x).neg <;> simp_all <;> omega)
       ·exact SMg
      ·refine zv rfl (zv rfl (ze rfl rfl (za rfl ?_)));refine WL.nil (kr17 _ _ _ ?_);refine ⟨rfl, rfl, Subs.consB rfl ?_ ?_⟩
       ·first | (simp_all; done) | (simp; omega) | (cases hnn : (splitP x).neg <;> simp_all <;> omega)
       ·exact SMg
     ·refine zy rfl ?_ ?_<;>intro hc6<;>try simp only [qs] at hc6
      ·have hK22 := hc6
       refine Sr fun _ kh18 => za rfl (zz (kh18 ?_));refine zr (zr1 rfl rfl ?_);unfold kindP; rw [if_neg (by omega), if_neg hK10, if_neg (by omega), if_pos hK22];exact ⟨rfl, hch⟩
      ·have hK22 := hc6
       refine Sr fun _ kh20 => zf rfl (zl hb3 rfl rfl (zq rfl rfl (za rfl (zz (kh20 ?_)))));refine zy rfl ?_ ?_<;>intro hc7<;>try simp only [qs] at hc7
       ·refine Sr fun _ kh22 => za rfl (zz (kh22 ?_));refine zr (zr1 rfl rfl ?_);unfold kindP; rw [if_neg (by omega), if_neg hK10, if_neg (by omega), if_neg hK22, if_pos (by omega)];exact ⟨rfl, hch⟩
       ·refine zkk ?_
        refine kh5 (Sr fun _ kh24 => za rfl (zz (kh24 ?_)));refine zr (zr1 rfl rfl ?_);unfold kindP; rw [if_neg (by omega), if_neg hK10, if_neg (by omega), if_neg hK22, if_neg (by omega)];exact ⟨rfl, hch⟩

theorem choice_spec (n : Int) (w : World) : Ret Tryz.prog 100 [.int .i64 n] w fun u w' => u = .bool (decide (0 ≤ n ∧ n ≤ 2)) ∧ w = w' := by
 refine zE1 Tryz.func100 rfl ?_;refine Sr fun _ kh1 => za rfl (zz (kh1 (Sr fun _ kh3 => zm rfl ?_)));refine WL.ev (Ev.geq rfl rfl) rfl ?_;refine zm rfl ?_;refine zb ?_ ?_<;>intro hg1<;>try simp only [qs] at hg1
 ·refine zw rfl (zm rfl (zw rfl ?_));refine WL.ev (Ev.leq rfl rfl) rfl ?_
  refine zt rfl rfl (za rfl (zz (kh3 ?_)));refine zr (zr1 rfl rfl ?_);refine ⟨congrArg Value.bool (decide_eq_decide.2 (by omega)), rfl⟩
 ·refine zv rfl (zv rfl (ze rfl rfl (za rfl (zz (kh3 ?_)))));refine zr (zr1 rfl rfl ?_);refine ⟨?_, rfl⟩;rw [decide_eq_false (by omega)]

def mayQ (a b : Int) : Prop := (0 ≤ a ∧ a ≤ 2) ∧ (0 ≤ b ∧ b ≤ 2)
instance (a b : Int) : Decidable (mayQ a b) := by unfold mayQ; exact inferInstance

theorem May_spec (pn pi : Int) (w : World) : Ret Tryz.prog 64 [.agg [.int .i64 pn, .int .i64 pi].toArray] w fun u w' => u = .bool (decide (mayQ pn pi)) ∧ Chg [] w w' := by
 have hch : Chg [] w w := Chg.refl _ _;refine zE1 Tryz.func64 rfl ?_;refine Sr fun _ kh1 => ?_;refine zBh rfl rfl rfl hch fun b1 wm1 hb1 hcm1 hge1 hgehch1 hch => ?_;refine za rfl (zz (kh1 (Sr fun _ kh3 => zf rfl (zl hb1 rfl rfl ?_))));refine WL.call hasF100 rfl rfl (choice_spec pn _) fun v w1 h' => ?_;obtain ⟨rfl, rfl⟩ := h';refine zm rfl ?_;refine zb ?_ ?_<;>intro hg1<;>try simp only [qs] at hg1
 ·refine zw rfl (zf rfl (zw rfl (zl hb1 rfl rfl (zw rfl ?_))));refine WL.call hasF100 rfl rfl (choice_spec pi _) fun v w2 h' => ?_
  obtain ⟨rfl, rfl⟩ := h';refine zt rfl rfl (za rfl (zz (kh3 ?_)));refine zr (zr1 rfl rfl ?_);refine ⟨congrArg Value.bool (decide_eq_decide.2 (by unfold mayQ; omega)), hch⟩
 ·refine zv rfl (zv rfl (zv rfl (ze rfl rfl (za rfl (zz (kh3 ?_))))));refine zr (zr1 rfl rfl ?_);refine ⟨?_, hch⟩;rw [decide_eq_false (by unfold mayQ; omega)]

end

/- Package policy: counts of kinds. No condition. -/
section
open Go Sx Wd

/-- Counts of kinds. -/
structure SP where
  na : Nat
  up : Nat
  dn : Nat
  mi : Nat
  pl : Nat
  al : Nat
def SP.cells (s : SP) : List Value := [.int .i64 (s.na : Int), .int .i64 (s.up : Int), .int .i64 (s.dn : Int), .int .i64 (s.mi : Int), .int .i64 (s.pl : Int), .int .i64 (s.al : Int)]
def SP.le (s : SP) (n : Nat) : Prop := s.na ≤ n ∧ s.up ≤ n ∧ s.dn ≤ n ∧ s.mi ≤ n ∧ s.pl ≤ n ∧ s.al ≤ n
def SP.zero : SP := ⟨0, 0, 0, 0, 0, 0⟩
def countP (s : SP) (k : Nat) : SP :=
  ⟨s.na + (if k = 5 then 1 else 0), s.up + (if k = 3 then 1 else 0), s.dn + (if k = 4 then 1 else 0), s.mi + (if k = 1 then 1 else 0), s.pl + (if k = 2 then 1 else 0), s.al + 1⟩
theorem countP.le {s : SP} {k n : Nat} (h : s.le n) : (countP s k).le (n + 1) := by
  obtain ⟨a, b, c, d, e, f⟩ := h
  refine ⟨?_, ?_, ?_, ?_, ?_, ?_⟩ <;> (simp only [countP]; try split) <;> omega
def mayBeP (s : SP) : Prop := s.na + s.up + s.dn + s.mi + s.pl ≤ s.al ∧ s.al ≤ 1099511627776
instance (s : SP) : Decidable (mayBeP s) := by unfold mayBeP; exact inferInstance
theorem count_spec (b k : Nat) (s : SP) (w : World) (hB : BK w b 60 s.cells) (hs : s.le 1000000000000000) : Ret Tryz.prog 66 [.pointer (some ⟨b, 0, none⟩), .int .i64 (k : Int)] w fun u w' => BK w' b 60 (countP s k).cells ∧ Chg [b] w w' := by
 obtain ⟨hs1, hs2, hs3, hs4, hs5, hs6⟩ := hs;unfold SP.cells at hB;have hch : Chg [b] w w := Chg.refl _ _;refine zE2 Tryz.func66 rfl ?_;refine Sr fun _ kh1 => zm rfl ?_;refine WL.ev (Ev.nilPtr rfl) rfl ?_;refine zf rfl (zl hB rfl rfl ?_);(first | refine zi rfl rfl ?_ | refine zo rfl rfl ?_);refine WL.ev (Ev.nilPtr rfl) rfl ?_;refine zf rfl ?_;refine WL.storeC rfl rfl o1 hB (by simp) rfl fun ws9 hB_ hcs9 => ?_;(try simp only [Sx.splice, qt] at hB_);have hch := hch.s1 hcs9;have hB := hB_;refine zz (kh1 (Sr fun _ kh3 => zm rfl (zz (kh3 ?_))));refine CW.block ?_;refine Sr fun _ kh5 => zq rfl rfl (za rfl (zz (kh5 ?_)));refine zy rfl ?_ ?_<;>intro hc1<;>try simp only [qs] at hc1
 ·refine zR fun _ kr7 => ?_
  refine zm rfl ?_;refine WL.ev (Ev.nilPtr rfl) rfl ?_;refine zf rfl (zl hB rfl rfl ?_);(first | refine zi rfl rfl ?_ | refine zo rfl rfl ?_);refine WL.ev (Ev.nilPtr rfl) rfl ?_;refine zf rfl ?_;refine WL.storeC rfl rfl o1 hB (by simp) rfl fun ws10 hB_ hcs10 => ?_;(try simp only [Sx.splice, qt] at hB_);have hch := hch.s1 hcs10;have hB := hB_;refine WL.nil (kr7 _ _ _ ?_);refine bodyA.norm0 rfl ?_;refine ⟨?_, hch⟩;have hk : k = 5 := by omega
  subst hk
  simpa [SP.cells, countP] using hB
 ·refine Sr fun _ kh8 => zq rfl rfl (za rfl (zz (kh8 ?_)));refine zy rfl ?_ ?_<;>intro hc2<;>try simp only [qs] at hc2
  ·refine zR fun _ kr10 => ?_
   refine zm rfl ?_;refine WL.ev (Ev.nilPtr rfl) rfl ?_;refine zf rfl (zl hB rfl rfl ?_);(first | refine zi rfl rfl ?_ | refine zo rfl rfl ?_);refine WL.ev (Ev.nilPtr rfl) rfl ?_;refine zf rfl ?_;refine WL.storeC rfl rfl o1 hB (by simp) rfl fun ws11 hB_ hcs11 => ?_;(try simp only [Sx.splice, qt] at hB_);have hch := hch.s1 hcs11;have hB := hB_;refine WL.nil (kr10 _ _ _ ?_);refine bodyA.norm0 rfl ?_;refine ⟨?_, hch⟩;have hk : k = 3 := by omega
   subst hk
   simpa [SP.cells, countP] using hB
  ·refine Sr fun _ kh11 => zq rfl rfl (za rfl (zz (kh11 ?_)));refine zy rfl ?_ ?_<;>intro hc3<;>try simp only [qs] at hc3
   ·refine zR fun _ kr13 => ?_
    refine zm rfl ?_;refine WL.ev (Ev.nilPtr rfl) rfl ?_;refine zf rfl (zl hB rfl rfl ?_);(first | refine zi rfl rfl ?_ | refine zo rfl rfl ?_);refine WL.ev (Ev.nilPtr rfl) rfl ?_;refine zf rfl ?_;refine WL.storeC rfl rfl o1 hB (by simp) rfl fun ws12 hB_ hcs12 => ?_;(try simp only [Sx.splice, qt] at hB_);have hch := hch.s1 hcs12;have hB := hB_;refine WL.nil (kr13 _ _ _ ?_);refine bodyA.norm0 rfl ?_;refine ⟨?_, hch⟩;have hk : k = 4 := by omega
    subst hk
    simpa [SP.cells, countP] using hB
   ·refine Sr fun _ kh14 => zq rfl rfl (za rfl (zz (kh14 ?_)));refine zy rfl ?_ ?_<;>intro hc4<;>try simp only [qs] at hc4
    ·refine zR fun _ kr16 => ?_
     refine zm rfl ?_;refine WL.ev (Ev.nilPtr rfl) rfl ?_;refine zf rfl (zl hB rfl rfl ?_);(first | refine zi rfl rfl ?_ | refine zo rfl rfl ?_);refine WL.ev (Ev.nilPtr rfl) rfl ?_;refine zf rfl ?_;refine WL.storeC rfl rfl o1 hB (by simp) rfl fun ws13 hB_ hcs13 => ?_;(try simp only [Sx.splice, qt] at hB_);have hch := hch.s1 hcs13;have hB := hB_;refine WL.nil (kr16 _ _ _ ?_);refine bodyA.norm0 rfl ?_;refine ⟨?_, hch⟩;have hk : k = 1 := by omega
     subst hk
     simpa [SP.cells, countP] using hB
    ·refine Sr fun _ kh17 => zq rfl rfl (za rfl (zz (kh17 ?_)));refine zy rfl ?_ ?_<;>intro hc5<;>try simp only [qs] at hc5
     ·refine zR fun _ kr19 => ?_
      refine zm rfl ?_;refine WL.ev (Ev.nilPtr rfl) rfl ?_;refine zf rfl (zl hB rfl rfl ?_);(first | refine zi rfl rfl ?_ | refine zo rfl rfl ?_);refine WL.ev (Ev.nilPtr rfl) rfl ?_;refine zf rfl ?_;refine WL.storeC rfl rfl o1 hB (by simp) rfl fun ws14 hB_ hcs14 => ?_;(try simp only [Sx.splice, qt] at hB_);have hch := hch.s1 hcs14;have hB := hB_;refine WL.nil (kr19 _ _ _ ?_);refine bodyA.norm0 rfl ?_;refine ⟨?_, hch⟩;have hk : k = 2 := by omega
      subst hk
      simpa [SP.cells, countP] using hB
     ·refine zkk ?_
      refine bodyA.norm0 rfl ?_;refine ⟨?_, hch⟩;have k1 : ¬ k = 5 := by omega
      have k2 : ¬ k = 3 := by omega
      have k3 : ¬ k = 4 := by omega
      have k4 : ¬ k = 1 := by omega
      have k5 : ¬ k = 2 := by omega
      simpa [SP.cells, countP, k1, k2, k3, k4, k5] using hB

end

/- Package policy: Verdict, Nought, Plain; math.Inf, Copysign; bits.NaN. No condition. -/
section
open Go Sx Wd

theorem Plain_spec (w : World) : Ret Tryz.prog 41 [] w fun u w' => u = .agg [.int .i64 0, .int .i64 0].toArray ∧ Chg [] w w' := by
 have hch : Chg [] w w := Chg.refl _ _;refine zE0 Tryz.func41 rfl ?_;refine Sr fun _ kh1 => ?_;refine WL.allocB (l := [.int .i64 0, .int .i64 0]) rfl rfl fun b0 wm0 hb0 hcm0 hge0 => ?_;have hgehch0 := Nat.le_trans hch.size hge0;have hch := hch.ta hcm0;refine zz (kh1 (Sr fun _ kh3 => ?_));refine WL.ev (Ev.build (vs := _) (cs := [_, _]) rfl rfl) rfl ?_;refine zss rfl rfl ao hb0 rfl fun ws15 hb0_ hcs15 => ?_;(try simp only [Sx.splice, qt] at hb0_);have hch := hch.s1 hcs15;have hb0 := hb0_;refine zz (kh3 ?_);refine zr (bodyA.retR1 rfl (RVal.cell rfl (hb0.varA rfl rfl)) ?_);exact ⟨rfl, hch⟩

end

/- Package policy: Sift. No condition. -/
section
open Go Sx Wd

/-- A slice of numbers of 64 bits that reads as l. -/
structure NF (w : World) (v : Value) (l : List Nat) : Prop where
  ex : ∃ a c, v = .slice a l.length c ∧ l.length ≤ c ∧ RW w a (l.map f64v)
  hw : ∀ x ∈ l, x < 18446744073709551616
  len : l.length ≤ 70368744177664
theorem NF.keep0 {w w' : World} {v : Value} {l : List Nat} (h : NF w v l) (hc : Chg [] w w') : NF w' v l := by
  obtain ⟨⟨a, c, h1, h2, h3⟩, h4, h5⟩ := h
  exact ⟨⟨a, c, h1, h2, h3.keep0 hc⟩, h4, h5⟩
theorem NF.part {w : World} {a : Option Addr} {l : List Nat} {k c : Nat} (h : RW w a (l.map f64v)) (hw : ∀ x ∈ l.take k, x < 18446744073709551616) (hl : l.length ≤ 70368744177664) (hk : k ≤ l.length) (hc : k ≤ c) : NF w (.slice a k c) (l.take k) := by
  have e : (l.take k).length = k := by rw [List.length_take]; omega
  refine ⟨⟨a, c, by rw [e], by omega, ?_⟩, hw, by omega⟩
  rw [List.map_take]
  exact h.take k
theorem D_getD {l : List Nat} (h : ∀ x ∈ l, x < 18446744073709551616) (i : Nat) : l.getD i 0 < 18446744073709551616 := by
  rw [List.getD_eq_getElem?_getD]
  cases q : l[i]? with
  | none => simp
  | some x => exact h x (List.mem_of_getElem? q)
def finP (x : Nat) : Bool := decide (kindP x ≤ 2)
def filP (l : List Nat) : List Nat := l.filter finP
def cntP (l : List Nat) : SP := l.foldl (fun s x => countP s (kindP x)) SP.zero
def siftE (l : List Nat) (pn pi : Int) : Int :=
  if ¬ mayQ pn pi then 1 else if 65536 < l.length then 2 else if 0 < (cntP l).na ∧ pn = 2 then 60 else if 0 < (cntP l).up + (cntP l).dn ∧ pi = 2 then 61 else 0
theorem take_step {l : List Nat} {i : Nat} (h : i < l.length) : l.take (i + 1) = l.take i ++ [l.getD i 0] := by
  rw [List.take_add_one, List.getD_eq_getElem?_getD, List.getElem?_eq_getElem h]; rfl
theorem cntP_step {l : List Nat} {i : Nat} (h : i < l.length) : cntP (l.take (i + 1)) = countP (cntP (l.take i)) (kindP (l.getD i 0)) := by
  unfold cntP; rw [take_step h, List.foldl_append]; rfl
theorem cntP_le : ∀ (l : List Nat) (s : SP) (n : Nat), s.le n → (l.foldl (fun s x => countP s (kindP x)) s).le (n + l.length)
  | [], s, n, h => h
  | x :: l, s, n, h => by
    have := cntP_le l (countP s (kindP x)) (n + 1) (countP.le h)
    simpa [Nat.add_assoc, Nat.add_comm 1] using this
theorem cnt_le (l : List Nat) : (cntP l).le l.length := by
  have := cntP_le l SP.zero 0 (by refine ⟨?_, ?_, ?_, ?_, ?_, ?_⟩ <;> exact Nat.zero_le _)
  rw [Nat.zero_add] at this; exact this
theorem SP.le.mono {s : SP} {n m : Nat} (h : s.le n) (hm : n ≤ m) : s.le m := by
  obtain ⟨a, b, c, d, e, f⟩ := h
  exact ⟨by omega, by omega, by omega, by omega, by omega, by omega⟩
theorem filP_step {l : List Nat} {i : Nat} (h : i < l.length) : filP (l.take (i + 1)) = if kindP (l.getD i 0) ≤ 2 then filP (l.take i) ++ [l.getD i 0] else filP (l.take i) := by
  unfold filP
  rw [take_step h, List.filter_append, List.filter_cons]
  simp only [finP, decide_eq_true_eq, List.filter_nil]
  split <;> simp
theorem filP_len (l : List Nat) (i : Nat) : (filP (l.take i)).length ≤ i := by
  unfold filP
  have := List.length_filter_le finP (l.take i)
  rw [List.length_take] at this
  omega
theorem set_take {L : List Nat} {m v : Nat} (h : m < L.length) : (L.set m v).take (m + 1) = L.take m ++ [v] := by
  rw [List.take_add_one, List.take_set_of_le (Nat.le_refl _), List.getElem?_set_self h]; rfl

structure KSift (l : List Nat) (pn pi : Int) (w0 : World) (b3 b5 b7 b23 : Nat) (g : Nat × List Nat) (w : World) : Prop where
  le : g.1 ≤ l.length
  len : g.2.length = l.length
  tk : g.2.take (filP (l.take g.1)).length = filP (l.take g.1)
  h3 : BK w b3 95 [.int .i64 pn, .int .i64 pi]
  h5 : BK w b5 60 [.int .i64 0, .int .i64 0, .int .i64 0, .int .i64 0, .int .i64 0, .int .i64 0]
  h7 : BK w b7 60 (cntP (l.take g.1)).cells
  hF : FB w b23 27 g.2
  ch : Chg [] w0 w

theorem Sift_spec (v : Value) (l : List Nat) (pn pi : Int) (w : World) (hv : NF w v l) : Ret Tryz.prog 40 [v, .agg [.int .i64 pn, .int .i64 pi].toArray] w fun u w' => (siftE l pn pi ≠ 0 ∧ u = .tuple [.slice none 0 0, .agg SP.zero.cells.toArray, .int .i64 (siftE l pn pi)].toArray ∧ Chg [] w w') ∨ (siftE l pn pi = 0 ∧ ∃ v2, NF w' v2 (filP l) ∧ u = .tuple [v2, .agg (cntP l).cells.toArray, .int .i64 0].toArray ∧ Chg [] w w') := by
 obtain ⟨⟨al, cl, rfl, hcapl, hrl⟩, hWl, hll⟩ := hv;have hch : Chg [] w w := Chg.refl _ _;refine zE2 Tryz.func40 rfl ?_;refine Sr fun _ kh1 => ?_;refine zBh rfl rfl rfl hch fun b3 wm3 hb3 hcm3 hge3 hgehch3 hch => ?_;refine za rfl ?_;refine WL.allocB (l := [.int .i64 0, .int .i64 0, .int .i64 0, .int .i64 0, .int .i64 0, .int .i64 0]) rfl rfl fun b5 wm5 hb5 hcm5 hge5 => ?_;have hgehch5 := Nat.le_trans hch.size hge5;have hch := hch.ta hcm5;have hneb35 := zdd hb3.lt hge5;have hb3 := hb3.k0 hcm5;refine za rfl (zz (kh1 (Sr fun _ kh3 => ?_)));refine WL.allocB (l := [.int .i64 0, .int .i64 0, .int .i64 0, .int .i64 0, .int .i64 0, .int .i64 0]) rfl rfl fun b7 wm7 hb7 hcm7 hge7 => ?_;have hgehch7 := Nat.le_trans hch.size hge7;have hch := hch.ta hcm7;have hneb37 := zdd hb3.lt hge7;have hb3 := hb3.k0 hcm7;have hneb57 := zdd hb5.lt hge7;have hb5 := hb5.k0 hcm7;refine zz (kh3 (zc fun _ kh5 => ?_));refine CW.block ?_;refine Sr fun _ kh6 => zg hb3 rfl ?_;refine WL.call hasF64 rfl rfl (May_spec pn pi _) fun v w1 h' => ?_;obtain ⟨rfl, hC13⟩ := h';have hch := hch.ta hC13;have hb3 := hb3.k0 hC13;have hb5 := hb5.k0 hC13;have hb7 := hb7.k0 hC13;refine WL.ev (Ev.not rfl) rfl ?_;refine za rfl (zz (kh6 ?_));refine zy rfl ?_ ?_<;>intro hc1<;>try simp only [qs] at hc1
 ·have hM : ¬ mayQ pn pi := hc1
  refine zc fun _ kh8 => ?_;refine CW.regionKC 2 4 rfl hmix fun kR9 kr9 hS hdr => ?_;have hch := hch.ta hdr;have hb5 := hb5.k0 hdr;have hb7 := hb7.k0 hdr;have hb7_r := hb7;refine wk 0 rfl hS (fun _ hw' => Ev.loadA rfl rfl (hb7_r.keep0 hw') rfl) (wk 1 rfl hS (fun _ _ => Ev.assign rfl) ?_);refine WK.storeB 2 rfl (by kernel_rfl) (by kernel_rfl) rfl rfl rfl ao hb5 (by simp) rfl fun ws16 hb5_ hcs16 => ?_;(try simp only [Sx.splice, qt] at hb5_);have hch := hch.s1 hcs16;have hb5 := hb5_;refine WK.after 3 rfl (by kernel_rfl) (by kernel_rfl) (Ev.assign rfl) rfl ?_;refine WK.done (by kernel_rfl) (kr9 _ _ _ ?_);refine kh8 ?_;refine zr (bodyA.retR3 rfl (RVal.tmp rfl) (RVal.cell rfl (hb5.varA rfl rfl)) (RVal.tmp rfl) ?_);exact .inl ⟨by unfold siftE; rw [if_pos hM]; decide, by unfold siftE; rw [if_pos hM]; rfl, hch⟩
 ·have hM : ¬ ¬ mayQ pn pi := fun q => q hc1
  refine Sr fun _ kh10 => zm rfl (zn rfl ?_);refine WL.ev (Ev.gtr rfl rfl) rfl ?_;refine za rfl (zz (kh10 ?_));refine zy rfl ?_ ?_<;>intro hc2<;>try simp only [qs] at hc2
  ·have hL : 65536 < l.length := by omega
   refine zc fun _ kh12 => ?_;refine CW.regionKC 2 4 rfl hmix fun kR13 kr13 hS hdr => ?_;have hch := hch.ta hdr;have hb5 := hb5.k0 hdr;have hb7 := hb7.k0 hdr;have hb7_r := hb7;refine wk 0 rfl hS (fun _ hw' => Ev.loadA rfl rfl (hb7_r.keep0 hw') rfl) (wk 1 rfl hS (fun _ _ => Ev.assign rfl) ?_);refine WK.storeB 2 rfl (by kernel_rfl) (by kernel_rfl) rfl rfl rfl ao hb5 (by simp) rfl fun ws17 hb5_ hcs17 => ?_;(try simp only [Sx.splice, qt] at hb5_);have hch := hch.s1 hcs17;have hb5 := hb5_;refine WK.after 3 rfl (by kernel_rfl) (by kernel_rfl) (Ev.assign rfl) rfl ?_;refine WK.done (by kernel_rfl) (kr13 _ _ _ ?_);refine kh12 ?_;refine zr (bodyA.retR3 rfl (RVal.tmp rfl) (RVal.cell rfl (hb5.varA rfl rfl)) (RVal.tmp rfl) ?_);exact .inl ⟨by unfold siftE; rw [if_neg hM, if_pos hL]; decide, by unfold siftE; rw [if_neg hM, if_pos hL]; rfl, hch⟩
  ·have hL : ¬ 65536 < l.length := by omega
   refine zkk ?_;refine kh5 (Sr fun _ kh14 => zm rfl (zn rfl ?_));refine WL.makeF (0) ((l).length) rfl rfl (by omega) (by omega) (by omega) (by omega) (by omega) rfl fun b23 wm23 hb23 hcm23 hge23 => ?_;have hgehch23 := Nat.le_trans hch.size hge23;have hch := hch.ta hcm23;have hneb323 := zdd hb3.lt hge23;have hb3 := hb3.k0 hcm23;have hneb523 := zdd hb5.lt hge23;have hb5 := hb5.k0 hcm23;have hneb723 := zdd hb7.lt hge23;have hb7 := hb7.k0 hcm23;refine za rfl (zz (kh14 (zc fun _ kh16 => Sr fun _ kh17 => zm rfl (zn rfl (zm rfl (zz (kh17 ?_)))))));refine CW.block ?_;refine CW.loop (S := fun g : Nat × List Nat => [(0, .slice al l.length cl), (3, .pointer (some ⟨b3, 0, none⟩)), (4, .slice none 0 0), (5, .pointer (some ⟨b5, 0, none⟩)), (6, .int .i64 0), (7, .pointer (some ⟨b7, 0, none⟩)), (8, .slice (some ⟨b23, 0, none⟩) (filP (l.take g.1)).length l.length), (25, .int .i64 (l.length : Int)), (26, .int .i64 (g.1 : Int))]) (Inv := KSift l pn pi w b3 b5 b7 b23) (mu := fun g => l.length - g.1) ((0, List.replicate l.length 0)) ?_ ?_ ?_
   ·exact ⟨Nat.zero_le _, by simp, by simp [filP], hb3, hb5, hb7, hb23, hch⟩
   ·exact SLp
   ·rintro ⟨i, L⟩ wr ⟨hi1, hLl, htk, hb3, hb5, hb7, hb23, hch⟩;dsimp only at hi1 hLl htk hb3 hb5 hb7 hb23 hch;dsimp only;have hfl := filP_len l i;have hx64 := D_getD hWl i;have hcle := (cnt_le (l.take i)).mono (m := 65536) (by rw [List.length_take]; omega);refine Sr fun _ kh19 => ?_;refine WL.ev (Ev.lss rfl rfl) rfl ?_;refine zz (kh19 (zc fun _ kh21 => ?_));refine zy rfl ?_ ?_<;>intro hc3<;>try simp only [qs] at hc3
    ·refine zkk ?_
     refine kh21 (zc fun _ kh22 => ?_);refine CW.block ?_;refine Sr fun _ kh23 => zm rfl (za rfl (zz (kh23 (Sr fun _ kh25 => zm rfl (zm rfl ?_)))));refine WL.ev (Ev.ixR (i) rfl rfl (hrl.keep0 hch) (by omega) (by omega) (by simp; omega)) rfl ?_;refine WL.ev (Ev.load rfl rfl ((hrl.keep0 hch).f64 (by first | omega | (simp; omega)))) rfl ?_;refine WL.call hasF65 rfl rfl (kind_spec (l.getD i 0) _ hx64) fun v w2 h' => ?_;obtain ⟨rfl, hC33⟩ := h';have hch := hch.ta hC33;have hb3 := hb3.k0 hC33;have hb5 := hb5.k0 hC33;have hb7 := hb7.k0 hC33;have hb23 := hb23.k0 hC33;refine za rfl (zz (kh25 (Sr fun _ kh27 => zm rfl ?_)));refine WL.call hasF66 rfl rfl (count_spec b7 (kindP (l.getD i 0)) (cntP (l.take i)) _ hb7 (hcle.mono (by decide))) fun v w3 h' => ?_;obtain ⟨hb7_, hC35⟩ := h';have hch := hch.step hC35 (fun y hy => by simp only [List.mem_singleton] at hy; subst hy; exact .inr (by omega));have hb3 := hb3.keep hC35 (by simp; try omega);have hb5 := hb5.keep hC35 (by simp; try omega);have hb23 := hb23.keep hC35 (by simp; try omega);have hb7 := hb7_;rw [← cntP_step (by omega)] at hb7;refine zz (kh27 (Sr fun _ kh29 => zm rfl ?_));refine WL.ev (Ev.leq rfl rfl) rfl ?_;refine zz (kh29 ?_);refine zy rfl ?_ ?_<;>intro hc4<;>try simp only [qs] at hc4
     ·have hk2 : kindP (l.getD i 0) ≤ 2 := by omega
      refine zR fun _ kr31 => ?_;refine zm rfl (zm rfl (zm rfl ?_));refine WL.ev (Ev.ixR (i) rfl rfl (hrl.keep0 hch) (by omega) (by omega) (by simp; omega)) rfl ?_;refine WL.ev (Ev.load rfl rfl ((hrl.keep0 hch).f64 (by first | omega | (simp; omega)))) rfl ?_;refine WL.buildSlice (m := 1) (cs := [f64v (l.getD i 0)]) (by decide) (by decide) rfl (by kernel_rfl) rfl fun b43 w43 hn43 => ?_;have hcm43 := hn43.chg;have hb43 : BK w43 b43 27 [f64v (l.getD i 0)] := hn43.at_;have hch := hch.ta hcm43;have hb3 := hb3.keep hcm43 (by simp; try omega);have hb5 := hb5.keep hcm43 (by simp; try omega);have hb7 := hb7.keep hcm43 (by simp; try omega);have hb23 := hb23.keep hcm43 (by simp; try omega);refine WL.appendF (v := l.getD i 0) rfl rfl hb23 (hb43.at_ rfl) (by omega) (by omega) rfl fun w44 hb23_ hcs44 => ?_;have hch := hch.step hcs44 (fun y hy => by simp only [List.mem_singleton] at hy; subst hy; exact .inr (by omega));have hb3 := hb3.keep hcs44 (by simp; try omega);have hb5 := hb5.keep hcs44 (by simp; try omega);have hb7 := hb7.keep hcs44 (by simp; try omega);have hb23 := hb23_;rw [show (filP (l.take i)).length + 1 = (filP (l.take (i + 1))).length by rw [filP_step (by omega), if_pos hk2]; simp];refine za rfl ?_;refine WL.nil (kr31 _ _ _ (kh22 ?_));refine zR fun _ kr32 => ?_;(first | refine zi rfl rfl ?_ | refine zo rfl rfl ?_);refine zm rfl ?_;refine WL.nil (kr32 _ _ _ ?_);refine ⟨rfl, (i + 1, L.set (filP (l.take i)).length (l.getD i 0)), ?_, ?_, ?_⟩
      ·exact SLp
      ·exact ⟨by dsimp only; omega, by simpa using hLl, by dsimp only; rw [filP_step (by omega), if_pos hk2, List.length_append]; show List.take _ _ = _; rw [show [l.getD i 0].length = 1 from rfl, set_take (by omega), htk], hb3, hb5, hb7, hb23, hch⟩
      ·show l.length - (i + 1) < l.length - i; omega
     ·have hk2 : ¬ kindP (l.getD i 0) ≤ 2 := by omega
      have hfs : filP (l.take (i + 1)) = filP (l.take i) := by rw [filP_step (by omega), if_neg hk2]
      refine zkk ?_;refine kh22 ?_;refine zR fun _ kr33 => ?_;(first | refine zi rfl rfl ?_ | refine zo rfl rfl ?_);refine zm rfl ?_;refine WL.nil (kr33 _ _ _ ?_);refine ⟨rfl, (i + 1, L), ?_, ?_, ?_⟩
      ·rw [← hfs]; repeat (first | exact Subs.nil | refine Subs.cons rfl ?_ | refine Subs.consI rfl (by omega) ?_)
      ·exact ⟨by dsimp only; omega, hLl, by dsimp only; rw [hfs]; exact htk, hb3, hb5, hb7, hb23, hch⟩
      ·show l.length - (i + 1) < l.length - i; omega
    ·have hiX : i = l.length := by omega
     subst hiX;rw [List.take_length] at hb7 hcle htk hfl;rw [List.take_length];unfold SP.cells at hb7;obtain ⟨hcl1, hcl2, hcl3, hcl4, hcl5, hcl6⟩ := hcle;refine CW.exit ?_;refine kh16 (zc fun _ kh34 => ?_);refine CW.block ?_;refine CW.seqM 46 (decide (0 < (cntP l).na ∧ pn = 2)) ?_ ?_
     ·refine zR fun _ kr35 => ?_;refine zf rfl (zl hb7 rfl rfl ?_);refine WL.ev (Ev.gtr rfl rfl) rfl ?_;refine zm rfl ?_;refine zb ?_ ?_<;>intro hg5<;>try simp only [qs] at hg5
      ·refine zw rfl (zf rfl (zw rfl (zl hb3 rfl rfl (zw rfl (zq rfl rfl (zt rfl rfl (za rfl ?_)))))));refine WL.nil (kr35 _ _ _ ?_);refine ⟨rfl, rfl, Subs.consB rfl ?_ ?_⟩
       ·first | (simp; omega) | (refine decide_eq_decide.2 ?_; omega)
       ·exact SMg
      ·refine zv rfl (zv rfl (zv rfl (ze rfl rfl (za rfl ?_))));refine WL.nil (kr35 _ _ _ ?_);refine ⟨rfl, rfl, Subs.consB rfl ?_ ?_⟩
       ·first | (simp; omega) | (refine decide_eq_decide.2 ?_; omega)
       ·exact SMg
     ·refine zy rfl ?_ ?_<;>intro hc6<;>try simp only [qs] at hc6
      ·have hA : 0 < (cntP l).na ∧ pn = 2 := hc6
       refine Sr fun _ kh36 => ?_;refine WL.ev (Ev.build (vs := _) (cs := [_, _, _, _, _, _]) rfl rfl) rfl ?_;refine za rfl ?_;refine zss rfl rfl ao hb5 rfl fun ws18 hb5_ hcs18 => ?_;(try simp only [Sx.splice, qt] at hb5_);have hch := hch.s1 hcs18;have hb5 := hb5_;refine za rfl (zz (kh36 ?_));refine zr (bodyA.retR3 rfl (RVal.tmp rfl) (RVal.cell rfl (hb5.varA rfl rfl)) (RVal.tmp rfl) ?_);exact .inl ⟨by unfold siftE; rw [if_neg hM, if_neg hL, if_pos hA]; decide, by unfold siftE; rw [if_neg hM, if_neg hL, if_pos hA]; rfl, hch⟩
      ·have hA : ¬ (0 < (cntP l).na ∧ pn = 2) := hc6
       refine CW.seqM 56 (decide (0 < (cntP l).up + (cntP l).dn ∧ pi = 2)) ?_ ?_
       ·refine zR fun _ kr38 => ?_;refine zf rfl (zl hb7 rfl rfl (zf rfl (zl hb7 rfl rfl ?_)));(first | refine zi rfl rfl ?_ | refine zo rfl rfl ?_);refine WL.ev (Ev.gtr rfl rfl) rfl ?_;refine zm rfl ?_;refine zb ?_ ?_<;>intro hg7<;>try simp only [qs] at hg7
        ·refine zw rfl (zf rfl (zw rfl (zl hb3 rfl rfl (zw rfl (zq rfl rfl (zt rfl rfl (za rfl ?_)))))));refine WL.nil (kr38 _ _ _ ?_);refine ⟨rfl, rfl, Subs.consB rfl ?_ ?_⟩
         ·first | (simp; omega) | (refine decide_eq_decide.2 ?_; omega)
         ·exact SMg
        ·refine zv rfl (zv rfl (zv rfl (ze rfl rfl (za rfl ?_))));refine WL.nil (kr38 _ _ _ ?_);refine ⟨rfl, rfl, Subs.consB rfl ?_ ?_⟩
         ·first | (simp; omega) | (refine decide_eq_decide.2 ?_; omega)
         ·exact SMg
       ·refine zy rfl ?_ ?_<;>intro hc8<;>try simp only [qs] at hc8
        ·have hB : 0 < (cntP l).up + (cntP l).dn ∧ pi = 2 := hc8
         refine Sr fun _ kh39 => ?_;refine WL.ev (Ev.build (vs := _) (cs := [_, _, _, _, _, _]) rfl rfl) rfl ?_;refine za rfl ?_;refine zss rfl rfl ao hb5 rfl fun ws19 hb5_ hcs19 => ?_;(try simp only [Sx.splice, qt] at hb5_);have hch := hch.s1 hcs19;have hb5 := hb5_;refine za rfl (zz (kh39 ?_));refine zr (bodyA.retR3 rfl (RVal.tmp rfl) (RVal.cell rfl (hb5.varA rfl rfl)) (RVal.tmp rfl) ?_);exact .inl ⟨by unfold siftE; rw [if_neg hM, if_neg hL, if_neg hA, if_pos hB]; decide, by unfold siftE; rw [if_neg hM, if_neg hL, if_neg hA, if_pos hB]; rfl, hch⟩
        ·have hB : ¬ (0 < (cntP l).up + (cntP l).dn ∧ pi = 2) := hc8
         refine zkk ?_;refine kh34 (zc fun _ kh41 => ?_);refine CW.regionKC 3 5 rfl hmix fun kR42 kr42 hS hdr => ?_;have hch := hch.ta hdr;have hb5 := hb5.k0 hdr;have hb7 := hb7.k0 hdr;have hb23 := hb23.k0 hdr;have hb7_r := hb7;refine wk 0 rfl hS (fun _ _ => Ev.move rfl) (wk 1 rfl hS (fun _ hw' => Ev.loadA rfl rfl (hb7_r.keep0 hw') rfl) (wk 2 rfl hS (fun _ _ => Ev.assign rfl) ?_));refine WK.storeB 3 rfl (by kernel_rfl) (by kernel_rfl) rfl rfl rfl ao hb5 (by simp) rfl fun ws20 hb5_ hcs20 => ?_;(try simp only [Sx.splice, qt] at hb5_);have hch := hch.s1 hcs20;have hb23 := hb23.kq hcs20;have hb5 := hb5_;refine WK.after 4 rfl (by kernel_rfl) (by kernel_rfl) (Ev.assign rfl) rfl ?_;refine WK.done (by kernel_rfl) (kr42 _ _ _ ?_);refine kh41 ?_;refine zr (bodyA.retR3 rfl (RVal.tmp rfl) (RVal.cell rfl (hb5.varA rfl rfl)) (RVal.tmp rfl) ?_);refine .inr ⟨by unfold siftE; rw [if_neg hM, if_neg hL, if_neg hA, if_neg hB], _, ?_, rfl, hch⟩;have := NF.part hb23.row (by rw [htk]; exact fun x hx => hWl x (List.mem_filter.1 hx).1) (by omega) (k := (filP l).length) (by omega) (c := l.length) (by omega);rw [htk] at this;exact this

end

/- Deferred calls of named functions; calls through function values. No condition. -/
namespace Sx
open Go

/-- What a function does that is called behind a return. -/
def RetD (P : Program) (f : FuncId) (args : List Value) (w : World) (R : Value → World → Prop) : Prop :=
  ∀ u, CallsD P f args.toArray u w fun e u' w' => u' = u ∧ ∃ v, e = .returned v ∧ R v w'
/-- The one call that is made behind the return: of function g. -/
def bodyD (P : Program) (fn : Func) (n : Nat) (g : FuncId) (R : Value → World → Prop) : AQ
  | .normal, D, s, w | .ret, D, s, w => ∃ vs : List Value, D = [⟨.fn (.func g) #[], vs.toArray⟩] ∧ RetD P g vs w fun _ w' => ∃ v, ResS P fn n D s w' v ∧ R v w'
  | _, _, _, _ => False
section
variable {P : Program} {n : Nat} {D : List Deferred} {s : Sl} {w : World}
theorem frame0 {fn : Func} {args : List Value} (hn : Nat.ble args.length fn.ntmps = true) : Fr fn.ntmps [] (args0 0 args) { tmps := args.toArray ++ Array.replicate (fn.ntmps - args.toArray.size) undef, defers := [] } := by
  have hn' : args.length ≤ fn.ntmps := by simpa [Nat.ble_eq] using hn
  refine ⟨by simp; omega, rfl, fun t v ht => ?_⟩
  rw [look_args0] at ht
  simp only [Nat.zero_le, if_true, Nat.sub_zero] at ht
  have hlt : t < args.length := by
    by_cases hl : t < args.length
    · exact hl
    · rw [List.getElem?_eq_none (by omega)] at ht; cases ht
  rw [Array.getElem?_append_left (by simpa using hlt)]
  simpa using ht
attribute [irreducible] bodyD
variable {ops : Array Oper} {K : KK} {rest : List Oper} {ty : TypeId} {pos : String} {af : Array Edge}
/-! ### Calls through function values -/
variable {d : Nat}
end
end Sx

/- Slices that grow: a function's own row, by its list. No condition. -/
section
open Go Sx Wd

/-- v is a row of the call's own (of a block from lo on, none of X) that reads as l. -/
def GR (w : World) (e : TypeId) (f : Nat → Value) (lo : Nat) (X : List Nat) (v : Value) (l : List Nat) : Prop :=
  w.ownsRow 0 e 1 v l.length (l.map f) ∧ ∀ b, v.ownBlock = some b → lo ≤ b ∧ b ∉ X
section
variable {w w' : World} {e : TypeId} {f : Nat → Value} {lo : Nat} {X : List Nat} {v : Value} {l : List Nat}
theorem GR.nil : GR w e f lo X (.slice none 0 0) [] := ⟨⟨rfl, .inl ⟨rfl, rfl⟩⟩, fun b h => by cases h⟩
theorem GR.lt (h : GR w e f lo X v l) {b : Nat} (hb : v.ownBlock = some b) : b < w.heap.size := own_lt h.1 hb
theorem GR.keep {T : List Nat} (h : GR w e f lo X v l) (hc : Chg T w w') (hT : ∀ b ∈ T, b ∈ X ∨ b < lo ∨ w.heap.size ≤ b) : GR w' e f lo X v l :=
  ⟨own_keep h.1 hc fun b hb hm => by
    obtain ⟨h1, h2⟩ := h.2 b hb
    have h3 := h.lt hb
    rcases hT b hm with q | q | q
    · exact h2 q
    · omega
    · omega, h.2⟩
theorem GR.keep0 (h : GR w e f lo X v l) (hc : Chg [] w w') : GR w' e f lo X v l := h.keep hc (by simp)
theorem GR.one (h : GR w e f lo X v l) : v.oneCell' = true := by
  obtain ⟨a, c, rfl⟩ := own_form h.1; rfl
theorem GR.row (h : GR w e f lo X v l) : ∃ a c, v = .slice a l.length c ∧ l.length ≤ c ∧ RW w a (l.map f) := by
  rcases own_cases h.1 with ⟨rfl, h0, hx⟩ | ⟨g, cap, rfl, hc, _, _⟩
  · have : l = [] := List.length_eq_zero_iff.1 h0
    subst this
    exact ⟨none, 0, rfl, Nat.le_refl _, RW.nil⟩
  · exact ⟨_, cap, rfl, hc, RW.of_own h.1⟩
theorem GR.nu (h : GR w e u32v lo X v l) (hW : W l) (hl : l.length ≤ 70368744177664) : NU w v l := NU.of_own h.1 hW hl
theorem GR.mono {lo' : Nat} {X' : List Nat} (h : GR w e f lo X v l) (hlo : lo' ≤ lo) (hX : ∀ b ∈ X', b ∈ X ∨ b < lo ∨ w.heap.size ≤ b) : GR w e f lo' X' v l :=
  ⟨h.1, fun b hb => by
    obtain ⟨h1, h2⟩ := h.2 b hb
    have h3 := h.lt hb
    refine ⟨by omega, fun hm => ?_⟩
    rcases hX b hm with q | q | q
    · exact h2 q
    · omega
    · omega⟩
/-- What the growing row's block tells the frame. -/
theorem GR.frame {T : List Nat} {w0 : World} (h : GR w e f lo X v l) (hc : Chg v.ownBlock.toList w w') (hf : Chg T w0 w) (hlo : w0.heap.size ≤ lo) : Chg T w0 w' :=
  hf.step hc fun y hy => .inr (by
    cases hv : v.ownBlock with
    | none => rw [hv] at hy; cases hy
    | some b => rw [hv] at hy; have : y = b := by simpa using hy
                subst this; have := (h.2 y hv).1; omega)
theorem GR.notin (h : GR w e f lo X v l) {b : Nat} (hb : b ∈ X ∨ b < lo) : b ∉ v.ownBlock.toList := fun hm => by
  cases hv : v.ownBlock with
  | none => rw [hv] at hm; cases hm
  | some c =>
    rw [hv] at hm
    have : b = c := by simpa using hm
    subst this
    obtain ⟨h1, h2⟩ := h.2 b hv
    rcases hb with q | q
    · exact h2 q
    · omega
end
section
variable {P : Program} {n : Nat} {D : List Deferred} {s : Sl} {w : World} {ops : Array Oper} {K : KK} {rest : List Oper} {ty : TypeId} {pos : String} {af : Array Edge} {d : Nat} {x y : Operand}
theorem Ev.append00 {t e es be : Nat} {de : TypeDesc} {ze : Value} {sz by_ : Nat} {z : Value} {v : Value} {m c : Nat} {xs : List Value} [hT : HasT P t (.slice e) sz by_ z] [hE : HasT P e de es be ze]
    (hx : opnd s x = some v) (hy : opnd s y = some (.slice none 0 c)) (hown : w.ownsRow 0 e es v m xs) :
    Ev P s (.call ⟨.builtin .append, [x, y].toArray, #[t, t]⟩) ty w v w := fun ρ d' pos af g hρ => by
  obtain ⟨i, hi, hi1, hi2, hi3⟩ := hE.inf
  have e1 := hρ x _ hx
  have e2 := hρ y _ hy
  have : (Builtin.append_ #[t, t] ty #[v, .slice none 0 c]).run P w = .ok v w := by
    rcases hown.2 with ⟨rfl, rfl⟩ | ⟨g, cap, cur, rfl, _, _, hnc, _⟩
    · simp [Builtin.append_, run_underlying hT.und, sizeOf, typeInfo, hi, Builtin.lenOf, Builtin.firstCells]
    · simp [Builtin.append_, run_underlying hT.und, sizeOf, typeInfo, hi, Builtin.lenOf, Builtin.firstCells, hnc, storeCells]
  simp [execOp, resolve, invoke, builtin, e1, e2, this]
/-- append(own, a row..). -/
theorem WL.growR {t e be : Nat} {de : TypeDesc} {ze : Value} {sz by_ : Nat} {z : Value} {v : Value} {f : Nat → Value} {lo : Nat} {X : List Nat} {l news : List Nat} {a : Option Addr} {mm c : Nat} [hT : HasT P t (.slice e) sz by_ z] [hE : HasT P e de 1 be ze]
    (hzs : ze.cells.size = 1) (h1 : ∀ i, (f i).oneCell' = true) (hx : opnd s x = some v) (hy : opnd s y = some (.slice a mm c)) (hg : GR w e f lo X v l) (hm : mm = news.length) (hr : RW w a (news.map f)) (hlo : lo ≤ w.heap.size) (hX : ∀ b ∈ X, b < w.heap.size)
    (hbytes : (l.length + news.length) * be ≤ 140737488355328) (h63 : l.length + news.length ≤ 70368744177664) (hd : Nat.blt d n = true)
    (k : ∀ v' w', GR w' e f lo X v' (l ++ news) → Chg v.ownBlock.toList w w' → WL P ops K rest n D ((d, v') :: s) w') :
    WL P ops K (⟨some d, .call ⟨.builtin .append, [x, y].toArray, #[t, t]⟩, ty, pos, af, none⟩ :: rest) n D s w := by
  cases a with
  | some ad =>
    refine WL.append (news := news.map f) hzs (by omega) hx hy hg.1 (by simp; omega) (fun j u hu => ?_) (fun u hu => ?_) (by unfold maxLen; omega) (by rw [hm]; exact hbytes) hd fun v' w' ho hc hl => ?_
    · obtain ⟨ad', e1, hcell⟩ := hr j u hu
      cases e1; exact hcell
    · obtain ⟨i, _, rfl⟩ := List.mem_map.1 hu
      exact h1 i
    · refine k v' w' ⟨by rw [List.length_append, List.map_append, ← hm]; exact ho, fun b hb => ?_⟩ hc
      rcases hl with q | q
      · rw [q] at hb; exact hg.2 b hb
      · rw [q] at hb; cases hb; exact ⟨hlo, fun hm => Nat.lt_irrefl _ (hX _ hm)⟩
  | none =>
    have hn : news = [] := by
      cases news with
      | nil => rfl
      | cons u r => obtain ⟨ad, e1, _⟩ := hr 0 (f u) rfl; cases e1
    subst hn
    have hm0 : mm = 0 := hm
    subst hm0
    refine WL.ev (Ev.append00 hx hy hg.1) hd (k v w ?_ (Chg.refl _ _))
    rw [List.append_nil]; exact hg
end
/-- A row that grows by rows of several cells each. -/
def GRc (w : World) (e : TypeId) (es : Nat) (lo : Nat) (X : List Nat) (v : Value) (m : Nat) (l : List Value) : Prop :=
  w.ownsRow 0 e es v m l ∧ ∀ b, v.ownBlock = some b → lo ≤ b ∧ b ∉ X
end

/- Package root: words. No condition. -/
section
open Go Sx Wd
set_option exponentiation.threshold 5000

/-- The state of moving words up: L what is written, c what is carried. -/
structure LiftI (l : List Nat) (q s i : Nat) (L : List Nat) (c : Nat) : Prop where
  le : i ≤ l.length
  len : L.length = q + i
  w : W L
  cl : c < 2 ^ s
  eq : val L + 2 ^ (32 * (q + i)) * c = 2 ^ (32 * q) * (val (l.take i) * 2 ^ s)
end

/- Package root: words, compared and less. No condition. -/
section
open Go Sx Wd
set_option exponentiation.threshold 5000

end

/- Ratios: their digits, and that a sticky bit rounds them. No condition. -/
namespace Wd
set_option exponentiation.threshold 5000

/-- A sum of neighbours, or twice a number: few digits. -/
def Few (c : Nat) : Prop := ∃ n x, c = n * 2 ^ x ∧ n ≤ 2 ^ 55
/-- The size of a ratio's first digits, by their value. -/
structure DigI (A0 B i size a : Nat) : Prop where
  z : i = 0 → size = 0 ∧ a = A0
  s : 0 < i → A0 * 2 ^ (i - 1) = size * B + a ∧ a < B
  w : size < 2 ^ i
end Wd

/- Whole numbers in words of 64 bits: two's complement. No condition. -/
section
open Wd
set_option exponentiation.threshold 5000

/-- The value of words of 64 bits, the lowest first. -/
def tv : List Nat → Nat
  | [] => 0
  | a :: l => a + 18446744073709551616 * tv l
/-- All words are words. -/
def W64 (l : List Nat) : Prop := ∀ x ∈ l, x < 18446744073709551616
/-! ### Adding and taking a term -/
/-- The first k of a term's words, where they lie. -/
def trm (W : List Nat) (at_ : Nat) : Nat → Nat
  | 0 => 0
  | k + 1 => trm W at_ k + W.getD k 0 * 18446744073709551616 ^ (at_ + k)
/-- The state of adding: words C, carry c, i words done. -/
structure MvA (L W : List Nat) (at_ : Nat) (C : List Nat) (c i : Nat) : Prop where
  len : C.length = L.length
  w : W64 C
  lo : at_ ≤ i
  hi : i ≤ L.length
  c1 : c ≤ 1
  eq : tv C + c * 18446744073709551616 ^ i = tv L + trm W at_ (i - at_)
/-- The state of taking. -/
structure MvS (L W : List Nat) (at_ : Nat) (C : List Nat) (c i : Nat) : Prop where
  len : C.length = L.length
  w : W64 C
  lo : at_ ≤ i
  hi : i ≤ L.length
  c1 : c ≤ 1
  eq : tv C + trm W at_ (i - at_) = tv L + c * 18446744073709551616 ^ i
/-- A value of 128 bits, shifted within three words. -/
def laidW (hi lo by_ : Nat) : List Nat := [lo * 2 ^ by_ % 18446744073709551616, (hi * 2 ^ by_ % 18446744073709551616) ||| (lo / 2 ^ (64 - by_)), hi / 2 ^ (64 - by_)]
theorem laid_or {hi lo k : Nat} (h : lo < 18446744073709551616) (hk : k < 64) : (hi * 2 ^ k % 18446744073709551616) ||| (lo / 2 ^ (64 - k)) = hi * 2 ^ k % 18446744073709551616 + lo / 2 ^ (64 - k) := by
  have e : (18446744073709551616 : Nat) = 2 ^ (64 - k) * 2 ^ k := by rw [← Nat.pow_add, show 64 - k + k = 64 by omega]
  have hp := Nat.two_pow_pos k
  have hq := Nat.two_pow_pos (64 - k)
  have h1 : hi * 2 ^ k % 18446744073709551616 = hi % 2 ^ (64 - k) * 2 ^ k := by rw [e, Nat.mul_mod_mul_right]
  have h2 : lo / 2 ^ (64 - k) < 2 ^ k := by
    rw [Nat.div_lt_iff_lt_mul hq, Nat.mul_comm, ← e]; exact h
  rw [h1, Nat.or_comm, or_of_mul h2, Nat.add_comm]
theorem laidW_val {hi lo k : Nat} (h : lo < 18446744073709551616) (hk : k < 64) : tv (laidW hi lo k) = (hi * 18446744073709551616 + lo) * 2 ^ k := by
  have e : (18446744073709551616 : Nat) = 2 ^ (64 - k) * 2 ^ k := by rw [← Nat.pow_add, show 64 - k + k = 64 by omega]
  simp only [laidW, tv, laid_or h hk]
  have h1 : hi * 2 ^ k % 18446744073709551616 + 18446744073709551616 * (hi / 2 ^ (64 - k)) = hi * 2 ^ k := by
    have h1 : hi * 2 ^ k % 18446744073709551616 = hi % 2 ^ (64 - k) * 2 ^ k := by rw [e, Nat.mul_mod_mul_right]
    have := Nat.mod_add_div hi (2 ^ (64 - k))
    rw [h1]
    calc _ = (hi % 2 ^ (64 - k) + 2 ^ (64 - k) * (hi / 2 ^ (64 - k))) * 2 ^ k := by rw [Nat.add_mul]; congr 1; rw [e]; ac_rfl
      _ = _ := by rw [this]
  have h2 : lo * 2 ^ k % 18446744073709551616 + 18446744073709551616 * (lo / 2 ^ (64 - k)) = lo * 2 ^ k := by
    have h1 : lo * 2 ^ k % 18446744073709551616 = lo % 2 ^ (64 - k) * 2 ^ k := by rw [e, Nat.mul_mod_mul_right]
    have := Nat.mod_add_div lo (2 ^ (64 - k))
    rw [h1]
    calc _ = (lo % 2 ^ (64 - k) + 2 ^ (64 - k) * (lo / 2 ^ (64 - k))) * 2 ^ k := by rw [Nat.add_mul]; congr 1; rw [e]; ac_rfl
      _ = _ := by rw [this]
  rw [Nat.add_mul]
  generalize hi / 2 ^ (64 - k) = p at h1 ⊢
  generalize lo / 2 ^ (64 - k) = q at h2 ⊢
  generalize lo * 2 ^ k % 18446744073709551616 = r at h2 ⊢
  generalize hi * 2 ^ k % 18446744073709551616 = t at h1 ⊢
  rw [show hi * 18446744073709551616 * 2 ^ k = 18446744073709551616 * (hi * 2 ^ k) by ac_rfl]
  generalize hi * 2 ^ k = a at h1 ⊢
  generalize lo * 2 ^ k = b at h2 ⊢
  omega
/-! ### Turning the sign -/
structure MinI (L C : List Nat) (c i : Nat) : Prop where
  len : C.length = L.length
  w : W64 C
  hi : i ≤ L.length
  c1 : c ≤ 1
  same : ∀ j, i ≤ j → C.getD j 0 = L.getD j 0
  eq : tv C + c * 18446744073709551616 ^ i + 2 * tv (L.take i) = tv L + 18446744073709551616 ^ i
end

/- Package super: New, laid, one. No condition. -/
section
open Go Sx Wd
set_option exponentiation.threshold 5000

theorem splitP_fin {x : Nat} (h : (splitP x).cls = 1 ∨ (splitP x).cls = 2) : -1074 ≤ (splitP x).exp ∧ (splitP x).exp ≤ 971 ∧ 0 < (splitP x).frac ∧ (splitP x).frac < 9007199254740992 := by
  revert h
  unfold splitP
  split
  · intro h; simp at h
  split
  · intro h; simp at h
  split
  · intro h; dsimp only; omega
  split
  · intro h; dsimp only; omega
  · intro h; simp at h
theorem splitP_cls (x : Nat) : (splitP x).cls ≤ 4 := by
  unfold splitP
  split
  · simp
  split
  · simp
  split
  · simp
  split <;> simp
/-- What is added or taken. -/
structure TH where
  cls : Nat
  neg : Bool
  tn : Bool
  at_ : Nat
  W : List Nat
end

/- Package super: neg, minus, move. No condition. -/
section
open Go Sx Wd
set_option exponentiation.threshold 5000

end

/- Package super: move. No condition. -/
section
open Go Sx Wd
set_option exponentiation.threshold 5000

/-- What adding (sub false) or taking a term has come to. -/
def MvR (sub : Bool) (L W : List Nat) (a_ : Nat) (C : List Nat) : Prop :=
  (sub = false → ∃ c, c ≤ 1 ∧ tv C + c * 18446744073709551616 ^ 67 = tv L + tv W * 18446744073709551616 ^ a_) ∧ (sub = true → ∃ c, c ≤ 1 ∧ tv C + tv W * 18446744073709551616 ^ a_ = tv L + c * 18446744073709551616 ^ 67)
structure MvI (sub : Bool) (L W : List Nat) (a_ : Nat) (C : List Nat) (c i : Nat) : Prop where
  a : sub = false → MvA L W a_ C c i
  s : sub = true → MvS L W a_ C c i
end

/- Two's complement: what a whole sum is. No condition. -/
section
open Go Sx Wd
set_option exponentiation.threshold 5000

def BB : Nat := 18446744073709551616 ^ 66
def MM : Nat := 18446744073709551616 ^ 67
/-- Words that stand for S. -/
structure Rep (L : List Nat) (S : Int) : Prop where
  len : L.length = 67
  w : W64 L
  eq : (tv L : Int) = S % (MM : Int)
end

/- Package super: great. No condition. -/
section
open Go Sx Wd
set_option exponentiation.threshold 5000

section
variable {P : Program} {s : Sl} {w : World} {ty : TypeId} {x q : Operand}
end
end

/- Package super: size. No condition. -/
section
open Go Sx Wd
set_option exponentiation.threshold 5000

end

/- Package super: count, put. No condition. -/
section
open Go Sx Wd
set_option exponentiation.threshold 5000

end

/- Package super: more, Add. No condition. -/
section
open Go Sx Wd
set_option exponentiation.threshold 5000

/-- What a thing adds, in units of the lowest bit. -/
def thv (t : TH) : Int := if t.cls = 1 ∨ t.cls = 2 then (if t.tn = true then -((tv t.W * 18446744073709551616 ^ t.at_ : Nat) : Int) else ((tv t.W * 18446744073709551616 ^ t.at_ : Nat) : Int)) else 0
end

/- Package super: Add. No condition. -/
section
open Go Sx Wd
set_option exponentiation.threshold 5000

end

/- math/bits: Mul64. No condition. -/
section
open Go Sx Wd
set_option exponentiation.threshold 5000

end

/- Package super: product. No condition. -/
section
open Go Sx Wd
set_option exponentiation.threshold 5000

def prodP (x y : Nat) : TH :=
  if (splitP x).cls = 4 ∨ (splitP y).cls = 4 ∨ (min (splitP x).cls (splitP y).cls = 0 ∧ max (splitP x).cls (splitP y).cls = 3) then ⟨4, false, false, 0, [0, 0, 0]⟩
  else if (splitP x).cls = 3 ∨ (splitP y).cls = 3 then ⟨3, (splitP x).neg != (splitP y).neg, false, 0, [0, 0, 0]⟩
  else if (splitP x).cls = 0 ∨ (splitP y).cls = 0 then ⟨0, (splitP x).neg != (splitP y).neg, false, 0, [0, 0, 0]⟩
  else ⟨2, (splitP x).neg != (splitP y).neg, (splitP x).neg != (splitP y).neg, ((splitP x).exp + (splitP y).exp + 2148).toNat / 64, laidW ((splitP x).frac * (splitP y).frac / 18446744073709551616) ((splitP x).frac * (splitP y).frac % 18446744073709551616) (((splitP x).exp + (splitP y).exp + 2148).toNat % 64)⟩
end

/- Package super: AddProduct. No condition. -/
section
open Go Sx Wd
set_option exponentiation.threshold 5000

end

/- Package super: Exact. No condition. -/
section
open Go Sx Wd
set_option exponentiation.threshold 5000

theorem wd_len_gen {n k K : Nat} (h : n < 2 ^ k) (hk : k ≤ 32 * K) : (wd n).length ≤ K := wd_length_le.2 (Nat.lt_of_lt_of_le h (Nat.pow_le_pow_right (by decide) hk))
/-- What an accumulator's sum is, as a dyad. -/
def sumD (S : Int) : Dy := (formD (decide (S < 0)) S.natAbs (-2148)).getD Dy.zero
theorem sumD_eq {S : Int} (h1 : -((16384 * BB : Nat) : Int) < S) (h2 : S < (16384 * BB : Nat)) (neg : Bool) : formD neg S.natAbs (-2148) = some (if S = 0 then Dy.zero else ⟨neg, S.natAbs / 2 ^ tz S.natAbs, -2148 + tz S.natAbs⟩) := by
  by_cases h0 : S = 0
  · subst h0; rfl
  · have hn : S.natAbs ≠ 0 := by omega
    have hlt : S.natAbs < 2 ^ 4238 := by
      have : 16384 * BB = 2 ^ 4238 := by unfold BB; rw [show (18446744073709551616 : Nat) = 2 ^ 64 from rfl, ← Nat.pow_mul, show (16384 : Nat) = 2 ^ 14 from rfl, ← Nat.pow_add]
      rw [← this]; omega
    have hb := bl_le.2 hlt
    have ht := tz_lt_bl hn
    rw [if_neg h0, formD_some hn]
    have h3 : (wd (S.natAbs / 2 ^ tz S.natAbs)).length ≤ 8192 := wd_len_gen (Nat.lt_of_le_of_lt (Nat.div_le_self _ _) hlt) (by omega)
    omega
end

/- Package root: about, digits. No condition. -/
section
open Go Sx Wd
set_option exponentiation.threshold 5000

end

/- Package root: quotient. No condition. -/
section
open Go Sx Wd
set_option exponentiation.threshold 5000

end

/- Package root: forms. No condition. -/
section
open Go Sx Wd
set_option exponentiation.threshold 5000

/-- Cells from an address on. -/
def RC (w : World) (ad : Addr) (l : List Value) : Prop := ∀ j v, l[j]? = some v → w.cell? (ad.add j) = some v
theorem sgD_zero {neg : Bool} {n : Nat} : sgD neg n = 0 ↔ n = 0 := by
  unfold sgD
  by_cases h : n = 0
  · rw [if_pos h]; simp [h]
  · rw [if_neg h]; cases neg <;> simp [h]

end

/- Package root: rounded, Quot. No condition. -/
section
open Go Sx Wd
set_option exponentiation.threshold 5000

/-- A form's value is what it was made of. -/
theorem formD_val {neg : Bool} {n : Nat} {e : Int} {d : Dy} (h : formD neg n e = some d) (h0 : n ≠ 0) : ∃ t : Nat, n = d.m * 2 ^ t ∧ d.e = e + t ∧ d.neg = neg := by
  unfold formD at h
  rw [if_neg h0] at h
  split at h
  · cases h
  · cases h; exact ⟨tz n, (tz_spec h0).2, rfl, rfl⟩
end

/- What numbers are, as whole numbers of 2^-2148, and their sums. No condition. -/
section
open Go Sx Wd
set_option exponentiation.threshold 9000

/-- A number's size in units of 2^-2148 (nought, if it is none or not finite). -/
def fvN (x : Nat) : Nat := if (splitP x).cls = 1 ∨ (splitP x).cls = 2 then (splitP x).frac * 2 ^ ((splitP x).exp + 2148).toNat else 0
def fvI (x : Nat) : Int := if (splitP x).neg = true then -(fvN x : Int) else (fvN x : Int)
theorem b64 (e : Nat) : 18446744073709551616 ^ (e / 64) * 2 ^ (e % 64) = 2 ^ e := by
  rw [show (18446744073709551616 : Nat) = 2 ^ 64 from rfl, ← Nat.pow_mul, ← Nat.pow_add]
  congr 1; omega
theorem fvN_lt (x : Nat) : fvN x < 2 ^ 3172 := by
  unfold fvN
  split
  · rename_i h
    obtain ⟨h1, h2, h3, h4⟩ := splitP_fin h
    have h5 : 2 ^ ((splitP x).exp + 2148).toNat ≤ 2 ^ 3119 := Nat.pow_le_pow_right (by decide) (by omega)
    have h6 : (splitP x).frac * 2 ^ ((splitP x).exp + 2148).toNat < 9007199254740992 * 2 ^ 3119 := Nat.lt_of_lt_of_le (Nat.mul_lt_mul_of_pos_right h4 (Nat.two_pow_pos _)) (Nat.mul_le_mul_left _ h5)
    rw [show (9007199254740992 : Nat) = 2 ^ 53 from rfl, ← Nat.pow_add] at h6
    exact h6
  · exact Nat.two_pow_pos _
/-- A product's, in units of 2^-2148. -/
theorem thv_prod {x y : Nat} (hx : (splitP x).cls ≤ 2) (hy : (splitP y).cls ≤ 2) : thv (prodP x y) * (2 ^ 2148 : Nat) = fvI x * fvI y := by
  unfold prodP
  rw [if_neg (by omega), if_neg (by omega)]
  by_cases h : (splitP x).cls = 0 ∨ (splitP y).cls = 0
  · rw [if_pos h]
    have e : fvN x = 0 ∨ fvN y = 0 := by
      unfold fvN
      rcases h with h | h
      · left; rw [if_neg (by omega)]
      · right; rw [if_neg (by omega)]
    have e1 : fvI x * fvI y = 0 := by
      unfold fvI
      rcases e with e | e
      · rw [e]; simp
      · rw [e]; simp
    rw [e1]
    unfold thv
    simp
  · rw [if_neg h]
    have hcx : (splitP x).cls = 1 ∨ (splitP x).cls = 2 := by omega
    have hcy : (splitP y).cls = 1 ∨ (splitP y).cls = 2 := by omega
    obtain ⟨h1, h2, h3, h4⟩ := splitP_fin hcx
    obtain ⟨k1, k2, k3, k4⟩ := splitP_fin hcy
    unfold thv
    dsimp only
    rw [if_pos (.inr rfl), laidW_val (Nat.mod_lt _ (by decide)) (Nat.mod_lt _ (by decide))]
    have e0 : (splitP x).frac * (splitP y).frac / 18446744073709551616 * 18446744073709551616 + (splitP x).frac * (splitP y).frac % 18446744073709551616 = (splitP x).frac * (splitP y).frac := Nat.div_add_mod' ..
    rw [e0]
    have e : (splitP x).frac * (splitP y).frac * 2 ^ (((splitP x).exp + (splitP y).exp + 2148).toNat % 64) * 18446744073709551616 ^ (((splitP x).exp + (splitP y).exp + 2148).toNat / 64) * 2 ^ 2148 = fvN x * fvN y := by
      unfold fvN
      rw [if_pos hcx, if_pos hcy]
      have e2 := b64 ((splitP x).exp + (splitP y).exp + 2148).toNat
      have e3 : 2 ^ ((splitP x).exp + (splitP y).exp + 2148).toNat * 2 ^ 2148 = 2 ^ ((splitP x).exp + 2148).toNat * 2 ^ ((splitP y).exp + 2148).toNat := by
        rw [← Nat.pow_add, ← Nat.pow_add]; congr 1; omega
      calc _ = (splitP x).frac * (splitP y).frac * ((18446744073709551616 ^ (((splitP x).exp + (splitP y).exp + 2148).toNat / 64) * 2 ^ (((splitP x).exp + (splitP y).exp + 2148).toNat % 64)) * 2 ^ 2148) := by ac_rfl
        _ = (splitP x).frac * (splitP y).frac * (2 ^ ((splitP x).exp + 2148).toNat * 2 ^ ((splitP y).exp + 2148).toNat) := by rw [e2, e3]
        _ = _ := by ac_rfl
    generalize (splitP x).frac * (splitP y).frac * 2 ^ (((splitP x).exp + (splitP y).exp + 2148).toNat % 64) * 18446744073709551616 ^ (((splitP x).exp + (splitP y).exp + 2148).toNat / 64) = p at e
    have ei : (p : Int) * (2 ^ 2148 : Nat) = (fvN x : Int) * (fvN y : Int) := by rw [← Int.natCast_mul, e, Int.natCast_mul]
    unfold fvI
    cases (splitP x).neg <;> cases (splitP y).neg <;> simp only [bne_self_eq_false, Bool.true_bne, Bool.false_bne, Bool.not_false, Bool.not_true, if_true, if_false, Bool.false_eq_true, Int.neg_mul, Int.mul_neg, Int.neg_neg] <;> rw [ei]
theorem thv_prod_lt {x y : Nat} (hx : (splitP x).cls ≤ 2) (hy : (splitP y).cls ≤ 2) : (thv (prodP x y)).natAbs < 2 ^ 4196 := by
  have h := thv_prod hx hy
  have h1 := fvN_lt x
  have h2 := fvN_lt y
  have h3 : (fvI x * fvI y).natAbs = fvN x * fvN y := by
    rw [Int.natAbs_mul]
    unfold fvI
    split <;> split <;> simp
  have h4 : fvN x * fvN y < 2 ^ 3172 * 2 ^ 3172 := Nat.mul_lt_mul_of_lt_of_lt h1 h2
  rw [← Nat.pow_add] at h4
  rw [← h3, ← h, Int.natAbs_mul, Int.natAbs_natCast] at h4
  apply Nat.lt_of_mul_lt_mul_right (a := 2 ^ 2148)
  rw [← Nat.pow_add]; exact h4
/-- A list's sum. -/
def sumI (l : List Nat) : Int := (l.map fvI).sum
theorem fvI_abs (x : Nat) : (fvI x).natAbs = fvN x := by unfold fvI; split <;> simp
theorem sumI_le : ∀ (l : List Nat), (sumI l).natAbs ≤ l.length * 2 ^ 3172
  | [] => by simp [sumI]
  | x :: l => by
    have h1 := sumI_le l
    have h2 := fvN_lt x
    have h3 := fvI_abs x
    have e : sumI (x :: l) = fvI x + sumI l := by simp [sumI]
    rw [e, List.length_cons, Nat.add_mul, Nat.one_mul]
    generalize 2 ^ 3172 = B at *
    generalize l.length * B = C at *
    omega
theorem BB_pow : 16384 * BB = 2 ^ 4238 := by
  unfold BB
  rw [show (18446744073709551616 : Nat) = 2 ^ 64 from rfl, ← Nat.pow_mul, show (16384 : Nat) = 2 ^ 14 from rfl, ← Nat.pow_add]
theorem sumI_in {l : List Nat} (h : l.length ≤ 1099511627776) : -((16384 * BB : Nat) : Int) < sumI l ∧ sumI l < (16384 * BB : Nat) := by
  have h1 := sumI_le l
  have h2 : l.length * 2 ^ 3172 < 2 ^ 41 * 2 ^ 3172 := Nat.mul_lt_mul_of_pos_right (by omega) (Nat.two_pow_pos _)
  rw [← Nat.pow_add] at h2
  have h3 : 2 ^ (41 + 3172) ≤ 16384 * BB := by rw [BB_pow]; exact Nat.pow_le_pow_right (by decide) (by decide)
  generalize 16384 * BB = M at *
  generalize 2 ^ (41 + 3172) = M2 at *
  omega
end

/- Package mean: clean, right, told, all. No condition. -/
section
open Go Sx Wd
set_option exponentiation.threshold 5000

theorem intD_ok {n : Int} (h : n.natAbs < 18446744073709551616) : (intD n).ok := formD_ok (intD_eq h)
end

/- Package mean: Mean. No condition. -/
section
open Go Sx Wd
set_option exponentiation.threshold 5000

def isF64 : Value → Bool
  | .float .f64 _ => true
  | _ => false
end

/- Reference of layer 6. No condition. -/
section
open Go Sx Wd

theorem kindP_bits {x : Nat} (hx : x < 18446744073709551616) : kindP x = if 9218868437227405312 < x % 9223372036854775808 then 5 else if x % 9223372036854775808 = 9218868437227405312 ∧ x / 9223372036854775808 = 1 then 4 else if x % 9223372036854775808 = 9218868437227405312 then 3 else if x % 9223372036854775808 = 0 ∧ x / 9223372036854775808 = 1 then 1 else if x % 9223372036854775808 = 0 then 2 else 0 := by
  have e1 : x / 4503599627370496 % 2048 = 2047 ↔ 9218868437227405312 ≤ x % 9223372036854775808 := by omega
  have e2 : (x / 4503599627370496 % 2048 = 2047 ∧ x % 4503599627370496 ≠ 0) ↔ 9218868437227405312 < x % 9223372036854775808 := by omega
  have e3 : x / 9223372036854775808 % 2 = 1 ↔ x / 9223372036854775808 = 1 := by omega
  have e4 : (¬ 0 < x / 4503599627370496 % 2048 ∧ ¬ 0 < x % 4503599627370496) ↔ x % 9223372036854775808 = 0 := by omega
  by_cases h1 : 9218868437227405312 < x % 9223372036854775808
  · have L : kindP x = 5 := by unfold kindP splitP; rw [if_pos (e2.2 h1)]; rfl
    rw [L, if_pos h1]
  · have n1 : ¬ (x / 4503599627370496 % 2048 = 2047 ∧ x % 4503599627370496 ≠ 0) := fun q => h1 (e2.1 q)
    by_cases h2 : x % 9223372036854775808 = 9218868437227405312
    · have p2 := e1.2 (by omega)
      by_cases h3 : x / 9223372036854775808 = 1
      · have L : kindP x = 4 := by
          unfold kindP splitP; rw [if_neg n1, if_pos p2]; simp [e3.2 h3]
        rw [L, if_neg h1, if_pos ⟨h2, h3⟩]
      · have L : kindP x = 3 := by
          have h5 : ¬ x / 9223372036854775808 % 2 = 1 := fun q => h3 (e3.1 q)
          unfold kindP splitP; rw [if_neg n1, if_pos p2]; simp [h5]
        rw [L, if_neg h1, if_neg (fun q => h3 q.2), if_pos h2]
    · have n2 : ¬ x / 4503599627370496 % 2048 = 2047 := fun q => h2 (by have := e1.1 q; omega)
      by_cases h4 : x % 9223372036854775808 = 0
      · have h5 := e4.2 h4
        by_cases h3 : x / 9223372036854775808 = 1
        · have L : kindP x = 1 := by
            unfold kindP splitP; rw [if_neg n1, if_neg n2, if_neg h5.1, if_neg h5.2]; simp [e3.2 h3]
          rw [L, if_neg h1, if_neg (fun q => h2 q.1), if_neg h2, if_pos ⟨h4, h3⟩]
        · have L : kindP x = 2 := by
            have h6 : ¬ x / 9223372036854775808 % 2 = 1 := fun q => h3 (e3.1 q)
            unfold kindP splitP; rw [if_neg n1, if_neg n2, if_neg h5.1, if_neg h5.2]; simp [h6]
          rw [L, if_neg h1, if_neg (fun q => h2 q.1), if_neg h2, if_neg (fun q => h3 q.2), if_pos h4]
      · have L : kindP x = 0 := by
          unfold kindP splitP; rw [if_neg n1, if_neg n2]
          by_cases h6 : 0 < x / 4503599627370496 % 2048
          · rw [if_pos h6]; rfl
          · rw [if_neg h6, if_pos (Classical.byContradiction fun q => h4 (e4.1 ⟨h6, q⟩))]; rfl
        rw [L, if_neg h1, if_neg (fun q => h2 q.1), if_neg h2, if_neg (fun q => h4 q.1), if_neg h4]

end

/- Drawn regions with two operations that may come up in either order. No condition. -/
namespace Sx
open Go

/-- Operation i comes up next. -/
def WHat (P : Program) (ops : Array Oper) (K : KK) (S : World → Prop) (fuel : Nat) (listed : Array Bool) (n : Nat) (D : List Deferred) (s : Sl) (w : World) (i : Nat) : Prop :=
  ∀ a, Fr n D s a → wpOp P ops (post n K) i (fun a' w' => S w' ∧ wpAnyH P .any ops (post n K) S fuel (listed.setIfInBounds i true) a' w') a w
section
variable {P : Program} {A : AQ} {n : Nat} {D : List Deferred} {s : Sl} {w : World} {ops : Array Oper} {K : KK} {S : World → Prop} {fuel : Nat} {listed : Array Bool}
variable {op : Op} {ty : TypeId} {pos : String} {af : Array Edge} {d : Nat} {v : Value}
theorem WH.all2 (i j : Nat) (hr : Region.ready .any ops listed = [i, j]) (h1 : WHat P ops K S fuel listed n D s w i) (h2 : WHat P ops K S fuel listed n D s w j) : WH P ops K S (fuel + 1) listed n D s w := fun a ha =>
  wpAnyH_all hr (by simp) fun k hk => by
    rcases (by simpa using hk : k = i ∨ k = j) with rfl | rfl
    · exact h1 a ha
    · exact h2 a ha
theorem WHat.call (i : Nat) {f : FuncId} {xs : List Operand} {at_ : Array TypeId} {vs : List Value} {R : Value → World → Prop} (hi : ops[i]? = some ⟨some d, .call ⟨.value (.func f), xs.toArray, at_⟩, ty, pos, af, none⟩) (hF : HasF P f) (hx : opnds s xs = some vs) (hd : Nat.blt d n = true) (h : Ret P f vs w R)
  (k : ∀ v w', R v w' → S w' ∧ WH P ops K S fuel (listed.setIfInBounds i true) n D ((d, v) :: s) w') : WHat P ops K S fuel listed n D s w i := fun a ha => by
 unfold wpOp;simp only [hi];rw [if_pos (by simp [Region.wanted])];refine .inl ?_;unfold Oper.wp;rw [exec_call hF rfl hx fun x u hx => ha.eval hx];exact Calls.mono h fun e w' ⟨v, he, hR⟩ => by subst he; exact ⟨(k v w' hR).1, (k v w' hR).2 _ (ha.put hd v)⟩
theorem WHat.one (i : Nat) {w' : World} (hi : ops[i]? = some ⟨some d, op, ty, pos, af, none⟩) (he : Ev P s op ty w v w') (hS : S w') (hd : Nat.blt d n = true)
    (k : WH P ops K S fuel (listed.setIfInBounds i true) n D ((d, v) :: s) w') : WHat P ops K S fuel listed n D s w i := fun a ha => by
  unfold wpOp
  simp only [hi]
  rw [if_pos (by simp [Region.wanted])]
  refine .inl ?_
  unfold Oper.wp
  rw [he a.eval (some d) pos af none fun x u hx => ha.eval hx]
  exact ⟨hS, k _ (ha.put hd v)⟩
theorem WH.buildSliceC (i : Nat) {w0 : World} {t e : TypeId} {de : TypeDesc} {sz by_ es be : Nat} {z ze : Value} {ps : List (Nat × Operand)} {vs : List (Nat × Value)} {cs : List Value} {m : Nat} [hT : HasT P t (.slice e) sz by_ z] [hE : HasT P e de es be ze]
    (hi : ops[i]? = some ⟨some d, .buildSlice t m ps.toArray, ty, pos, af, none⟩) (hr : Region.ready .any ops listed = [i]) (hS : Chg [] w0 w)
    (hm : m * es ≤ 2 ^ 24) (hp : 0 < m * es) (hx : opndP s ps = some vs) (hf : Instr.fill (fun i => some (i * es, es)) ((Array.range (m * es)).map (ze.cells[· % ze.cells.size]!)) vs = some cs.toArray) (hd : Nat.blt d n = true)
    (k : ∀ b w', New w b (.cells cs.toArray e) w' → Chg [] w0 w' → WH P ops K (Chg [] w0) fuel (listed.setIfInBounds i true) n D ((d, .slice (some ⟨b, 0, none⟩) m m) :: s) w') : WH P ops K (Chg [] w0) (fuel + 1) listed n D s w := by
  obtain ⟨b, w', he, hn⟩ := ev_buildSlice (P := P) (ty := ty) (w := w) (t := t) (hT := hT) (hE := hE) hm hp hx hf
  exact WH.one i hi hr he (hS.trans hn.chg) hd (k b w' hn (hS.trans hn.chg))
theorem WHat.allocC (i : Nat) {w0 : World} {t : TypeId} {ds : TypeDesc} {sz by_ : Nat} {z : Value} {l : List Value} [hT : HasT P t ds sz by_ z] (hi : ops[i]? = some ⟨some d, .alloc t, ty, pos, af, none⟩) (hS : Chg [] w0 w) (hl : z.cells = l.toArray) (hd : Nat.blt d n = true)
    (k : ∀ b w', BK w' b t l → Chg [] w w' → w.heap.size ≤ b → Chg [] w0 w' → WH P ops K (Chg [] w0) fuel (listed.setIfInBounds i true) n D ((d, .pointer (some ⟨b, 0, none⟩)) :: s) w') : WHat P ops K (Chg [] w0) fuel listed n D s w i := by
  have hn := new_alloc w (.cells l.toArray t)
  refine WHat.one i (v := .pointer (some ⟨w.heap.size, 0, none⟩)) (w' := w.alloc (.cells l.toArray t)) hi (fun ρ d' pos af g hρ => ?_) (hS.trans hn.chg) hd (k _ _ hn.at_ hn.chg hn.ge (hS.trans hn.chg))
  simp [execOp, Instr.alloc, hT.zero, newVar, newRow, hl]
theorem WH.allocC (i : Nat) {w0 : World} {t : TypeId} {ds : TypeDesc} {sz by_ : Nat} {z : Value} {l : List Value} [hT : HasT P t ds sz by_ z] (hi : ops[i]? = some ⟨some d, .alloc t, ty, pos, af, none⟩) (hr : Region.ready .any ops listed = [i]) (hS : Chg [] w0 w) (hl : z.cells = l.toArray) (hd : Nat.blt d n = true)
    (k : ∀ b w', BK w' b t l → Chg [] w w' → w.heap.size ≤ b → Chg [] w0 w' → WH P ops K (Chg [] w0) fuel (listed.setIfInBounds i true) n D ((d, .pointer (some ⟨b, 0, none⟩)) :: s) w') : WH P ops K (Chg [] w0) (fuel + 1) listed n D s w := fun a ha =>
  wpAnyH_all hr (by simp) fun j hj => by
    obtain rfl : j = i := by simpa using hj
    exact WHat.allocC j hi hS hl hd k a ha
theorem WH.storeBN (i : Nat) {w0 : World} {t : TypeId} {ds : TypeDesc} {sz by_ : Nat} {z0 : Value} {b o : Nat} {l l' vs : List Value} {T : TypeId} {x y : Operand} [hT : HasT P t ds sz by_ z0] (hi : ops[i]? = some ⟨none, .store t x y, ty, pos, af, none⟩) (hr : Region.ready .any ops listed = [i]) (hS : Chg [] w0 w) (hge : w0.heap.size ≤ b)
    (hx : opnd s x = some (.pointer (some ⟨b, o, none⟩))) (hy : opnd s y = some (.agg vs.toArray)) (hs : vs.length = sz) (h1 : ∀ v ∈ vs, v.oneCell' = true)
    (hb : BK w b T l) (ho : o + vs.length ≤ l.length) (he : splice l o vs = l') (k : ∀ w', BK w' b T l' → Chg [b] w w' → Chg [] w0 w' → WH P ops K (Chg [] w0) fuel (listed.setIfInBounds i true) n D s w') : WH P ops K (Chg [] w0) (fuel + 1) listed n D s w := by
  subst he
  obtain ⟨w', he, hu⟩ := evS_storeAgg (P := P) (ty := ty) (t := t) (hT := hT) hx hy hs h1 hb ho
  have hS' : Chg [] w0 w' := hS.step hu.chg fun y hy => .inr (by simp only [List.mem_singleton] at hy; omega)
  exact WH.oneS i hi hr he hS' (k w' hu.at_ hu.chg hS')
end
end Sx

end Go.Proofs.YtbplehaogncjoaaGreatDoor