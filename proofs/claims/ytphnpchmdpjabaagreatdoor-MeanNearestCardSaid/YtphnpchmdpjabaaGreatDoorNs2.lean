/- Part 2 of what the proof rests on. No condition. -/
import Derived.Test.YtphnpchmdpjabaaGreatDoorNs1
set_option linter.unusedVariables false
set_option linter.unusedSimpArgs false
/- Package wide: numbers of many words. No condition. -/
namespace Go.Proofs.YtphnpchmdpjabaaGreatDoor
open Go Sx Wd

structure K0 (l : List Nat) (w : World) (k : Nat) (wr : World) : Prop where
  le : k ≤ l.length
  vl : val (l.take k) = val l
  eq : w = wr

theorem cut_spec (v : Value) (l : List Nat) (w : World) (h : NU w v l) : Ret Tryz.prog 95 [v] w fun u w' => NU w u (wd (val l)) ∧ w = w' := by
 obtain ⟨⟨al, cl, rfl, hcapl, hrl⟩, hWl, hll⟩ := h
 have hch : Chg [] w w := Chg.refl _ _
 refine Ret.enter Tryz.func95 rfl rfl ?_
 simp only [args0, Nat.zero_add, Nat.reduceAdd]
 refine Sr fun _ kh1 => za rfl (zz (kh1 (zc fun _ kh3 => ?_)))
 refine CW.block ?_
 refine CW.loop (S := fun k : Nat => [(0, .slice al k cl)]) (Inv := K0 l w) (mu := fun k => k) (l.length) ?_ ?_ ?_
 ·
  exact ⟨Nat.le_refl _, by rw [List.take_length], rfl⟩
 ·
  exact SLp
 ·
  rintro k _ ⟨hkl, hvl, rfl⟩
  refine zc fun _ kh4 => ?_
  refine CW.seqM 14 (decide (0 < k ∧ l.getD (k - 1) 0 = 0)) ?_ ?_
  ·
   refine CW.region fun kR5 kr5 => ?_
   refine zm rfl (zn rfl ?_)
   refine WL.ev (Ev.gtr rfl rfl) rfl ?_
   refine zm rfl ?_
   refine WL.boolCase (fun hg1 => ?_) (fun hg1 => ?_)
   ·
    try simp only [qs] at hg1
    refine zw rfl (zm rfl (zw rfl (zm rfl (zw rfl (zn rfl (zw rfl ?_))))))
    first | refine WL.ev (Ev.subIn rfl rfl (by omega)) rfl ?_ | refine WL.ev (Ev.sub rfl rfl) rfl ?_
    refine zw rfl ?_
    refine WL.ev (Ev.ixR ((k - 1)) rfl rfl (hrl.keep0 hch) (by omega) (by omega) (by simp; omega)) rfl ?_
    refine zw rfl ?_
    refine WL.ev (Ev.load rfl rfl ((hrl.keep0 hch).u32 (by first | omega | (simp; omega)))) rfl ?_
    have hw12 := hWl.getD ((k - 1))
    refine zw rfl (zq rfl rfl (zt rfl rfl ?_))
    refine WL.nil (kr5 _ _ _ ?_)
    refine ⟨rfl, rfl, Subs.consB rfl ?_ ?_⟩
    ·
     first | (simp; omega) | (refine decide_eq_decide.2 ?_; omega)
    ·
     exact SMg
   ·
    try simp only [qs] at hg1
    refine zv rfl (zv rfl (zv rfl (zv rfl (zv rfl (zv rfl (zv rfl (ze rfl rfl ?_)))))))
    refine WL.nil (kr5 _ _ _ ?_)
    refine ⟨rfl, rfl, Subs.consB rfl ?_ ?_⟩
    ·
     first | (simp; omega) | (refine decide_eq_decide.2 ?_; omega)
    ·
     exact SMg
  ·
   refine CW.cond rfl (fun hc2 => ?_) (fun hc2 => ?_)
   ·
    try simp only [qs] at hc2
    refine CW.skip ?_
    refine kh4 ?_
    refine CW.block ?_
    refine CW.region fun kR6 kr6 => ?_
    refine zm rfl (zm rfl (zn rfl ?_))
    first | refine WL.ev (Ev.subIn rfl rfl (by omega)) rfl ?_ | refine WL.ev (Ev.sub rfl rfl) rfl ?_
    refine WL.ev (Ev.sliceHn ((k - 1)) rfl rfl (by omega) (by omega)) rfl ?_
    refine za rfl ?_
    refine WL.nil (kr6 _ _ _ ?_)
    refine ⟨rfl, k - 1, ?_, ?_, ?_⟩
    ·
     exact SLp
    ·
     exact ⟨by omega, by rw [take_pred hkl (by omega) (by omega)]; exact hvl, rfl⟩
    ·
     omega
   ·
    try simp only [qs] at hc2
    refine CW.exit ?_
    refine kh3 (Sr fun _ kh7 => zm rfl (za rfl (zz (kh7 ?_))))
    refine CW.ret ?_
    refine bodyA.ret1 rfl rfl ?_
    rw [cut_wd hWl hkl hvl (by omega)]
    exact ⟨NU.part hrl hWl hll hkl (by omega), rfl⟩

theorem Norm_spec (v : Value) (l : List Nat) (w : World) (h : NU w v l) : Ret Tryz.prog 92 [v] w fun u w' => NU w' u (wd (val l)) ∧ Chg [] w w' := by
 obtain ⟨⟨al, cl, rfl, hcapl, hrl⟩, hWl, hll⟩ := h
 have hch : Chg [] w w := Chg.refl _ _
 refine Ret.enter Tryz.func92 rfl rfl ?_
 simp only [args0, Nat.zero_add, Nat.reduceAdd]
 refine Sr fun _ kh1 => za rfl (zz (kh1 (Sr fun _ kh3 => zm rfl (zn rfl (za rfl (zz (kh3 (zc fun _ kh5 => ?_))))))))
 refine CW.block ?_
 refine CW.loop (S := fun k : Nat => [(0, .slice al l.length cl), (3, .int .i64 (k : Int))]) (Inv := K0 l w) (mu := fun k => k) (l.length) ?_ ?_ ?_
 ·
  exact ⟨Nat.le_refl _, by rw [List.take_length], rfl⟩
 ·
  exact SLp
 ·
  rintro k _ ⟨hkl, hvl, rfl⟩
  refine zc fun _ kh6 => ?_
  refine CW.seqM 16 (decide (0 < k ∧ l.getD (k - 1) 0 = 0)) ?_ ?_
  ·
   refine CW.region fun kR7 kr7 => ?_
   refine zm rfl ?_
   refine WL.ev (Ev.gtr rfl rfl) rfl ?_
   refine zm rfl ?_
   refine WL.boolCase (fun hg1 => ?_) (fun hg1 => ?_)
   ·
    try simp only [qs] at hg1
    refine zw rfl (zm rfl (zw rfl (zm rfl (zw rfl ?_))))
    first | refine WL.ev (Ev.subIn rfl rfl (by omega)) rfl ?_ | refine WL.ev (Ev.sub rfl rfl) rfl ?_
    refine zw rfl ?_
    refine WL.ev (Ev.ixR ((k - 1)) rfl rfl (hrl.keep0 hch) (by omega) (by omega) (by simp; omega)) rfl ?_
    refine zw rfl ?_
    refine WL.ev (Ev.load rfl rfl ((hrl.keep0 hch).u32 (by first | omega | (simp; omega)))) rfl ?_
    have hw14 := hWl.getD ((k - 1))
    refine zw rfl (zq rfl rfl (zt rfl rfl ?_))
    refine WL.nil (kr7 _ _ _ ?_)
    refine ⟨rfl, rfl, Subs.consB rfl ?_ ?_⟩
    ·
     first | (simp; omega) | (refine decide_eq_decide.2 ?_; omega)
    ·
     exact SMg
   ·
    try simp only [qs] at hg1
    refine zv rfl (zv rfl (zv rfl (zv rfl (zv rfl (zv rfl (ze rfl rfl ?_))))))
    refine WL.nil (kr7 _ _ _ ?_)
    refine ⟨rfl, rfl, Subs.consB rfl ?_ ?_⟩
    ·
     first | (simp; omega) | (refine decide_eq_decide.2 ?_; omega)
    ·
     exact SMg
  ·
   refine CW.cond rfl (fun hc2 => ?_) (fun hc2 => ?_)
   ·
    try simp only [qs] at hc2
    refine CW.skip ?_
    refine kh6 ?_
    refine CW.block ?_
    refine CW.region fun kR8 kr8 => ?_
    refine zm rfl ?_
    first | refine WL.ev (Ev.subIn rfl rfl (by omega)) rfl ?_ | refine WL.ev (Ev.sub rfl rfl) rfl ?_
    refine za rfl ?_
    refine WL.nil (kr8 _ _ _ ?_)
    refine ⟨rfl, k - 1, ?_, ?_, ?_⟩
    ·
     exact SLp
    ·
     exact ⟨by omega, by rw [take_pred hkl (by omega) (by omega)]; exact hvl, rfl⟩
    ·
     omega
   ·
    try simp only [qs] at hc2
    refine CW.exit ?_
    refine kh5 (Sr fun _ kh9 => zm rfl ?_)
    refine WL.makeU (k) (k) rfl rfl (by omega) (by omega) (by omega) (by omega) (by omega) rfl fun b20 wm20 hb20 hcm20 hge20 => ?_
    have hgehch20 := Nat.le_trans hch.size hge20
    have hch := hch.trans (Chg.any hcm20)
    refine za rfl (zz (kh9 (Sr fun _ kh11 => zm rfl (zm rfl ?_))))
    refine WL.copyU rfl rfl hb20 (hrl.keep0 hch) (by simp; try omega) (by simp; try omega) rfl fun ws1 hb20_ hcs1 => ?_
    have hch := hch.s1 hcs1
    have hb20 := hb20_
    rw [show ((l).take (min ((l).length) (k)) ++ (List.replicate (k) 0).drop (min ((l).length) (k))) = l.take k from by rw [show min l.length k = k by omega, List.drop_eq_nil_of_le (by simp), List.append_nil]] at hb20
    refine zz (kh11 (Sr fun _ kh13 => zm rfl (za rfl (zz (kh13 ?_)))))
    refine CW.ret ?_
    refine bodyA.ret1 rfl rfl ?_
    rw [cut_wd hWl hkl hvl (by omega)]
    exact ⟨NU.of_block hb20 (hWl.take k) (by simp; omega) (by simp; omega) (Nat.le_refl _), hch⟩

theorem Of_spec (n : Nat) (w : World) (hn : n < 18446744073709551616) : Ret Tryz.prog 46 [.int .u64 (n : Int)] w fun u w' => NU w' u (wd n) ∧ Chg [] w w' := by
 refine Ret.enter Tryz.func46 rfl rfl ?_
 simp only [args0, Nat.zero_add, Nat.reduceAdd]
 refine Sr fun _ kh1 => za rfl (zz (kh1 (Sr fun _ kh3 => zm rfl ?_)))
 refine WL.ev (Ev.conv32 rfl rfl) rfl ?_
 refine zm rfl ?_
 refine WL.ev (Ev.shrU (b := 32) rfl rfl (by simp only [IntKind.bits]; omega)) rfl ?_
 refine WL.ev (Ev.conv32 rfl rfl) rfl ?_
 refine WL.buildSlice (cs := [.int .u32 ((n % 4294967296 : Nat) : Int), .int .u32 ((n / 2 ^ 32 % 4294967296 : Nat) : Int)]) (by decide) (by decide) rfl (by kernel_rfl) rfl fun b8 w8 n8 => ?_
 have hN8 : NU w8 (.slice (some ⟨b8, 0, none⟩) 2 2) [n % 4294967296, n / 2 ^ 32 % 4294967296] := NU.of_block (E := 116) n8.at_ (W_cons.2 ⟨by omega, W_cons.2 ⟨by omega, W_nil⟩⟩) (by simp) rfl (by omega)
 have hv8 : val [n % 4294967296, n / 2 ^ 32 % 4294967296] = n := by simp only [val]; omega
 refine WL.call hasF92 rfl rfl (Norm_spec _ _ _ hN8) fun v w1 h' => ?_
 obtain ⟨hN, hC⟩ := h'
 rw [hv8] at hN
 refine za rfl (zz (kh3 ?_))
 refine CW.ret ?_
 refine bodyA.ret1 rfl rfl ?_
 exact ⟨hN, n8.chg.trans hC⟩

theorem Small_spec (v : Value) (l : List Nat) (w : World) (h : NU w v l) : Ret Tryz.prog 190 [v] w fun u w' => u = .tuple [.int .u64 ((if val l < 18446744073709551616 then val l else 0 : Nat) : Int), .int .i64 (if val l < 18446744073709551616 then 0 else 2)].toArray ∧ w = w' := by
 have hlen2 : (wd (val l)).length ≤ 2 ↔ val l < 18446744073709551616 := wd_length_le (n := val l) (k := 2)
 have hvw := val_wd (val l)
 obtain ⟨L, hL⟩ : ∃ L, L = wd (val l) := ⟨_, rfl⟩
 rw [← hL] at hlen2 hvw
 refine Ret.enter Tryz.func190 rfl rfl ?_
 simp only [args0, Nat.zero_add, Nat.reduceAdd]
 refine Sr fun _ kh1 => za rfl (za rfl (zz (kh1 (Sr fun _ kh3 => za rfl (zz (kh3 (zc fun _ kh5 => Sr fun _ kh6 => zm rfl ?_)))))))
 refine WL.call hasF95 rfl rfl (cut_spec _ _ _ h) fun v w1 h' => ?_
 obtain ⟨hN, rfl⟩ := h'
 rw [← hL] at hN
 obtain ⟨⟨a1, c1, rfl, hcap1, hr1⟩, hW1, hl1⟩ := hN
 refine za rfl (zz (kh6 ?_))
 refine CW.block ?_
 refine Sr fun _ kh8 => zm rfl (zn rfl ?_)
 refine WL.ev (Ev.gtr rfl rfl) rfl ?_
 refine za rfl (zz (kh8 ?_))
 refine CW.cond rfl (fun hc1 => ?_) (fun hc1 => ?_)
 ·
  try simp only [qs] at hc1
  refine Sr fun _ kh10 => za rfl (za rfl (zz (kh10 ?_)))
  refine CW.ret ?_
  refine bodyA.ret2 rfl rfl rfl ?_
  rw [if_neg (by omega), if_neg (by omega)]
  exact ⟨rfl, rfl⟩
 ·
  try simp only [qs] at hc1
  refine Sr fun _ kh12 => zm rfl (zn rfl (zq rfl rfl (za rfl (zz (kh12 ?_)))))
  refine CW.cond rfl (fun hc2 => ?_) (fun hc2 => ?_)
  ·
   try simp only [qs] at hc2
   have hv2 := val_two (l := L) (by omega)
   have hw0 := hW1.getD 0
   have hw1 := hW1.getD 1
   refine CW.region fun kR14 kr14 => ?_
   refine zm rfl ?_
   refine WL.ev (Ev.ixR (1) rfl rfl hr1 (by omega) (by omega) (by simp; omega)) rfl ?_
   refine WL.ev (Ev.load rfl rfl (hr1.u32 (by first | omega | (simp; omega)))) rfl ?_
   have hw17 := hW1.getD (1)
   refine WL.ev (Ev.convIn rfl rfl (in_u64 (by omega))) rfl ?_
   refine WL.ev (Ev.shlU64 (b := 32) rfl rfl) rfl ?_
   refine za rfl ?_
   refine WL.nil (kr14 _ _ _ (kh5 ?_))
   refine zc fun _ kh15 => Sr fun _ kh16 => zm rfl (zn rfl ?_)
   refine WL.ev (Ev.gtr rfl rfl) rfl ?_
   refine zz (kh16 ?_)
   refine CW.cond rfl (fun hc3 => ?_) (fun hc3 => ?_)
   ·
    try simp only [qs] at hc3
    refine CW.region fun kR18 kr18 => ?_
    refine zm rfl (zm rfl ?_)
    refine WL.ev (Ev.ixR (0) rfl rfl hr1 (by omega) (by omega) (by simp; omega)) rfl ?_
    refine WL.ev (Ev.load rfl rfl (hr1.u32 (by first | omega | (simp; omega)))) rfl ?_
    have hw26 := hW1.getD (0)
    refine WL.ev (Ev.convIn rfl rfl (in_u64 (by omega))) rfl ?_
    refine WL.ev (Ev.orU rfl rfl rfl (by simp only [IntKind.bits]; omega) (by simp only [IntKind.bits]; omega)) rfl ?_
    refine za rfl ?_
    refine WL.nil (kr18 _ _ _ (kh15 ?_))
    refine Sr fun _ kh19 => zm rfl (za rfl (za rfl (zz (kh19 ?_))))
    refine CW.ret ?_
    refine bodyA.ret2 rfl rfl rfl ?_
    have e : L.getD 1 0 * 2 ^ 32 % 18446744073709551616 ||| L.getD 0 0 = val l := by
     rw [Nat.mod_eq_of_lt (by omega), Nat.or_comm, or_of_mul (by omega)]; omega
    rw [e, if_pos (by omega), if_pos (by omega)]
    exact ⟨rfl, rfl⟩
   ·
    try simp only [qs] at hc3
    exfalso; omega
  ·
   try simp only [qs] at hc2
   refine CW.skip ?_
   refine kh5 (zc fun _ kh21 => Sr fun _ kh22 => zm rfl (zn rfl ?_))
   refine WL.ev (Ev.gtr rfl rfl) rfl ?_
   refine zz (kh22 ?_)
   refine CW.cond rfl (fun hc4 => ?_) (fun hc4 => ?_)
   ·
    try simp only [qs] at hc4
    have hv1 := val_one (l := L) (by omega)
    refine CW.region fun kR24 kr24 => ?_
    refine zm rfl (zm rfl ?_)
    refine WL.ev (Ev.ixR (0) rfl rfl hr1 (by omega) (by omega) (by simp; omega)) rfl ?_
    refine WL.ev (Ev.load rfl rfl (hr1.u32 (by first | omega | (simp; omega)))) rfl ?_
    have hw26 := hW1.getD (0)
    refine WL.ev (Ev.convIn rfl rfl (in_u64 (by omega))) rfl ?_
    refine WL.ev (Ev.orU rfl rfl rfl (by simp only [IntKind.bits]; omega) (by simp only [IntKind.bits]; omega)) rfl ?_
    refine za rfl ?_
    refine WL.nil (kr24 _ _ _ (kh21 ?_))
    refine Sr fun _ kh25 => zm rfl (za rfl (za rfl (zz (kh25 ?_))))
    refine CW.ret ?_
    refine bodyA.ret2 rfl rfl rfl ?_
    rw [Nat.zero_or, if_pos (by omega), if_pos (by omega), ← hvw, hv1]
    exact ⟨rfl, rfl⟩
   ·
    try simp only [qs] at hc4
    have hv0 : L = [] := List.length_eq_zero_iff.1 (by omega)
    have hv1 : val l = 0 := by rw [← hvw, hv0]; rfl
    refine CW.skip ?_
    refine kh21 (Sr fun _ kh27 => zm rfl (za rfl (za rfl (zz (kh27 ?_)))))
    refine CW.ret ?_
    refine bodyA.ret2 rfl rfl rfl ?_
    rw [if_pos (by omega), if_pos (by omega), hv1]
    exact ⟨rfl, rfl⟩

theorem Len_spec (v : Value) (l : List Nat) (w : World) (h : NU w v l) : Ret Tryz.prog 96 [v] w fun u w' => u = .int .i64 (bl (val l) : Int) ∧ w = w' := by
 have hvw := val_wd (val l)
 obtain ⟨L, hL⟩ : ∃ L, L = wd (val l) := ⟨_, rfl⟩
 rw [← hL] at hvw
 refine Ret.enter Tryz.func96 rfl rfl ?_
 simp only [args0, Nat.zero_add, Nat.reduceAdd]
 refine Sr fun _ kh1 => za rfl (zz (kh1 (zc fun _ kh3 => Sr fun _ kh4 => zm rfl ?_)))
 refine WL.call hasF95 rfl rfl (cut_spec _ _ _ h) fun v w1 h' => ?_
 obtain ⟨hN, rfl⟩ := h'
 rw [← hL] at hN
 obtain ⟨⟨a1, c1, rfl, hcap1, hr1⟩, hW1, hl1⟩ := hN
 refine za rfl (zz (kh4 (Sr fun _ kh6 => zm rfl (zn rfl (zq rfl rfl (zz (kh6 ?_)))))))
 refine CW.cond rfl (fun hc1 => ?_) (fun hc1 => ?_)
 ·
  try simp only [qs] at hc1
  refine Sr fun _ kh8 => za rfl (zz (kh8 ?_))
  refine CW.ret ?_
  refine bodyA.ret1 rfl rfl ?_
  have hv0 : L = [] := List.length_eq_zero_iff.1 (by omega)
  rw [← hvw, hv0]
  exact ⟨rfl, rfl⟩
 ·
  try simp only [qs] at hc1
  have hlast : L.getD (L.length - 1) 0 ≠ 0 := by rw [hL]; exact wd_last fun e => by rw [e, wd_zero] at hL; rw [hL] at hc1; exact hc1 rfl
  have hbl := bl_val hW1 (fun e => by rw [e] at hc1; exact hc1 rfl) hlast
  rw [hvw] at hbl
  have hb32 := bl_le.2 (show L.getD (L.length - 1) 0 < 2 ^ 32 from hW1.getD _)
  refine CW.skip ?_
  refine kh3 (Sr fun _ kh10 => zm rfl (zn rfl ?_))
  first | refine WL.ev (Ev.subIn rfl rfl (by omega)) rfl ?_ | refine WL.ev (Ev.sub rfl rfl) rfl ?_
  refine WL.ev (Ev.mulIn rfl rfl (by omega)) rfl ?_
  refine zm rfl (zm rfl (zn rfl ?_))
  first | refine WL.ev (Ev.subIn rfl rfl (by omega)) rfl ?_ | refine WL.ev (Ev.sub rfl rfl) rfl ?_
  refine WL.ev (Ev.ixR (((L).length - 1)) rfl rfl hr1 (by omega) (by omega) (by simp; omega)) rfl ?_
  refine WL.ev (Ev.load rfl rfl (hr1.u32 (by first | omega | (simp; omega)))) rfl ?_
  have hw17 := hW1.getD (((L).length - 1))
  refine WL.call hasF131 rfl rfl (Len32_spec _ _ (hW1.getD _)) fun v w2 h' => ?_
  obtain ⟨rfl, rfl⟩ := h'
  first | refine WL.ev (Ev.addIn rfl rfl (by omega)) rfl ?_ | refine WL.ev (Ev.add rfl rfl) rfl ?_
  refine za rfl (zz (kh10 ?_))
  refine CW.ret ?_
  refine bodyA.ret1 rfl rfl ?_
  refine ⟨?_, rfl⟩
  rw [hbl]; first | rfl | (congr 1; omega)

structure KL (l : List Nat) (w : World) (i : Nat) (wr : World) : Prop where
  le : i ≤ l.length
  z : val (l.take i) = 0
  eq : w = wr

theorem Low_spec (v : Value) (l : List Nat) (w : World) (h : NU w v l) (hg : GW w) : Ret Tryz.prog 93 [v] w fun u w' => u = .int .i64 (tz (val l) : Int) ∧ w = w' := by
 obtain ⟨⟨al, cl, rfl, hcapl, hrl⟩, hWl, hll⟩ := h
 have hch : Chg [] w w := Chg.refl _ _
 refine Ret.enter Tryz.func93 rfl rfl ?_
 simp only [args0, Nat.zero_add, Nat.reduceAdd]
 refine Sr fun _ kh1 => za rfl (zz (kh1 (zc fun _ kh3 => Sr fun _ kh4 => zm rfl (zn rfl (zm rfl (zz (kh4 ?_)))))))
 refine CW.block ?_
 refine CW.loop (S := fun i : Nat => [(5, .slice al l.length cl), (6, .int .i64 (l.length : Int)), (7, .int .i64 (i : Int))]) (Inv := KL l w) (mu := fun i => l.length - i) (0) ?_ ?_ ?_
 ·
  exact ⟨Nat.zero_le _, rfl, rfl⟩
 ·
  exact SLp
 ·
  rintro i _ ⟨hil, hz, rfl⟩
  refine Sr fun _ kh6 => ?_
  refine WL.ev (Ev.lss rfl rfl) rfl ?_
  refine zz (kh6 (zc fun _ kh8 => ?_))
  refine CW.cond rfl (fun hc1 => ?_) (fun hc1 => ?_)
  ·
   try simp only [qs] at hc1
   refine CW.skip ?_
   refine kh8 (zc fun _ kh9 => ?_)
   refine CW.block ?_
   refine Sr fun _ kh10 => zm rfl ?_
   refine WL.ev (Ev.ixR (i) rfl rfl (hrl.keep0 hch) (by omega) (by omega) (by simp; omega)) rfl ?_
   refine WL.ev (Ev.load rfl rfl ((hrl.keep0 hch).u32 (by first | omega | (simp; omega)))) rfl ?_
   have hw11 := hWl.getD (i)
   refine za rfl (za rfl (zz (kh10 (Sr fun _ kh12 => zm rfl ?_))))
   refine WL.ev (Ev.neq rfl rfl) rfl ?_
   refine zz (kh12 ?_)
   refine CW.cond rfl (fun hc2 => ?_) (fun hc2 => ?_)
   ·
    try simp only [qs] at hc2
    have htz := tz_words hWl (by omega) hz (by omega)
    have htl := tz_lt_bl (n := l.getD i 0) (by omega)
    have hb32 := bl_le.2 (show l.getD i 0 < 2 ^ 32 from hWl.getD _)
    refine Sr fun _ kh14 => zm rfl ?_
    refine WL.ev (Ev.mulIn rfl rfl (by omega)) rfl ?_
    refine zm rfl ?_
    refine WL.call hasF130 rfl rfl (TrailingZeros32_spec _ _ hg (by omega) (hWl.getD _)) fun v w1 h' => ?_
    obtain ⟨rfl, rfl⟩ := h'
    first | refine WL.ev (Ev.addIn rfl rfl (by omega)) rfl ?_ | refine WL.ev (Ev.add rfl rfl) rfl ?_
    refine za rfl (zz (kh14 ?_))
    refine CW.ret ?_
    refine bodyA.ret1 rfl rfl ?_
    refine ⟨?_, rfl⟩
    rw [htz]; first | rfl | (congr 1; omega)
   ·
    try simp only [qs] at hc2
    refine CW.skip ?_
    refine kh9 ?_
    refine CW.region fun kR16 kr16 => ?_
    first | refine WL.ev (Ev.addIn rfl rfl (by omega)) rfl ?_ | refine WL.ev (Ev.add rfl rfl) rfl ?_
    refine zm rfl ?_
    refine WL.nil (kr16 _ _ _ ?_)
    refine ⟨rfl, i + 1, ?_, ?_, ?_⟩
    ·
     exact SLp
    ·
     exact ⟨by omega, by rw [val_take_succ' l i, hz, (by omega : l.getD i 0 = 0)]; simp, rfl⟩
    ·
     show l.length - (i + 1) < l.length - i; omega
  ·
   try simp only [qs] at hc1
   refine CW.exit ?_
   refine kh3 (Sr fun _ kh17 => za rfl (zz (kh17 ?_)))
   refine CW.ret ?_
   refine bodyA.ret1 rfl rfl ?_
   have e : i = l.length := by omega
   subst e
   rw [List.take_length] at hz
   rw [hz, tz_zero]
   exact ⟨rfl, rfl⟩

end Go.Proofs.YtphnpchmdpjabaaGreatDoor

/- Package wide: sums, differences, products, moves. No condition. -/
namespace Go.Proofs.YtphnpchmdpjabaaGreatDoor
open Go Sx Wd

theorem testBit_words {l : List Nat} (h : W l) (n : Nat) : (val l).testBit n = decide (l.getD (n / 32) 0 / 2 ^ (n % 32) % 2 = 1) := by
  rw [getD_val h, Nat.testBit_eq_decide_div_mod_eq]
  refine decide_eq_decide.2 ?_
  have e : val l / 2 ^ n = val l / 2 ^ (32 * (n / 32)) / 2 ^ (n % 32) := by
    rw [Nat.div_div_eq_div_mul, ← Nat.pow_add, show 32 * (n / 32) + n % 32 = n by omega]
  rw [e]
  generalize val l / 2 ^ (32 * (n / 32)) = q
  have hn : n % 32 < 32 := Nat.mod_lt _ (by decide)
  generalize n % 32 = r at *
  have e32 : (4294967296 : Nat) = 2 ^ r * (2 * 2 ^ (31 - r)) := by
    rw [show 2 * 2 ^ (31 - r) = 2 ^ (32 - r) by rw [Nat.mul_comm, ← Nat.pow_succ, show (31 - r).succ = 32 - r by omega], ← Nat.pow_add, show r + (32 - r) = 32 by omega]
  rw [e32, Nat.mod_mul_right_div_self, Nat.mod_mul_right_mod]

theorem Bit_spec (v : Value) (l : List Nat) (i : Int) (w : World) (h : NU w v l) (hi : -9223372036854775808 ≤ i ∧ i ≤ 9223372036854775807) : Ret Tryz.prog 192 [v, .int .i64 i] w fun u w' => u = .bool (decide (0 ≤ i) && (val l).testBit i.toNat) ∧ w = w' := by
 obtain ⟨⟨al, cl, rfl, hcapl, hrl⟩, hWl, hll⟩ := h
 have hch : Chg [] w w := Chg.refl _ _
 refine Ret.enter Tryz.func192 rfl rfl ?_
 simp only [args0, Nat.zero_add, Nat.reduceAdd]
 refine Sr fun _ kh1 => za rfl (zz (kh1 (Sr fun _ kh3 => zm rfl ?_)))
 refine WL.ev (Ev.geq rfl rfl) rfl ?_
 refine zm rfl ?_
 refine WL.boolCase (fun hg1 => ?_) (fun hg1 => ?_)
 ·
  try simp only [qs] at hg1
  obtain ⟨n, rfl⟩ : ∃ n : Nat, i = (n : Int) := ⟨i.toNat, by omega⟩
  have htb := testBit_words hWl n
  refine zw rfl (zm rfl (zw rfl ?_))
  refine WL.ev (Ev.quoU (b := 32) rfl rfl (by omega) (in_i64 (by omega)).2) rfl ?_
  refine zw rfl (zm rfl (zw rfl (zn rfl (zw rfl ?_))))
  refine WL.ev (Ev.lss rfl rfl) rfl ?_
  refine zt rfl rfl (zm rfl ?_)
  refine WL.boolCase (fun hg2 => ?_) (fun hg2 => ?_)
  ·
   try simp only [qs] at hg2
   refine zw rfl (zm rfl (zw rfl (zm rfl (zw rfl ?_))))
   refine WL.ev (Ev.quoU (b := 32) rfl rfl (by omega) (in_i64 (by omega)).2) rfl ?_
   refine zw rfl ?_
   refine WL.ev (Ev.ixR ((n / 32)) rfl rfl (hrl.keep0 hch) (by omega) (by omega) (by simp; omega)) rfl ?_
   refine zw rfl ?_
   refine WL.ev (Ev.load rfl rfl ((hrl.keep0 hch).u32 (by first | omega | (simp; omega)))) rfl ?_
   have hw19 := hWl.getD ((n / 32))
   refine zw rfl (zm rfl (zw rfl ?_))
   refine WL.ev (Ev.remU (b := 32) rfl rfl (by omega)) rfl ?_
   refine zw rfl ?_
   refine WL.ev (Ev.shrU rfl rfl (by simp only [IntKind.bits]; omega)) rfl ?_
   have hq2 : l.getD (n / 32) 0 / 2 ^ (n % 32) ≤ l.getD (n / 32) 0 := Nat.div_le_self _ _
   refine zw rfl ?_
   refine WL.ev (Ev.andU (b := 1) rfl rfl rfl (by simp only [IntKind.bits]; omega) (by simp only [IntKind.bits]; omega)) rfl ?_
   rw [Nat.and_one_is_mod]
   refine zw rfl (zq rfl rfl (zt rfl rfl (za rfl (zz (kh3 ?_)))))
   refine CW.ret ?_
   refine bodyA.ret1 rfl rfl ?_
   refine ⟨?_, rfl⟩
   rw [show (n : Int).toNat = n by omega, htb, decide_eq_true (show (0 : Int) ≤ (n : Int) by omega), Bool.true_and]
   congr 1
   refine decide_eq_decide.2 ?_
   omega
  ·
   try simp only [qs] at hg2
   refine zv rfl (zv rfl (zv rfl (zv rfl (zv rfl (zv rfl (zv rfl (zv rfl (zv rfl (zv rfl (ze rfl rfl (za rfl (zz (kh3 ?_)))))))))))))
   refine CW.ret ?_
   refine bodyA.ret1 rfl rfl ?_
   refine ⟨?_, rfl⟩
   rw [show (n : Int).toNat = n by omega, htb, getD_out (by omega)]
   simp
 ·
  try simp only [qs] at hg1
  refine zv rfl (zv rfl (zv rfl (zv rfl (zv rfl (ze rfl rfl (zm rfl (zv rfl (zv rfl (zv rfl (zv rfl (zv rfl (zv rfl (zv rfl (zv rfl (zv rfl (zv rfl (ze rfl rfl (za rfl (zz (kh3 ?_))))))))))))))))))))
  refine CW.ret ?_
  refine bodyA.ret1 rfl rfl ?_
  refine ⟨?_, rfl⟩
  rw [decide_eq_false (by omega), Bool.false_and]

theorem both_spec (va vb : Value) (la lb : List Nat) (w : World) (ha : NU w va la) (hb : NU w vb lb) : Ret Tryz.prog 101 [va, vb] w fun u w' => ((((wd (val la)).length ≤ 8192 ∧ (wd (val lb)).length ≤ 8192) ∧ ∃ x y, u = .tuple [x, y, .int .i64 0].toArray ∧ NU w x (wd (val la)) ∧ NU w y (wd (val lb))) ∨ (¬ ((wd (val la)).length ≤ 8192 ∧ (wd (val lb)).length ≤ 8192) ∧ u = .tuple [.slice none 0 0, .slice none 0 0, .int .i64 2].toArray)) ∧ w = w' := by
 obtain ⟨A, hA⟩ : ∃ A, A = wd (val la) := ⟨_, rfl⟩
 have hvA : val A = val la := by rw [hA]; exact val_wd _
 obtain ⟨B, hB⟩ : ∃ B, B = wd (val lb) := ⟨_, rfl⟩
 have hvB : val B = val lb := by rw [hB]; exact val_wd _
 have hch : Chg [] w w := Chg.refl _ _
 refine Ret.enter Tryz.func101 rfl rfl ?_
 simp only [args0, Nat.zero_add, Nat.reduceAdd]
 refine Sr fun _ kh1 => za rfl (za rfl (za rfl (zz (kh1 (Sr fun _ kh3 => zm rfl ?_)))))
 refine WL.call hasF95 rfl rfl (cut_spec _ _ _ ha) fun v w1 h' => ?_
 obtain ⟨hN1, rfl⟩ := h'
 rw [← hA] at hN1
 obtain ⟨⟨a1, c1, rfl, hcap1, hr1⟩, hW1, hl1⟩ := hN1
 refine zm rfl ?_
 refine WL.call hasF95 rfl rfl (cut_spec _ _ _ hb) fun v w2 h' => ?_
 obtain ⟨hN2, rfl⟩ := h'
 rw [← hB] at hN2
 obtain ⟨⟨a2, c2, rfl, hcap2, hr2⟩, hW2, hl2⟩ := hN2
 refine za rfl (za rfl (zz (kh3 (zc fun _ kh5 => Sr fun _ kh6 => zm rfl (zn rfl (zm rfl (zn rfl ?_)))))))
 refine WL.ev (Ev.maxI rfl rfl) rfl ?_
 refine WL.ev (Ev.gtr rfl rfl) rfl ?_
 refine zz (kh6 ?_)
 refine CW.cond rfl (fun hc1 => ?_) (fun hc1 => ?_)
 ·
  try simp only [qs] at hc1
  refine Sr fun _ kh8 => za rfl (za rfl (za rfl (zz (kh8 ?_))))
  refine CW.ret ?_
  refine bodyA.ret3 rfl rfl rfl rfl ?_
  rw [← hA, ← hB]
  exact ⟨.inr ⟨by omega, rfl⟩, rfl⟩
 ·
  try simp only [qs] at hc1
  refine CW.skip ?_
  refine kh5 (Sr fun _ kh10 => zm rfl (zm rfl (za rfl (za rfl (za rfl (zz (kh10 ?_)))))))
  refine CW.ret ?_
  refine bodyA.ret3 rfl rfl rfl rfl ?_
  rw [← hA, ← hB]
  exact ⟨.inl ⟨by omega, _, _, rfl, NU.of_row hr1 hW1 hl1 rfl hcap1, NU.of_row hr2 hW2 hl2 rfl hcap2⟩, rfl⟩

theorem fits_spec (v : Value) (l : List Nat) (w : World) (h : NU w v l) : Ret Tryz.prog 98 [v] w fun u w' => (((wd (val l)).length ≤ 8192 ∧ ∃ r, u = .tuple [r, .int .i64 0].toArray ∧ NU w r (wd (val l))) ∨ (8192 < (wd (val l)).length ∧ u = .tuple [.slice none 0 0, .int .i64 2].toArray)) ∧ w = w' := by
 obtain ⟨A, hA⟩ : ∃ A, A = wd (val l) := ⟨_, rfl⟩
 have hvA : val A = val l := by rw [hA]; exact val_wd _
 have hch : Chg [] w w := Chg.refl _ _
 refine Ret.enter Tryz.func98 rfl rfl ?_
 simp only [args0, Nat.zero_add, Nat.reduceAdd]
 refine Sr fun _ kh1 => za rfl (za rfl (zz (kh1 (zc fun _ kh3 => Sr fun _ kh4 => zm rfl ?_))))
 refine WL.call hasF95 rfl rfl (cut_spec _ _ _ h) fun v w1 h' => ?_
 obtain ⟨hN1, rfl⟩ := h'
 rw [← hA] at hN1
 obtain ⟨⟨a1, c1, rfl, hcap1, hr1⟩, hW1, hl1⟩ := hN1
 refine za rfl (zz (kh4 (Sr fun _ kh6 => zm rfl (zn rfl ?_))))
 refine WL.ev (Ev.gtr rfl rfl) rfl ?_
 refine zz (kh6 ?_)
 refine CW.cond rfl (fun hc1 => ?_) (fun hc1 => ?_)
 ·
  try simp only [qs] at hc1
  refine Sr fun _ kh8 => za rfl (za rfl (zz (kh8 ?_)))
  refine CW.ret ?_
  refine bodyA.ret2 rfl rfl rfl ?_
  rw [← hA]
  exact ⟨.inr ⟨by omega, rfl⟩, rfl⟩
 ·
  try simp only [qs] at hc1
  refine CW.skip ?_
  refine kh3 (Sr fun _ kh10 => zm rfl (zm rfl (zn rfl (zm rfl (zn rfl ?_)))))
  refine WL.ev (Ev.slice3n ((A).length) ((A).length) rfl rfl rfl (by omega) (by omega) (by omega) (by omega)) rfl ?_
  refine za rfl (za rfl (zz (kh10 ?_)))
  refine CW.ret ?_
  refine bodyA.ret2 rfl rfl rfl ?_
  rw [← hA]
  exact ⟨.inl ⟨by omega, _, rfl, NU.of_row hr1 hW1 hl1 rfl (Nat.le_refl _)⟩, rfl⟩

structure KA (X Y : List Nat) (w : World) (b : Nat) (g : Nat × List Nat × Nat) (wr : World) : Prop where
  a : AddI X Y g.1 g.2.1 g.2.2
  ob : OB wr b 116 g.2.1
  chg : Chg [] w wr

set_option maxRecDepth 4000 in
theorem Add_spec (va vb : Value) (la lb : List Nat) (w : World) (ha : NU w va la) (hb : NU w vb lb) : Ret Tryz.prog 201 [va, vb] w fun u w' => (((wd (val la)).length ≤ 8192 ∧ (wd (val lb)).length ≤ 8192 ∧ (wd (val la + val lb)).length ≤ 8192 ∧ ∃ r, u = .tuple [r, .int .i64 0].toArray ∧ NU w' r (wd (val la + val lb))) ∨ (¬ ((wd (val la)).length ≤ 8192 ∧ (wd (val lb)).length ≤ 8192 ∧ (wd (val la + val lb)).length ≤ 8192) ∧ u = .tuple [.slice none 0 0, .int .i64 2].toArray)) ∧ Chg [] w w' := by
 have hch : Chg [] w w := Chg.refl _ _
 refine Ret.enter Tryz.func201 rfl rfl ?_
 simp only [args0, Nat.zero_add, Nat.reduceAdd]
 refine Sr fun _ kh1 => za rfl (za rfl (zz (kh1 (Sr fun _ kh3 => zm rfl (zm rfl ?_)))))
 refine WL.call hasF101 rfl rfl (both_spec _ _ _ _ _ ha hb) fun v w14 h' => ?_
 obtain ⟨h', rfl⟩ := h'
 rcases h' with ⟨hfit, x, y, rfl, hNx, hNy⟩ | ⟨hno, rfl⟩
 ·
  obtain ⟨A, hA⟩ : ∃ A, A = wd (val la) := ⟨_, rfl⟩
  have hvA : val A = val la := by rw [hA]; exact val_wd _
  obtain ⟨B, hB⟩ : ∃ B, B = wd (val lb) := ⟨_, rfl⟩
  have hvB : val B = val lb := by rw [hB]; exact val_wd _
  have hfit0 := hfit
  rw [← hA, ← hB] at hfit
  rw [← hA] at hNx
  rw [← hB] at hNy
  obtain ⟨⟨a1, c1, rfl, hcap1, hr1⟩, hW1, hl1⟩ := hNx
  obtain ⟨⟨a2, c2, rfl, hcap2, hr2⟩, hW2, hl2⟩ := hNy
  refine zm rfl (zx rfl rfl (zx rfl rfl (zx rfl rfl (za rfl (za rfl (za rfl (zz (kh3 (zc fun _ kh5 => Sr fun _ kh6 => zm rfl ?_)))))))))
  refine WL.ev (Ev.neq rfl rfl) rfl ?_
  refine zz (kh6 ?_)
  refine CW.condF rfl ?_
  refine CW.skip ?_
  refine kh5 ?_
  refine CW.seqJ (fun D s' w' => D = [] ∧ w = w' ∧ ∃ xa ca xb cb X Y, RW w xa (X.map u32v) ∧ W X ∧ RW w xb (Y.map u32v) ∧ W Y ∧ Y.length ≤ X.length ∧ X.length ≤ 8192 ∧ val X + val Y = val la + val lb ∧ Subs [(0, .slice xa X.length ca), (1, .slice xb Y.length cb)] s') ?_ ?_
  ·
   refine Sr fun _ kh9 => zm rfl (zn rfl (zm rfl (zn rfl ?_)))
   refine WL.ev (Ev.lss rfl rfl) rfl ?_
   refine zz (kh9 ?_)
   refine CW.cond rfl (fun hc1 => ?_) (fun hc1 => ?_)
   ·
    try simp only [qs] at hc1
    refine CW.region fun kR11 kr11 => ?_
    refine zm rfl (zm rfl (za rfl (za rfl ?_)))
    refine WL.nil (kr11 _ _ _ ?_)
    exact ⟨rfl, rfl, a2, c2, a1, c1, B, A, hr2, hW2, hr1, hW1, by omega, by omega, by omega, (by repeat (first | exact Subs.nil | refine Subs.cons rfl ?_))⟩
   ·
    try simp only [qs] at hc1
    refine CW.skip ?_
    exact ⟨rfl, rfl, a1, c1, a2, c2, A, B, hr1, hW1, hr2, hW2, by omega, by omega, by omega, (by repeat (first | exact Subs.nil | refine Subs.cons rfl ?_))⟩
  ·
   rintro _ s' _ ⟨rfl, rfl, xa, ca, xb, cb, X, Y, hrX, hWX, hrY, hWY, hYX, hX81, hXY, hsub⟩
   refine CW.sub hsub ?_
   refine Sr fun _ kh12 => zm rfl (zn rfl ?_)
   first | refine WL.ev (Ev.addIn rfl rfl (by omega)) rfl ?_ | refine WL.ev (Ev.add rfl rfl) rfl ?_
   refine WL.makeU (((X).length + 1)) (((X).length + 1)) rfl rfl (by omega) (by omega) (by omega) (by omega) (by omega) rfl fun b31 wm31 hb31 hcm31 hge31 => ?_
   have hgehch31 := Nat.le_trans hch.size hge31
   have hch := hch.trans (Chg.any hcm31)
   refine za rfl (zz (kh12 (Sr fun _ kh14 => zm rfl (zm rfl ?_))))
   refine WL.copyU rfl rfl hb31 (hrX.keep0 hch) (by simp; try omega) (by simp; try omega) rfl fun ws2 hb31_ hcs2 => ?_
   have hch := hch.s1 hcs2
   have hb31 := hb31_
   rw [show ((X).take (min ((X).length) (((X).length + 1))) ++ (List.replicate (((X).length + 1)) 0).drop (min ((X).length) (((X).length + 1)))) = (X ++ [0]) from by rw [show min X.length (X.length + 1) = X.length by omega, List.take_length, List.drop_replicate, show X.length + 1 - X.length = 1 by omega]; rfl] at hb31
   refine zz (kh14 (Sr fun _ kh16 => za rfl (zz (kh16 (zc fun _ kh18 => Sr fun _ kh19 => zm rfl (zn rfl (zm rfl (zz (kh19 ?_)))))))))
   refine CW.block ?_
   refine CW.loop (S := fun g : Nat × List Nat × Nat => [(0, .slice xa X.length ca), (1, .slice xb Y.length cb), (7, .slice (some ⟨b31, 0, none⟩) (X.length + 1) (X.length + 1)), (8, .int .u32 (g.2.2 : Int)), (36, .int .i64 (X.length : Int)), (37, .int .i64 (g.1 : Int))]) (Inv := KA X Y w b31) (mu := fun g => X.length - g.1) ((0, X ++ [0], 0)) ?_ ?_ ?_
   ·
    exact ⟨AddI.zero (by simp) (W_append.2 ⟨hWX, W_cons.2 ⟨by omega, W_nil⟩⟩), hb31, hch⟩
   ·
    exact SLp
   ·
    rintro ⟨i, L, c⟩ wr ⟨hA, hb31, hch⟩
    dsimp only at hA hb31 hch
    have hiX := hA.le
    have hLl := hA.len
    have hc1 := hA.c1
    refine Sr fun _ kh21 => ?_
    refine WL.ev (Ev.lss rfl rfl) rfl ?_
    refine zz (kh21 (zc fun _ kh23 => ?_))
    refine CW.cond rfl (fun hc2 => ?_) (fun hc2 => ?_)
    ·
     try simp only [qs] at hc2
     refine CW.skip ?_
     refine kh23 (zc fun _ kh24 => ?_)
     refine CW.block ?_
     refine Sr fun _ kh25 => zm rfl (za rfl (zz (kh25 (Sr fun _ kh27 => za rfl (zz (kh27 (zc fun _ kh29 => Sr fun _ kh30 => zm rfl (zm rfl (zn rfl ?_)))))))))
     refine WL.ev (Ev.lss rfl rfl) rfl ?_
     refine zz (kh30 ?_)
     refine CW.cond rfl (fun hc3 => ?_) (fun hc3 => ?_)
     ·
      try simp only [qs] at hc3
      refine CW.region fun kR32 kr32 => ?_
      refine zm rfl (zm rfl ?_)
      refine WL.ev (Ev.ixR (i) rfl rfl (hrY.keep0 hch) (by omega) (by omega) (by simp; omega)) rfl ?_
      refine WL.ev (Ev.load rfl rfl ((hrY.keep0 hch).u32 (by first | omega | (simp; omega)))) rfl ?_
      have hw47 := hWY.getD (i)
      refine za rfl ?_
      refine WL.nil (kr32 _ _ _ (kh29 ?_))
      refine CW.region fun kR33 kr33 => ?_
      refine zm rfl (zm rfl (zm rfl (zm rfl ?_)))
      refine WL.ev (Ev.ixR (i) rfl rfl (hrX.keep0 hch) (by omega) (by omega) (by simp; omega)) rfl ?_
      refine WL.ev (Ev.load rfl rfl ((hrX.keep0 hch).u32 (by first | omega | (simp; omega)))) rfl ?_
      have hw54 := hWX.getD (i)
      refine zm rfl (zm rfl ?_)
      refine WL.call hasF100 rfl rfl (Add32_spec (X.getD i 0) (Y.getD i 0) c _ (hWX.getD i) (hWY.getD i) (by omega)) fun v w1 h' => ?_
      obtain ⟨rfl, rfl⟩ := h'
      refine zm rfl (zx rfl rfl (zx rfl rfl ?_))
      refine WL.ev (Ev.ixB (i) rfl rfl (by omega) (by omega)) rfl ?_
      refine WL.storeU rfl rfl hb31 (by first | omega | (simp; omega)) fun ws3 hb31_ hcs3 => ?_
      have hch := hch.s1 hcs3
      have hb31 := hb31_
      refine za rfl ?_
      refine WL.nil (kr33 _ _ _ (kh24 ?_))
      refine CW.region fun kR34 kr34 => ?_
      first | refine WL.ev (Ev.addIn rfl rfl (by omega)) rfl ?_ | refine WL.ev (Ev.add rfl rfl) rfl ?_
      refine zm rfl ?_
      refine WL.nil (kr34 _ _ _ ?_)
      refine ⟨rfl, (i + 1, L.set i ((X.getD i 0 + Y.getD i 0 + c) % 4294967296), (X.getD i 0 + Y.getD i 0 + c) / 4294967296), ?_, ?_, ?_⟩
      ·
       exact SLp
      ·
       exact ⟨hA.step hWX hWY (by omega), hb31, hch⟩
      ·
       show X.length - (i + 1) < X.length - i; omega
     ·
      try simp only [qs] at hc3
      have hy0 : Y.getD i 0 = 0 := getD_out (by omega)
      refine CW.skip ?_
      refine kh29 ?_
      refine CW.region fun kR35 kr35 => ?_
      refine zm rfl (zm rfl (zm rfl (zm rfl ?_)))
      refine WL.ev (Ev.ixR (i) rfl rfl (hrX.keep0 hch) (by omega) (by omega) (by simp; omega)) rfl ?_
      refine WL.ev (Ev.load rfl rfl ((hrX.keep0 hch).u32 (by first | omega | (simp; omega)))) rfl ?_
      have hw54 := hWX.getD (i)
      refine zm rfl (zm rfl ?_)
      refine WL.call hasF100 rfl rfl (Add32_spec (X.getD i 0) 0 c _ (hWX.getD i) (by omega) (by omega)) fun v w2 h' => ?_
      obtain ⟨rfl, rfl⟩ := h'
      rw [show X.getD i 0 + 0 + c = X.getD i 0 + Y.getD i 0 + c by omega]
      refine zm rfl (zx rfl rfl (zx rfl rfl ?_))
      refine WL.ev (Ev.ixB (i) rfl rfl (by omega) (by omega)) rfl ?_
      refine WL.storeU rfl rfl hb31 (by first | omega | (simp; omega)) fun ws4 hb31_ hcs4 => ?_
      have hch := hch.s1 hcs4
      have hb31 := hb31_
      refine za rfl ?_
      refine WL.nil (kr35 _ _ _ (kh24 ?_))
      refine CW.region fun kR36 kr36 => ?_
      first | refine WL.ev (Ev.addIn rfl rfl (by omega)) rfl ?_ | refine WL.ev (Ev.add rfl rfl) rfl ?_
      refine zm rfl ?_
      refine WL.nil (kr36 _ _ _ ?_)
      refine ⟨rfl, (i + 1, L.set i ((X.getD i 0 + Y.getD i 0 + c) % 4294967296), (X.getD i 0 + Y.getD i 0 + c) / 4294967296), ?_, ?_, ?_⟩
      ·
       exact SLp
      ·
       exact ⟨hA.step hWX hWY (by omega), hb31, hch⟩
      ·
       show X.length - (i + 1) < X.length - i; omega
    ·
     try simp only [qs] at hc2
     refine CW.exit ?_
     refine kh18 (zc fun _ kh37 => ?_)
     have hiX2 : i = X.length := by omega
     subst hiX2
     obtain ⟨hv9, hW9, hl9⟩ := hA.done hYX
     rw [hXY] at hv9
     refine CW.region fun kR38 kr38 => ?_
     refine zm rfl (zm rfl (zn rfl (zm rfl ?_)))
     refine WL.ev (Ev.ixB (X.length) rfl rfl (by omega) (by omega)) rfl ?_
     refine WL.storeU rfl rfl hb31 (by first | omega | (simp; omega)) fun ws5 hb31_ hcs5 => ?_
     have hch := hch.s1 hcs5
     have hb31 := hb31_
     refine WL.nil (kr38 _ _ _ (kh37 ?_))
     refine Sr fun _ kh39 => zm rfl ?_
     refine WL.call hasF98 rfl rfl (fits_spec _ _ _ (NU.of_block hb31 hW9 (by rw [hl9]; omega) (by rw [hl9]) (Nat.le_refl _))) fun v w68 h' => ?_
     obtain ⟨h', rfl⟩ := h'
     rw [hv9] at h'
     rcases h' with ⟨hfs, r, rfl, hNr⟩ | ⟨hfs, rfl⟩
     ·
      refine zx rfl rfl (zx rfl rfl (za rfl (za rfl (zz (kh39 ?_)))))
      refine CW.ret ?_
      refine bodyA.ret2 rfl rfl rfl ?_
      exact ⟨.inl ⟨hfit0.1, hfit0.2, hfs, r, rfl, hNr⟩, hch⟩
     ·
      refine zx rfl rfl (zx rfl rfl (za rfl (za rfl (zz (kh39 ?_)))))
      refine CW.ret ?_
      refine bodyA.ret2 rfl rfl rfl ?_
      exact ⟨.inr ⟨by omega, rfl⟩, hch⟩
 ·
  refine zm rfl (zx rfl rfl (zx rfl rfl (zx rfl rfl (za rfl (za rfl (za rfl (zz (kh3 (zc fun _ kh41 => Sr fun _ kh42 => zm rfl ?_)))))))))
  refine WL.ev (Ev.neq rfl rfl) rfl ?_
  refine zz (kh42 ?_)
  refine CW.condT rfl ?_
  refine Sr fun _ kh44 => zm rfl (za rfl (za rfl (zz (kh44 ?_))))
  refine CW.ret ?_
  refine bodyA.ret2 rfl rfl rfl ?_
  exact ⟨.inr ⟨by omega, rfl⟩, Chg.refl _ _⟩

end Go.Proofs.YtphnpchmdpjabaaGreatDoor

/- Package wide: less, Sub, Cmp. No condition. -/
namespace Go.Proofs.YtphnpchmdpjabaaGreatDoor
open Go Sx Wd

structure KS (X Y : List Nat) (w : World) (b : Nat) (g : Nat × List Nat × Nat) (wr : World) : Prop where
  a : SubI X Y g.1 g.2.1 g.2.2
  ob : OB wr b 116 g.2.1
  chg : Chg [] w wr

set_option maxRecDepth 4000 in
theorem less_spec (va vb : Value) (la lb : List Nat) (w : World) (ha : NU w va la) (hb : NU w vb lb) (hle : val lb ≤ val la) : Ret Tryz.prog 102 [va, vb] w fun u w' => ∃ L, NU w' u L ∧ val L = val la - val lb ∧ Chg [] w w' := by
 obtain ⟨⟨ala, cla, rfl, hcapla, hrla⟩, hWla, hlla⟩ := ha
 obtain ⟨⟨alb, clb, rfl, hcaplb, hrlb⟩, hWlb, hllb⟩ := hb
 have hch : Chg [] w w := Chg.refl _ _
 refine Ret.enter Tryz.func102 rfl rfl ?_
 simp only [args0, Nat.zero_add, Nat.reduceAdd]
 refine Sr fun _ kh1 => za rfl (zz (kh1 (Sr fun _ kh3 => zm rfl (zn rfl ?_))))
 refine WL.makeU ((la).length) ((la).length) rfl rfl (by omega) (by omega) (by omega) (by omega) (by omega) rfl fun b11 wm11 hb11 hcm11 hge11 => ?_
 have hgehch11 := Nat.le_trans hch.size hge11
 have hch := hch.trans (Chg.any hcm11)
 refine za rfl (zz (kh3 (Sr fun _ kh5 => za rfl (zz (kh5 (zc fun _ kh7 => Sr fun _ kh8 => zm rfl (zn rfl (zm rfl (zz (kh8 ?_))))))))))
 refine CW.block ?_
 refine CW.loop (S := fun g : Nat × List Nat × Nat => [(0, .slice ala la.length cla), (1, .slice alb lb.length clb), (5, .slice (some ⟨b11, 0, none⟩) la.length la.length), (6, .int .u32 (g.2.2 : Int)), (13, .int .i64 (la.length : Int)), (14, .int .i64 (g.1 : Int))]) (Inv := KS la lb w b11) (mu := fun g => la.length - g.1) ((0, List.replicate la.length 0, 0)) ?_ ?_ ?_
 ·
  exact ⟨SubI.zero (by simp) (W_replicate _), hb11, hch⟩
 ·
  exact SLp
 ·
  rintro ⟨i, L, c⟩ wr ⟨hAd, hb11, hch⟩
  dsimp only at hAd hb11 hch
  have hiX := hAd.le
  have hLl := hAd.len
  have hcc := hAd.c1
  refine Sr fun _ kh10 => ?_
  refine WL.ev (Ev.lss rfl rfl) rfl ?_
  refine zz (kh10 (zc fun _ kh12 => ?_))
  refine CW.cond rfl (fun hc1 => ?_) (fun hc1 => ?_)
  ·
   try simp only [qs] at hc1
   refine CW.skip ?_
   refine kh12 (zc fun _ kh13 => ?_)
   refine CW.block ?_
   refine Sr fun _ kh14 => zm rfl (za rfl (zz (kh14 (Sr fun _ kh16 => za rfl (zz (kh16 (zc fun _ kh18 => Sr fun _ kh19 => zm rfl (zm rfl (zn rfl ?_)))))))))
   refine WL.ev (Ev.lss rfl rfl) rfl ?_
   refine zz (kh19 ?_)
   refine CW.cond rfl (fun hc2 => ?_) (fun hc2 => ?_)
   ·
    try simp only [qs] at hc2
    refine CW.region fun kR21 kr21 => ?_
    refine zm rfl (zm rfl ?_)
    refine WL.ev (Ev.ixR (i) rfl rfl (hrlb.keep0 hch) (by omega) (by omega) (by simp; omega)) rfl ?_
    refine WL.ev (Ev.load rfl rfl ((hrlb.keep0 hch).u32 (by first | omega | (simp; omega)))) rfl ?_
    have hw24 := hWlb.getD (i)
    refine za rfl ?_
    refine WL.nil (kr21 _ _ _ (kh18 ?_))
    refine CW.region fun kR22 kr22 => ?_
    refine zm rfl (zm rfl (zm rfl (zm rfl ?_)))
    refine WL.ev (Ev.ixR (i) rfl rfl (hrla.keep0 hch) (by omega) (by omega) (by simp; omega)) rfl ?_
    refine WL.ev (Ev.load rfl rfl ((hrla.keep0 hch).u32 (by first | omega | (simp; omega)))) rfl ?_
    have hw31 := hWla.getD (i)
    refine zm rfl (zm rfl ?_)
    refine WL.call hasF132 rfl rfl (Sub32_spec (la.getD i 0) (lb.getD i 0) c _ (hWla.getD i) (hWlb.getD i) (by omega)) fun v w1 h' => ?_
    obtain ⟨rfl, rfl⟩ := h'
    refine zm rfl (zx rfl rfl (zx rfl rfl ?_))
    refine WL.ev (Ev.ixB (i) rfl rfl (by omega) (by omega)) rfl ?_
    refine WL.storeU rfl rfl hb11 (by first | omega | (simp; omega)) fun ws6 hb11_ hcs6 => ?_
    have hch := hch.s1 hcs6
    have hb11 := hb11_
    refine za rfl ?_
    refine WL.nil (kr22 _ _ _ (kh13 ?_))
    refine CW.region fun kR23 kr23 => ?_
    first | refine WL.ev (Ev.addIn rfl rfl (by omega)) rfl ?_ | refine WL.ev (Ev.add rfl rfl) rfl ?_
    refine zm rfl ?_
    refine WL.nil (kr23 _ _ _ ?_)
    refine ⟨rfl, (i + 1, L.set i ((la.getD i 0 + 8589934592 - lb.getD i 0 - c) % 4294967296), if la.getD i 0 < lb.getD i 0 + c then 1 else 0), ?_, ?_, ?_⟩
    ·
     exact SLp
    ·
     exact ⟨hAd.step hWla hWlb (by omega), hb11, hch⟩
    ·
     show la.length - (i + 1) < la.length - i; omega
   ·
    try simp only [qs] at hc2
    have e0 : Value.int IntKind.u32 0 = Value.int IntKind.u32 ((lb.getD i 0 : Nat) : Int) := by rw [getD_out (by omega)]; rfl
    rw [e0]
    refine CW.skip ?_
    refine kh18 ?_
    refine CW.region fun kR24 kr24 => ?_
    refine zm rfl (zm rfl (zm rfl (zm rfl ?_)))
    refine WL.ev (Ev.ixR (i) rfl rfl (hrla.keep0 hch) (by omega) (by omega) (by simp; omega)) rfl ?_
    refine WL.ev (Ev.load rfl rfl ((hrla.keep0 hch).u32 (by first | omega | (simp; omega)))) rfl ?_
    have hw31 := hWla.getD (i)
    refine zm rfl (zm rfl ?_)
    refine WL.call hasF132 rfl rfl (Sub32_spec (la.getD i 0) (lb.getD i 0) c _ (hWla.getD i) (hWlb.getD i) (by omega)) fun v w2 h' => ?_
    obtain ⟨rfl, rfl⟩ := h'
    refine zm rfl (zx rfl rfl (zx rfl rfl ?_))
    refine WL.ev (Ev.ixB (i) rfl rfl (by omega) (by omega)) rfl ?_
    refine WL.storeU rfl rfl hb11 (by first | omega | (simp; omega)) fun ws7 hb11_ hcs7 => ?_
    have hch := hch.s1 hcs7
    have hb11 := hb11_
    refine za rfl ?_
    refine WL.nil (kr24 _ _ _ (kh13 ?_))
    refine CW.region fun kR25 kr25 => ?_
    first | refine WL.ev (Ev.addIn rfl rfl (by omega)) rfl ?_ | refine WL.ev (Ev.add rfl rfl) rfl ?_
    refine zm rfl ?_
    refine WL.nil (kr25 _ _ _ ?_)
    refine ⟨rfl, (i + 1, L.set i ((la.getD i 0 + 8589934592 - lb.getD i 0 - c) % 4294967296), if la.getD i 0 < lb.getD i 0 + c then 1 else 0), ?_, ?_, ?_⟩
    ·
     exact SLp
    ·
     exact ⟨hAd.step hWla hWlb (by omega), hb11, hch⟩
    ·
     show la.length - (i + 1) < la.length - i; omega
  ·
   try simp only [qs] at hc1
   refine CW.exit ?_
   refine kh7 (Sr fun _ kh26 => zm rfl (za rfl (zz (kh26 ?_))))
   refine CW.ret ?_
   refine bodyA.ret1 rfl rfl ?_
   have hiX2 : i = la.length := by omega
   subst hiX2
   exact ⟨L, NU.of_block hb11 hAd.w (by omega) (by omega) (Nat.le_refl _), hAd.done hWla hWlb hle, hch⟩

structure KC (A B : List Nat) (w : World) (k : Nat) (wr : World) : Prop where
  le : k ≤ A.length
  eq : A.drop k = B.drop k
  chg : Chg [] w wr

set_option maxRecDepth 4000 in
theorem Cmp_spec (va vb : Value) (la lb : List Nat) (w : World) (ha : NU w va la) (hb : NU w vb lb) : Ret Tryz.prog 50 [va, vb] w fun u w' => u = .int .i64 (sgn (val la) (val lb)) ∧ Chg [] w w' := by
 obtain ⟨A, hA⟩ : ∃ A, A = wd (val la) := ⟨_, rfl⟩
 have hvA : val A = val la := by rw [hA]; exact val_wd _
 obtain ⟨B, hB⟩ : ∃ B, B = wd (val lb) := ⟨_, rfl⟩
 have hvB : val B = val lb := by rw [hB]; exact val_wd _
 have hch : Chg [] w w := Chg.refl _ _
 refine Ret.enter Tryz.func50 rfl rfl ?_
 simp only [args0, Nat.zero_add, Nat.reduceAdd]
 refine Sr fun _ kh1 => za rfl (zz (kh1 (Sr fun _ kh3 => zm rfl ?_)))
 refine WL.call hasF95 rfl rfl (cut_spec _ _ _ ha) fun v w1 h' => ?_
 obtain ⟨hN1, rfl⟩ := h'
 rw [← hA] at hN1
 obtain ⟨⟨a1, c1, rfl, hcap1, hr1⟩, hW1, hl1⟩ := hN1
 refine zm rfl ?_
 refine WL.call hasF95 rfl rfl (cut_spec _ _ _ hb) fun v w2 h' => ?_
 obtain ⟨hN2, rfl⟩ := h'
 rw [← hB] at hN2
 obtain ⟨⟨a2, c2, rfl, hcap2, hr2⟩, hW2, hl2⟩ := hN2
 refine za rfl (za rfl (zz (kh3 (zc fun _ kh5 => ?_))))
 refine CW.block ?_
 refine Sr fun _ kh6 => zm rfl (zn rfl (zm rfl (zn rfl ?_)))
 refine WL.ev (Ev.lss rfl rfl) rfl ?_
 refine za rfl (zz (kh6 ?_))
 refine CW.cond rfl (fun hc1 => ?_) (fun hc1 => ?_)
 ·
  try simp only [qs] at hc1
  refine Sr fun _ kh8 => za rfl (zz (kh8 ?_))
  refine CW.ret ?_
  refine bodyA.ret1 rfl rfl ?_
  have hs := sgn_len (a := val la) (b := val lb)
  rw [← hA, ← hB] at hs
  rw [hs.1 (by omega)]
  exact ⟨rfl, hch⟩
 ·
  try simp only [qs] at hc1
  refine Sr fun _ kh10 => zm rfl (zn rfl (zm rfl (zn rfl ?_)))
  refine WL.ev (Ev.gtr rfl rfl) rfl ?_
  refine za rfl (zz (kh10 ?_))
  refine CW.cond rfl (fun hc2 => ?_) (fun hc2 => ?_)
  ·
   try simp only [qs] at hc2
   refine Sr fun _ kh12 => za rfl (zz (kh12 ?_))
   refine CW.ret ?_
   refine bodyA.ret1 rfl rfl ?_
   have hs := sgn_len (a := val la) (b := val lb)
   rw [← hA, ← hB] at hs
   rw [hs.2 (by omega)]
   exact ⟨rfl, hch⟩
  ·
   try simp only [qs] at hc2
   have hAB : A.length = B.length := by omega
   refine CW.skip ?_
   refine kh5 (zc fun _ kh14 => Sr fun _ kh15 => zm rfl (zn rfl ?_))
   first | refine WL.ev (Ev.subIn rfl rfl (by omega)) rfl ?_ | refine WL.ev (Ev.sub rfl rfl) rfl ?_
   refine za rfl (zz (kh15 ?_))
   refine CW.block ?_
   refine CW.loop (S := fun k : Nat => [(0, .slice a1 A.length c1), (1, .slice a2 B.length c2), (5, .int .i64 ((k : Int) - 1))]) (Inv := KC A B w) (mu := fun k => k) (A.length) ?_ ?_ ?_
   ·
    exact ⟨Nat.le_refl _, by rw [List.drop_length, hAB, List.drop_length], hch⟩
   ·
    exact SLp
   ·
    rintro k wr ⟨hkl, hkd, hch⟩
    refine zc fun _ kh17 => Sr fun _ kh18 => zm rfl ?_
    refine WL.ev (Ev.geq rfl rfl) rfl ?_
    refine zz (kh18 ?_)
    refine CW.cond rfl (fun hc3 => ?_) (fun hc3 => ?_)
    ·
     try simp only [qs] at hc3
     have hk1 : k - 1 + 1 = k := by omega
     have hsd := sgn_drop hW1 hW2 hAB (k := k - 1) (by omega) (by rw [hk1]; exact hkd)
     rw [hvA, hvB] at hsd
     refine CW.skip ?_
     refine kh17 (zc fun _ kh20 => ?_)
     refine CW.block ?_
     refine CW.block ?_
     refine zc fun _ kh21 => ?_
     refine CW.regionSC hmix (by kernel_rfl) fun kR22 kr22 hdr => ?_
     have hch := hch.trans (Chg.any hdr)
     refine ym rfl (ym rfl ?_)
     refine WS.ev (Ev.ixR ((k - 1)) rfl rfl (hr1.keep0 hch) (by omega) (by omega) (by simp; omega)) rfl ?_
     refine WS.ev (Ev.load rfl rfl ((hr1.keep0 hch).u32 (by first | omega | (simp; omega)))) rfl ?_
     have hw33 := hW1.getD ((k - 1))
     refine ym rfl (ym rfl ?_)
     refine WS.ev (Ev.ixR ((k - 1)) rfl rfl (hr2.keep0 hch) (by omega) (by omega) (by simp; omega)) rfl ?_
     refine WS.ev (Ev.load rfl rfl ((hr2.keep0 hch).u32 (by first | omega | (simp; omega)))) rfl ?_
     have hw37 := hW2.getD ((k - 1))
     refine WS.ev (Ev.lss rfl rfl) rfl ?_
     refine ya rfl ?_
     refine WS.nil (kr22 _ _ ?_)
     refine kh21 ?_
     refine CW.cond rfl (fun hc4 => ?_) (fun hc4 => ?_)
     ·
      try simp only [qs] at hc4
      refine Sr fun _ kh23 => za rfl (zz (kh23 ?_))
      refine CW.ret ?_
      refine bodyA.ret1 rfl rfl ?_
      rw [hsd.1 (by omega)]
      exact ⟨rfl, hch⟩
     ·
      try simp only [qs] at hc4
      refine zc fun _ kh25 => ?_
      refine CW.regionSC hmix (by kernel_rfl) fun kR26 kr26 hdr => ?_
      have hch := hch.trans (Chg.any hdr)
      refine ym rfl (ym rfl ?_)
      refine WS.ev (Ev.ixR ((k - 1)) rfl rfl (hr1.keep0 hch) (by omega) (by omega) (by simp; omega)) rfl ?_
      refine WS.ev (Ev.load rfl rfl ((hr1.keep0 hch).u32 (by first | omega | (simp; omega)))) rfl ?_
      have hw43 := hW1.getD ((k - 1))
      refine ym rfl (ym rfl ?_)
      refine WS.ev (Ev.ixR ((k - 1)) rfl rfl (hr2.keep0 hch) (by omega) (by omega) (by simp; omega)) rfl ?_
      refine WS.ev (Ev.load rfl rfl ((hr2.keep0 hch).u32 (by first | omega | (simp; omega)))) rfl ?_
      have hw47 := hW2.getD ((k - 1))
      refine WS.ev (Ev.gtr rfl rfl) rfl ?_
      refine ya rfl ?_
      refine WS.nil (kr26 _ _ ?_)
      refine kh25 ?_
      refine CW.cond rfl (fun hc5 => ?_) (fun hc5 => ?_)
      ·
       try simp only [qs] at hc5
       refine Sr fun _ kh27 => za rfl (zz (kh27 ?_))
       refine CW.ret ?_
       refine bodyA.ret1 rfl rfl ?_
       rw [hsd.2.1 (by omega)]
       exact ⟨rfl, hch⟩
      ·
       try simp only [qs] at hc5
       refine CW.skip ?_
       refine kh20 ?_
       refine CW.region fun kR29 kr29 => ?_
       refine zm rfl ?_
       first | refine WL.ev (Ev.subIn rfl rfl (by omega)) rfl ?_ | refine WL.ev (Ev.sub rfl rfl) rfl ?_
       refine za rfl ?_
       refine WL.nil (kr29 _ _ _ ?_)
       refine ⟨rfl, k - 1, ?_, ?_, ?_⟩
       ·
        exact SLp
       ·
        exact ⟨by omega, hsd.2.2 (by omega), hch⟩
       ·
        omega
    ·
     try simp only [qs] at hc3
     refine CW.exit ?_
     refine kh14 (Sr fun _ kh30 => za rfl (zz (kh30 ?_)))
     refine CW.ret ?_
     refine bodyA.ret1 rfl rfl ?_
     have hk0 : k = 0 := by omega
     subst hk0
     rw [List.drop_zero, List.drop_zero] at hkd
     rw [← hvA, ← hvB, hkd, sgn_self]
     exact ⟨rfl, hch⟩

set_option maxRecDepth 4000 in
theorem Sub_spec (va vb : Value) (la lb : List Nat) (w : World) (ha : NU w va la) (hb : NU w vb lb) : Ret Tryz.prog 51 [va, vb] w fun u w' => (((wd (val la)).length ≤ 8192 ∧ (wd (val lb)).length ≤ 8192 ∧ val lb ≤ val la ∧ ∃ r, u = .tuple [r, .int .i64 0].toArray ∧ NU w' r (wd (val la - val lb))) ∨ (¬ ((wd (val la)).length ≤ 8192 ∧ (wd (val lb)).length ≤ 8192) ∧ u = .tuple [.slice none 0 0, .int .i64 2].toArray) ∨ (((wd (val la)).length ≤ 8192 ∧ (wd (val lb)).length ≤ 8192) ∧ val la < val lb ∧ u = .tuple [.slice none 0 0, .int .i64 20].toArray)) ∧ Chg [] w w' := by
 have hch : Chg [] w w := Chg.refl _ _
 refine Ret.enter Tryz.func51 rfl rfl ?_
 simp only [args0, Nat.zero_add, Nat.reduceAdd]
 refine Sr fun _ kh1 => za rfl (za rfl (zz (kh1 (Sr fun _ kh3 => zm rfl (zm rfl ?_)))))
 refine WL.call hasF101 rfl rfl (both_spec _ _ _ _ _ ha hb) fun v w10 h' => ?_
 obtain ⟨h', rfl⟩ := h'
 rcases h' with ⟨hfit, x, y, rfl, hNx, hNy⟩ | ⟨hno, rfl⟩
 ·
  have hlm := wd_length_val_le (NU.hw hNx)
  refine zm rfl (zx rfl rfl (zx rfl rfl (zx rfl rfl (za rfl (za rfl (za rfl (zz (kh3 (zc fun _ kh5 => ?_)))))))))
  refine CW.block ?_
  refine Sr fun _ kh6 => zm rfl ?_
  refine WL.ev (Ev.neq rfl rfl) rfl ?_
  refine za rfl (zz (kh6 ?_))
  refine CW.condF rfl ?_
  refine Sr fun _ kh8 => zm rfl (zm rfl ?_)
  refine WL.call hasF50 rfl rfl (Cmp_spec _ _ _ _ _ hNx hNy) fun v w1 h' => ?_
  obtain ⟨rfl, hC21⟩ := h'
  have hch := hch.trans hC21
  have hNx := hNx.keep0 hC21
  have hNy := hNy.keep0 hC21
  rw [val_wd, val_wd]
  refine WL.ev (Ev.lss rfl rfl) rfl ?_
  refine za rfl (zz (kh8 ?_))
  refine CW.cond rfl (fun hc1 => ?_) (fun hc1 => ?_)
  ·
   try simp only [qs] at hc1
   have hlt : val la < val lb := Nat.lt_of_not_le fun hle => by unfold sgn at hc1; split at hc1 <;> (try split at hc1) <;> omega
   refine Sr fun _ kh10 => za rfl (za rfl (zz (kh10 ?_)))
   refine CW.ret ?_
   refine bodyA.ret2 rfl rfl rfl ?_
   exact ⟨.inr (.inr ⟨hfit, hlt, rfl⟩), hch⟩
  ·
   try simp only [qs] at hc1
   have hle : val lb ≤ val la := Nat.le_of_not_lt fun hlt => by unfold sgn at hc1; rw [if_pos hlt] at hc1; omega
   refine CW.skip ?_
   refine kh5 (Sr fun _ kh12 => zm rfl (zm rfl ?_))
   refine WL.call hasF102 rfl rfl (less_spec _ _ _ _ _ hNx hNy (by rw [val_wd, val_wd]; exact hle)) fun v w2 h' => ?_
   obtain ⟨L, hNL, hvL, hC25⟩ := h'
   have hch := hch.trans hC25
   rw [val_wd, val_wd] at hvL
   refine WL.call hasF98 rfl rfl (fits_spec _ _ _ hNL) fun v w3 h' => ?_
   obtain ⟨h', rfl⟩ := h'
   rw [hvL] at h'
   obtain ⟨hfs, r, rfl, hNr⟩ := h'.resolve_right (fun q => by have := q.1; have := wd_length_mono (Nat.sub_le (val la) (val lb)); omega)
   refine zx rfl rfl (zx rfl rfl (za rfl (za rfl (zz (kh12 ?_)))))
   refine CW.ret ?_
   refine bodyA.ret2 rfl rfl rfl ?_
   exact ⟨.inl ⟨hfit.1, hfit.2, hle, r, rfl, hNr⟩, hch⟩
 ·
  refine zm rfl (zx rfl rfl (zx rfl rfl (zx rfl rfl (za rfl (za rfl (za rfl (zz (kh3 (zc fun _ kh14 => ?_)))))))))
  refine CW.block ?_
  refine Sr fun _ kh15 => zm rfl ?_
  refine WL.ev (Ev.neq rfl rfl) rfl ?_
  refine za rfl (zz (kh15 ?_))
  refine CW.condT rfl ?_
  refine Sr fun _ kh17 => zm rfl (za rfl (za rfl (zz (kh17 ?_))))
  refine CW.ret ?_
  refine bodyA.ret2 rfl rfl rfl ?_
  exact ⟨.inr (.inl ⟨by omega, rfl⟩), Chg.refl _ _⟩

end Go.Proofs.YtphnpchmdpjabaaGreatDoor

/- Package wide: up, down, Shift, times, Mul. No condition. -/
namespace Go.Proofs.YtphnpchmdpjabaaGreatDoor
open Go Sx Wd

structure KU (l : List Nat) (s : Nat) (w : World) (b : Nat) (g : Nat × List Nat) (wr : World) : Prop where
  a : UpI l s g.1 g.2
  ob : OB wr b 116 g.2
  chg : Chg [] w wr
structure KD (l : List Nat) (s : Nat) (w : World) (b : Nat) (g : Nat × List Nat) (wr : World) : Prop where
  a : DownI l s g.1 g.2
  ob : OB wr b 116 g.2
  chg : Chg [] w wr

set_option maxRecDepth 4000 in
theorem up_spec (v : Value) (l : List Nat) (s : Nat) (w : World) (h : NU w v l) (hs : s < 32) (hlm : l.length < 70368744177664) : Ret Tryz.prog 99 [v, .int .i64 (s : Int)] w fun u w' => ∃ L, NU w' u L ∧ L.length = l.length + 1 ∧ val L = val l * 2 ^ s ∧ Chg [] w w' := by
 obtain ⟨⟨al, cl, rfl, hcapl, hrl⟩, hWl, hll⟩ := h
 have hch : Chg [] w w := Chg.refl _ _
 refine Ret.enter Tryz.func99 rfl rfl ?_
 simp only [args0, Nat.zero_add, Nat.reduceAdd]
 refine Sr fun _ kh1 => za rfl (zz (kh1 (Sr fun _ kh3 => zm rfl (zn rfl ?_))))
 first | refine WL.ev (Ev.addIn rfl rfl (by omega)) rfl ?_ | refine WL.ev (Ev.add rfl rfl) rfl ?_
 refine WL.makeU (((l).length + 1)) (((l).length + 1)) rfl rfl (by omega) (by omega) (by omega) (by omega) (by omega) rfl fun b12 wm12 hb12 hcm12 hge12 => ?_
 have hgehch12 := Nat.le_trans hch.size hge12
 have hch := hch.trans (Chg.any hcm12)
 refine za rfl (zz (kh3 (zc fun _ kh5 => Sr fun _ kh6 => zm rfl (zn rfl (zm rfl (zz (kh6 ?_)))))))
 refine CW.block ?_
 refine CW.loop (S := fun g : Nat × List Nat => [(1, .int .i64 (s : Int)), (5, .slice (some ⟨b12, 0, none⟩) (l.length + 1) (l.length + 1)), (13, .slice al l.length cl), (14, .int .i64 (l.length : Int)), (15, .int .i64 (g.1 : Int))]) (Inv := KU l s w b12) (mu := fun g => l.length - g.1) ((0, List.replicate (l.length + 1) 0)) ?_ ?_ ?_
 ·
  exact ⟨UpI.zero l s, hb12, hch⟩
 ·
  exact SLp
 ·
  rintro ⟨i, L⟩ wr ⟨hAd, hb12, hch⟩
  dsimp only at hAd hb12 hch
  have hiX := hAd.le
  have hLl := hAd.len
  have hWL := hAd.w
  refine Sr fun _ kh8 => ?_
  refine WL.ev (Ev.lss rfl rfl) rfl ?_
  refine zz (kh8 (zc fun _ kh10 => ?_))
  refine CW.cond rfl (fun hc1 => ?_) (fun hc1 => ?_)
  ·
   try simp only [qs] at hc1
   have hst := hAd.step hs hWl (by omega)
   refine CW.skip ?_
   refine kh10 (zc fun _ kh11 => ?_)
   refine CW.block ?_
   refine Sr fun _ kh12 => zm rfl ?_
   refine WL.ev (Ev.ixR (i) rfl rfl (hrl.keep0 hch) (by omega) (by omega) (by simp; omega)) rfl ?_
   refine WL.ev (Ev.load rfl rfl ((hrl.keep0 hch).u32 (by first | omega | (simp; omega)))) rfl ?_
   have hw19 := hWl.getD (i)
   refine za rfl (za rfl (zz (kh12 (Sr fun _ kh14 => zm rfl ?_))))
   refine WL.ev (Ev.convIn rfl rfl (in_u64 (by omega))) rfl ?_
   refine zm rfl ?_
   refine WL.ev (Ev.shlU64 rfl rfl) rfl ?_
   refine za rfl (zz (kh14 (Sr fun _ kh16 => zm rfl (zm rfl ?_))))
   refine WL.ev (Ev.ixB (i) rfl rfl (by omega) (by omega)) rfl ?_
   refine WL.ev (Ev.load rfl rfl (hb12.u32 (by first | omega | (simp; omega)))) rfl ?_
   have hw27 := hWL.getD (i)
   refine zm rfl ?_
   refine WL.ev (Ev.conv32 rfl rfl) rfl ?_
   refine WL.ev (Ev.orU rfl rfl rfl (by simp only [IntKind.bits]; omega) (by simp only [IntKind.bits]; omega)) rfl ?_
   refine WL.ev (Ev.ixB (i) rfl rfl (by omega) (by omega)) rfl ?_
   refine WL.storeU rfl rfl hb12 (by first | omega | (simp; omega)) fun ws8 hb12_ hcs8 => ?_
   have hch := hch.s1 hcs8
   have hb12 := hb12_
   refine zz (kh16 ?_)
   refine CW.region fun kR18 kr18 => ?_
   refine zm rfl (zm rfl ?_)
   first | refine WL.ev (Ev.addIn rfl rfl (by omega)) rfl ?_ | refine WL.ev (Ev.add rfl rfl) rfl ?_
   refine zm rfl ?_
   refine WL.ev (Ev.shrU (b := 32) rfl rfl (by simp only [IntKind.bits]; omega)) rfl ?_
   refine WL.ev (Ev.conv32 rfl rfl) rfl ?_
   refine WL.ev (Ev.ixB ((i + 1)) rfl rfl (by omega) (by omega)) rfl ?_
   refine WL.storeU rfl rfl hb12 (by first | omega | (simp; omega)) fun ws9 hb12_ hcs9 => ?_
   have hch := hch.s1 hcs9
   have hb12 := hb12_
   refine WL.nil (kr18 _ _ _ (kh11 ?_))
   refine CW.region fun kR19 kr19 => ?_
   first | refine WL.ev (Ev.addIn rfl rfl (by omega)) rfl ?_ | refine WL.ev (Ev.add rfl rfl) rfl ?_
   refine zm rfl ?_
   refine WL.nil (kr19 _ _ _ ?_)
   refine ⟨rfl, (i + 1, (L.set i (L.getD i 0 ||| (l.getD i 0 * 2 ^ s % 18446744073709551616 % 4294967296))).set (i + 1) (l.getD i 0 * 2 ^ s % 18446744073709551616 / 2 ^ 32 % 4294967296)), ?_, ?_, ?_⟩
   ·
    exact SLp
   ·
    exact ⟨hst.2, hb12, hch⟩
   ·
    show l.length - (i + 1) < l.length - i; omega
  ·
   try simp only [qs] at hc1
   refine CW.exit ?_
   refine kh5 (Sr fun _ kh20 => zm rfl (za rfl (zz (kh20 ?_))))
   refine CW.ret ?_
   refine bodyA.ret1 rfl rfl ?_
   have hiX2 : i = l.length := by omega
   subst hiX2
   exact ⟨L, NU.of_block hb12 hAd.w (by omega) (by omega) (Nat.le_refl _), hAd.len, hAd.done, hch⟩

set_option maxRecDepth 4000 in
theorem down_spec (v : Value) (l : List Nat) (s : Nat) (w : World) (h : NU w v l) (hs : s < 32) : Ret Tryz.prog 97 [v, .int .i64 (s : Int)] w fun u w' => ∃ L, NU w' u L ∧ val L = val l / 2 ^ s ∧ Chg [] w w' := by
 obtain ⟨⟨al, cl, rfl, hcapl, hrl⟩, hWl, hll⟩ := h
 have hch : Chg [] w w := Chg.refl _ _
 refine Ret.enter Tryz.func97 rfl rfl ?_
 simp only [args0, Nat.zero_add, Nat.reduceAdd]
 refine Sr fun _ kh1 => za rfl (zz (kh1 (Sr fun _ kh3 => zm rfl (zn rfl ?_))))
 refine WL.makeU ((l).length) ((l).length) rfl rfl (by omega) (by omega) (by omega) (by omega) (by omega) rfl fun b11 wm11 hb11 hcm11 hge11 => ?_
 have hgehch11 := Nat.le_trans hch.size hge11
 have hch := hch.trans (Chg.any hcm11)
 refine za rfl (zz (kh3 (zc fun _ kh5 => Sr fun _ kh6 => zm rfl (zn rfl (zm rfl (zz (kh6 ?_)))))))
 refine CW.block ?_
 refine CW.loop (S := fun g : Nat × List Nat => [(0, .slice al l.length cl), (1, .int .i64 (s : Int)), (5, .slice (some ⟨b11, 0, none⟩) l.length l.length), (12, .slice al l.length cl), (13, .int .i64 (l.length : Int)), (14, .int .i64 (g.1 : Int))]) (Inv := KD l s w b11) (mu := fun g => l.length - g.1) ((0, List.replicate l.length 0)) ?_ ?_ ?_
 ·
  exact ⟨DownI.zero l _ s (by simp) (W_replicate _), hb11, hch⟩
 ·
  exact SLp
 ·
  rintro ⟨i, L⟩ wr ⟨hAd, hb11, hch⟩
  dsimp only at hAd hb11 hch
  have hiX := hAd.le
  have hLl := hAd.len
  have hWL := hAd.w
  refine Sr fun _ kh8 => ?_
  refine WL.ev (Ev.lss rfl rfl) rfl ?_
  refine zz (kh8 (zc fun _ kh10 => ?_))
  refine CW.cond rfl (fun hc1 => ?_) (fun hc1 => ?_)
  ·
   try simp only [qs] at hc1
   refine CW.skip ?_
   refine kh10 (zc fun _ kh11 => ?_)
   refine CW.block ?_
   refine Sr fun _ kh12 => zm rfl ?_
   refine WL.ev (Ev.ixR (i) rfl rfl (hrl.keep0 hch) (by omega) (by omega) (by simp; omega)) rfl ?_
   refine WL.ev (Ev.load rfl rfl ((hrl.keep0 hch).u32 (by first | omega | (simp; omega)))) rfl ?_
   have hw18 := hWl.getD (i)
   refine za rfl (za rfl (zz (kh12 (Sr fun _ kh14 => zm rfl ?_))))
   refine WL.ev (Ev.convIn rfl rfl (in_u64 (by omega))) rfl ?_
   refine za rfl (zz (kh14 (zc fun _ kh16 => Sr fun _ kh17 => zm rfl ?_)))
   first | refine WL.ev (Ev.addIn rfl rfl (by omega)) rfl ?_ | refine WL.ev (Ev.add rfl rfl) rfl ?_
   refine zm rfl (zn rfl ?_)
   refine WL.ev (Ev.lss rfl rfl) rfl ?_
   refine zz (kh17 ?_)
   refine CW.cond rfl (fun hc2 => ?_) (fun hc2 => ?_)
   ·
    try simp only [qs] at hc2
    refine CW.region fun kR19 kr19 => ?_
    refine zm rfl (zm rfl (zm rfl ?_))
    first | refine WL.ev (Ev.addIn rfl rfl (by omega)) rfl ?_ | refine WL.ev (Ev.add rfl rfl) rfl ?_
    refine WL.ev (Ev.ixR ((i + 1)) rfl rfl (hrl.keep0 hch) (by omega) (by omega) (by simp; omega)) rfl ?_
    refine WL.ev (Ev.load rfl rfl ((hrl.keep0 hch).u32 (by first | omega | (simp; omega)))) rfl ?_
    have hw31 := hWl.getD ((i + 1))
    refine WL.ev (Ev.convIn rfl rfl (in_u64 (by omega))) rfl ?_
    refine WL.ev (Ev.shlU64 (b := 32) rfl rfl) rfl ?_
    refine WL.ev (Ev.orU rfl rfl rfl (by simp only [IntKind.bits]; omega) (by simp only [IntKind.bits]; omega)) rfl ?_
    rw [Nat.mod_eq_of_lt (show l.getD (i + 1) 0 * 2 ^ 32 < 18446744073709551616 by omega), or_of_mul (show l.getD i 0 < 2 ^ 32 by omega), show l.getD (i + 1) 0 * 2 ^ 32 = l.getD (i + 1) 0 * 4294967296 from rfl]
    refine za rfl ?_
    refine WL.nil (kr19 _ _ _ (kh16 ?_))
    refine CW.region fun kR20 kr20 => ?_
    refine zm rfl (zm rfl (zm rfl (zm rfl ?_)))
    have hdl : (l.getD i 0 + l.getD (i + 1) 0 * 4294967296) / 2 ^ s ≤ l.getD i 0 + l.getD (i + 1) 0 * 4294967296 := Nat.div_le_self _ _
    have hw1 := hWl.getD (i + 1)
    refine WL.ev (Ev.shrU rfl rfl (by simp only [IntKind.bits]; omega)) rfl ?_
    refine WL.ev (Ev.conv32 rfl rfl) rfl ?_
    refine WL.ev (Ev.ixB (i) rfl rfl (by omega) (by omega)) rfl ?_
    refine WL.storeU rfl rfl hb11 (by first | omega | (simp; omega)) fun ws10 hb11_ hcs10 => ?_
    have hch := hch.s1 hcs10
    have hb11 := hb11_
    refine WL.nil (kr20 _ _ _ (kh11 ?_))
    refine CW.region fun kR21 kr21 => ?_
    first | refine WL.ev (Ev.addIn rfl rfl (by omega)) rfl ?_ | refine WL.ev (Ev.add rfl rfl) rfl ?_
    refine zm rfl ?_
    refine WL.nil (kr21 _ _ _ ?_)
    refine ⟨rfl, (i + 1, L.set i ((l.getD i 0 + l.getD (i + 1) 0 * 4294967296) / 2 ^ s % 4294967296)), ?_, ?_, ?_⟩
    ·
     exact SLp
    ·
     exact ⟨hAd.step hs hWl (by omega) rfl, hb11, hch⟩
    ·
     show l.length - (i + 1) < l.length - i; omega
   ·
    try simp only [qs] at hc2
    have hz1 : l.getD (i + 1) 0 = 0 := getD_out (by omega)
    have e0 : (l.getD i 0) = l.getD i 0 + l.getD (i + 1) 0 * 4294967296 := by omega
    refine CW.skip ?_
    refine kh16 ?_
    refine CW.region fun kR22 kr22 => ?_
    refine zm rfl (zm rfl (zm rfl ?_))
    rw [show (Value.int IntKind.u64 ((l.getD i 0 : Nat) : Int)) = Value.int IntKind.u64 ((l.getD i 0 + l.getD (i + 1) 0 * 4294967296 : Nat) : Int) from congrArg (fun q : Nat => Value.int IntKind.u64 (q : Int)) e0]
    refine zm rfl ?_
    have hdl : (l.getD i 0 + l.getD (i + 1) 0 * 4294967296) / 2 ^ s ≤ l.getD i 0 + l.getD (i + 1) 0 * 4294967296 := Nat.div_le_self _ _
    have hw1 := hWl.getD (i + 1)
    refine WL.ev (Ev.shrU rfl rfl (by simp only [IntKind.bits]; omega)) rfl ?_
    refine WL.ev (Ev.conv32 rfl rfl) rfl ?_
    refine WL.ev (Ev.ixB (i) rfl rfl (by omega) (by omega)) rfl ?_
    refine WL.storeU rfl rfl hb11 (by first | omega | (simp; omega)) fun ws11 hb11_ hcs11 => ?_
    have hch := hch.s1 hcs11
    have hb11 := hb11_
    refine WL.nil (kr22 _ _ _ (kh11 ?_))
    refine CW.region fun kR23 kr23 => ?_
    first | refine WL.ev (Ev.addIn rfl rfl (by omega)) rfl ?_ | refine WL.ev (Ev.add rfl rfl) rfl ?_
    refine zm rfl ?_
    refine WL.nil (kr23 _ _ _ ?_)
    refine ⟨rfl, (i + 1, L.set i ((l.getD i 0 + l.getD (i + 1) 0 * 4294967296) / 2 ^ s % 4294967296)), ?_, ?_, ?_⟩
    ·
     exact SLp
    ·
     exact ⟨hAd.step hs hWl (by omega) rfl, hb11, hch⟩
    ·
     show l.length - (i + 1) < l.length - i; omega
  ·
   try simp only [qs] at hc1
   refine CW.exit ?_
   refine kh5 (Sr fun _ kh24 => zm rfl (za rfl (zz (kh24 ?_))))
   refine CW.ret ?_
   refine bodyA.ret1 rfl rfl ?_
   have hiX2 : i = l.length := by omega
   subst hiX2
   exact ⟨L, NU.of_block hb11 hAd.w (by omega) (by omega) (Nat.le_refl _), hAd.done hWl, hch⟩

structure KM (la lb : List Nat) (w : World) (b : Nat) (g : Nat × List Nat) (wr : World) : Prop where
  a : MulI la lb g.1 g.2
  ob : OB wr b 116 g.2
  chg : Chg [] w wr
structure KN (x : Nat) (lb : List Nat) (i : Nat) (L0 : List Nat) (w : World) (b : Nat) (g : Nat × List Nat × Nat) (wr : World) : Prop where
  a : MulJ x lb i L0 g.1 g.2.1 g.2.2
  ob : OB wr b 116 g.2.1
  chg : Chg [] w wr

set_option maxRecDepth 4000 in
theorem times_spec (va vb : Value) (la lb : List Nat) (w : World) (ha : NU w va la) (hb : NU w vb lb) (hlm : la.length + lb.length ≤ 70368744177664) : Ret Tryz.prog 133 [va, vb] w fun u w' => ∃ L, NU w' u L ∧ L.length = la.length + lb.length ∧ val L = val la * val lb ∧ Chg [] w w' := by
 obtain ⟨⟨ala, cla, rfl, hcapla, hrla⟩, hWla, hlla⟩ := ha
 obtain ⟨⟨alb, clb, rfl, hcaplb, hrlb⟩, hWlb, hllb⟩ := hb
 have hch : Chg [] w w := Chg.refl _ _
 refine Ret.enter Tryz.func133 rfl rfl ?_
 simp only [args0, Nat.zero_add, Nat.reduceAdd]
 refine Sr fun _ kh1 => za rfl (zz (kh1 (Sr fun _ kh3 => zm rfl (zn rfl (zm rfl (zn rfl ?_))))))
 first | refine WL.ev (Ev.addIn rfl rfl (by omega)) rfl ?_ | refine WL.ev (Ev.add rfl rfl) rfl ?_
 refine WL.makeU (((la).length + (lb).length)) (((la).length + (lb).length)) rfl rfl (by omega) (by omega) (by omega) (by omega) (by omega) rfl fun b17 wm17 hb17 hcm17 hge17 => ?_
 have hgehch17 := Nat.le_trans hch.size hge17
 have hch := hch.trans (Chg.any hcm17)
 refine za rfl (zz (kh3 (zc fun _ kh5 => Sr fun _ kh6 => zm rfl (zn rfl (zm rfl (zz (kh6 ?_)))))))
 refine CW.block ?_
 refine CW.loop (S := fun g : Nat × List Nat => [(1, .slice alb lb.length clb), (5, .slice (some ⟨b17, 0, none⟩) (la.length + lb.length) (la.length + lb.length)), (18, .slice ala la.length cla), (19, .int .i64 (la.length : Int)), (20, .int .i64 (g.1 : Int))]) (Inv := KM la lb w b17) (mu := fun g => la.length - g.1) ((0, List.replicate (la.length + lb.length) 0)) ?_ ?_ ?_
 ·
  exact ⟨MulI.zero la lb, hb17, hch⟩
 ·
  exact SLp
 ·
  rintro ⟨i, L0⟩ wr ⟨hAd, hb17, hch⟩
  dsimp only at hAd hb17 hch
  have hiX := hAd.le
  have hLl := hAd.len
  refine Sr fun _ kh8 => ?_
  refine WL.ev (Ev.lss rfl rfl) rfl ?_
  refine zz (kh8 (zc fun _ kh10 => ?_))
  refine CW.cond rfl (fun hc1 => ?_) (fun hc1 => ?_)
  ·
   try simp only [qs] at hc1
   refine CW.skip ?_
   refine kh10 (zc fun _ kh11 => ?_)
   refine CW.block ?_
   refine Sr fun _ kh12 => zm rfl ?_
   refine WL.ev (Ev.ixR (i) rfl rfl (hrla.keep0 hch) (by omega) (by omega) (by simp; omega)) rfl ?_
   refine WL.ev (Ev.load rfl rfl ((hrla.keep0 hch).u32 (by first | omega | (simp; omega)))) rfl ?_
   have hw24 := hWla.getD (i)
   refine za rfl (za rfl (zz (kh12 (Sr fun _ kh14 => za rfl (zz (kh14 (zc fun _ kh16 => Sr fun _ kh17 => zm rfl (zn rfl (zm rfl (zz (kh17 ?_)))))))))))
   refine CW.block ?_
   refine CW.loop (S := fun g : Nat × List Nat × Nat => [(1, .slice alb lb.length clb), (5, .slice (some ⟨b17, 0, none⟩) (la.length + lb.length) (la.length + lb.length)), (6, .int .i64 (i : Int)), (7, .int .u32 ((la.getD i 0 : Nat) : Int)), (8, .int .u64 (g.2.2 : Int)), (18, .slice ala la.length cla), (19, .int .i64 (la.length : Int)), (20, .int .i64 (i : Int)), (25, .slice alb lb.length clb), (26, .int .i64 (lb.length : Int)), (27, .int .i64 (g.1 : Int))]) (Inv := KN (la.getD i 0) lb i L0 w b17) (mu := fun g => lb.length - g.1) ((0, L0, 0)) ?_ ?_ ?_
   ·
    exact ⟨MulJ.zero hAd.w, hb17, hch⟩
   ·
    exact SLp
   ·
    rintro ⟨j, L, c⟩ wr2 ⟨hJ, hb17, hch⟩
    dsimp only at hJ hb17 hch
    have hjX := hJ.le
    have hLl2 := hJ.len
    have hWL := hJ.w
    have hcc := hJ.c1
    refine Sr fun _ kh19 => ?_
    refine WL.ev (Ev.lss rfl rfl) rfl ?_
    refine zz (kh19 (zc fun _ kh21 => ?_))
    refine CW.cond rfl (fun hc2 => ?_) (fun hc2 => ?_)
    ·
     try simp only [qs] at hc2
     have hfit := MulJ.fits (hWla.getD i) (hWlb.getD j) (hWL.getD (i + j)) hcc
     have hxa := hWla.getD i
     refine CW.skip ?_
     refine kh21 (zc fun _ kh22 => ?_)
     refine CW.block ?_
     refine Sr fun _ kh23 => zm rfl ?_
     refine WL.ev (Ev.ixR (j) rfl rfl (hrlb.keep0 hch) (by omega) (by omega) (by simp; omega)) rfl ?_
     refine WL.ev (Ev.load rfl rfl ((hrlb.keep0 hch).u32 (by first | omega | (simp; omega)))) rfl ?_
     have hw31 := hWlb.getD (j)
     refine za rfl (za rfl (zz (kh23 (Sr fun _ kh25 => zm rfl ?_))))
     refine WL.ev (Ev.convIn rfl rfl (in_u64 (by omega))) rfl ?_
     refine zm rfl ?_
     refine WL.ev (Ev.convIn rfl rfl (in_u64 (by omega))) rfl ?_
     refine WL.ev (Ev.mul64In rfl rfl hfit.2.1) rfl ?_
     refine zm rfl (zm rfl (zm rfl ?_))
     first | refine WL.ev (Ev.addIn rfl rfl (by omega)) rfl ?_ | refine WL.ev (Ev.add rfl rfl) rfl ?_
     refine WL.ev (Ev.ixB ((i + j)) rfl rfl (by omega) (by omega)) rfl ?_
     refine WL.ev (Ev.load rfl rfl (hb17.u32 (by first | omega | (simp; omega)))) rfl ?_
     have hw42 := hWL.getD ((i + j))
     refine WL.ev (Ev.convIn rfl rfl (in_u64 (by omega))) rfl ?_
     refine WL.ev (Ev.add64In rfl rfl hfit.2.2) rfl ?_
     refine zm rfl ?_
     refine WL.ev (Ev.add64In rfl rfl hfit.1) rfl ?_
     refine za rfl (zz (kh25 ?_))
     refine CW.region fun kR27 kr27 => ?_
     refine zm rfl (zm rfl (zm rfl ?_))
     first | refine WL.ev (Ev.addIn rfl rfl (by omega)) rfl ?_ | refine WL.ev (Ev.add rfl rfl) rfl ?_
     refine zm rfl ?_
     refine WL.ev (Ev.conv32 rfl rfl) rfl ?_
     refine zm rfl ?_
     refine WL.ev (Ev.shrU (b := 32) rfl rfl (by simp only [IntKind.bits]; exact hfit.1)) rfl ?_
     refine WL.ev (Ev.ixB ((i + j)) rfl rfl (by omega) (by omega)) rfl ?_
     refine WL.storeU rfl rfl hb17 (by first | omega | (simp; omega)) fun ws12 hb17_ hcs12 => ?_
     have hch := hch.s1 hcs12
     have hb17 := hb17_
     refine za rfl ?_
     refine WL.nil (kr27 _ _ _ (kh22 ?_))
     refine CW.region fun kR28 kr28 => ?_
     first | refine WL.ev (Ev.addIn rfl rfl (by omega)) rfl ?_ | refine WL.ev (Ev.add rfl rfl) rfl ?_
     refine zm rfl ?_
     refine WL.nil (kr28 _ _ _ ?_)
     refine ⟨rfl, (j + 1, L.set (i + j) ((la.getD i 0 * lb.getD j 0 + L.getD (i + j) 0 + c) % 4294967296), (la.getD i 0 * lb.getD j 0 + L.getD (i + j) 0 + c) / 4294967296), ?_, ?_, ?_⟩
     ·
      exact SLp
     ·
      exact ⟨hJ.step (hWla.getD i) hWlb (by omega) (by omega), hb17, hch⟩
     ·
      show lb.length - (j + 1) < lb.length - j; omega
    ·
     try simp only [qs] at hc2
     have hjX2 : j = lb.length := by omega
     subst hjX2
     refine CW.exit ?_
     refine kh16 ?_
     refine CW.region fun kR29 kr29 => ?_
     refine zm rfl (zm rfl (zm rfl (zn rfl ?_)))
     first | refine WL.ev (Ev.addIn rfl rfl (by omega)) rfl ?_ | refine WL.ev (Ev.add rfl rfl) rfl ?_
     refine zm rfl ?_
     refine WL.ev (Ev.conv32 rfl rfl) rfl ?_
     rw [Nat.mod_eq_of_lt hcc]
     refine WL.ev (Ev.ixB ((i + (lb).length)) rfl rfl (by omega) (by omega)) rfl ?_
     refine WL.storeU rfl rfl hb17 (by first | omega | (simp; omega)) fun ws13 hb17_ hcs13 => ?_
     have hch := hch.s1 hcs13
     have hb17 := hb17_
     refine WL.nil (kr29 _ _ _ (kh11 ?_))
     refine CW.region fun kR30 kr30 => ?_
     first | refine WL.ev (Ev.addIn rfl rfl (by omega)) rfl ?_ | refine WL.ev (Ev.add rfl rfl) rfl ?_
     refine zm rfl ?_
     refine WL.nil (kr30 _ _ _ ?_)
     refine ⟨rfl, (i + 1, L.set (i + lb.length) c), ?_, ?_, ?_⟩
     ·
      exact SLp
     ·
      exact ⟨hAd.step (by omega) hJ, hb17, hch⟩
     ·
      show la.length - (i + 1) < la.length - i; omega
  ·
   try simp only [qs] at hc1
   refine CW.exit ?_
   refine kh5 (Sr fun _ kh31 => zm rfl (za rfl (zz (kh31 ?_))))
   refine CW.ret ?_
   refine bodyA.ret1 rfl rfl ?_
   have hiX2 : i = la.length := by omega
   subst hiX2
   exact ⟨L0, NU.of_block hb17 hAd.w (by omega) (by omega) (Nat.le_refl _), by omega, hAd.done, hch⟩

end Go.Proofs.YtphnpchmdpjabaaGreatDoor

/- Package wide: Mul, Shift; math/bits: Mul64. No condition. -/
namespace Go.Proofs.YtphnpchmdpjabaaGreatDoor
open Go Sx Wd

set_option maxRecDepth 4000 in
theorem Mul_spec (va vb : Value) (la lb : List Nat) (w : World) (ha : NU w va la) (hb : NU w vb lb) : Ret Tryz.prog 104 [va, vb] w fun u w' => (((wd (val la)).length ≤ 8192 ∧ (wd (val lb)).length ≤ 8192 ∧ (wd (val la * val lb)).length ≤ 8192 ∧ ∃ r, u = .tuple [r, .int .i64 0].toArray ∧ NU w' r (wd (val la * val lb))) ∨ (¬ ((wd (val la)).length ≤ 8192 ∧ (wd (val lb)).length ≤ 8192 ∧ (wd (val la * val lb)).length ≤ 8192) ∧ u = .tuple [.slice none 0 0, .int .i64 2].toArray)) ∧ Chg [] w w' := by
 have hch : Chg [] w w := Chg.refl _ _
 refine Ret.enter Tryz.func104 rfl rfl ?_
 simp only [args0, Nat.zero_add, Nat.reduceAdd]
 refine Sr fun _ kh1 => za rfl (za rfl (zz (kh1 (Sr fun _ kh3 => zm rfl (zm rfl ?_)))))
 refine WL.call hasF101 rfl rfl (both_spec _ _ _ _ _ ha hb) fun v w10 h' => ?_
 obtain ⟨h', rfl⟩ := h'
 rcases h' with ⟨hfit, x, y, rfl, hNx, hNy⟩ | ⟨hno, rfl⟩
 ·
  refine zm rfl (zx rfl rfl (zx rfl rfl (zx rfl rfl (za rfl (za rfl (za rfl (zz (kh3 (zc fun _ kh5 => Sr fun _ kh6 => zm rfl ?_)))))))))
  refine WL.ev (Ev.neq rfl rfl) rfl ?_
  refine zz (kh6 ?_)
  refine CW.condF rfl ?_
  refine CW.skip ?_
  refine kh5 (Sr fun _ kh8 => zm rfl (zm rfl ?_))
  refine WL.call hasF133 rfl rfl (times_spec _ _ _ _ _ hNx hNy (by omega)) fun v w1 h' => ?_
  obtain ⟨L, hNL, _, hvL, hC19⟩ := h'
  have hch := hch.trans hC19
  rw [val_wd, val_wd] at hvL
  refine WL.call hasF98 rfl rfl (fits_spec _ _ _ hNL) fun v w20 h' => ?_
  obtain ⟨h', rfl⟩ := h'
  rw [hvL] at h'
  rcases h' with ⟨hfs, r, rfl, hNr⟩ | ⟨hfs, rfl⟩
  ·
   refine zx rfl rfl (zx rfl rfl (za rfl (za rfl (zz (kh8 ?_)))))
   refine CW.ret ?_
   refine bodyA.ret2 rfl rfl rfl ?_
   exact ⟨.inl ⟨hfit.1, hfit.2, hfs, r, rfl, hNr⟩, hch⟩
  ·
   refine zx rfl rfl (zx rfl rfl (za rfl (za rfl (zz (kh8 ?_)))))
   refine CW.ret ?_
   refine bodyA.ret2 rfl rfl rfl ?_
   exact ⟨.inr ⟨by omega, rfl⟩, hch⟩
 ·
  refine zm rfl (zx rfl rfl (zx rfl rfl (zx rfl rfl (za rfl (za rfl (za rfl (zz (kh3 (zc fun _ kh10 => Sr fun _ kh11 => zm rfl ?_)))))))))
  refine WL.ev (Ev.neq rfl rfl) rfl ?_
  refine zz (kh11 ?_)
  refine CW.condT rfl ?_
  refine Sr fun _ kh13 => zm rfl (za rfl (za rfl (zz (kh13 ?_))))
  refine CW.ret ?_
  refine bodyA.ret2 rfl rfl rfl ?_
  exact ⟨.inr ⟨by omega, rfl⟩, Chg.refl _ _⟩

/-- A number moved, up or down. -/
def shiftN (n : Nat) (s : Int) : Nat := if s < 0 then n / 2 ^ (-s).toNat else n * 2 ^ s.toNat
theorem shiftN_neg (n q : Nat) (h : 0 < q) : shiftN n (-(q : Int)) = n / 2 ^ q := by
  unfold shiftN; rw [if_pos (by omega), show (- -(q : Int)).toNat = q by omega]
theorem shiftN_pos (n q : Nat) : shiftN n (q : Int) = n * 2 ^ q := by
  unfold shiftN; rw [if_neg (by omega), show (q : Int).toNat = q by omega]
theorem shiftN_out {n : Nat} {s : Int} (h : n = 0 ∨ s ≤ -(bl n : Int)) : shiftN n s = 0 := by
  rcases h with rfl | h
  · unfold shiftN; split <;> simp
  · by_cases h0 : n = 0
    · subst h0; unfold shiftN; split <;> simp
    · have := bl_pos h0
      obtain ⟨q, rfl⟩ : ∃ q : Nat, s = -(q : Int) := ⟨(-s).toNat, by omega⟩
      rw [shiftN_neg _ _ (by omega)]
      exact Nat.div_eq_of_lt (bl_le.1 (by omega))
theorem div_words {n q : Nat} : n / 2 ^ (32 * (q / 32)) / 2 ^ (q % 32) = n / 2 ^ q := by
  rw [Nat.div_div_eq_div_mul, ← Nat.pow_add, show 32 * (q / 32) + q % 32 = q by omega]
theorem bl_words {n k : Nat} : bl n ≤ 32 * k ↔ (wd n).length ≤ k := by rw [bl_le, wd_length_le]

set_option maxRecDepth 4000 in
theorem Shift_spec (v : Value) (l : List Nat) (s : Int) (w : World) (h : NU w v l) (hs : -9223372036854775808 ≤ s ∧ s ≤ 9223372036854775807) : Ret Tryz.prog 48 [v, .int .i64 s] w fun u w' => ((((wd (val l)).length ≤ 8192 ∧ (val l = 0 ∨ s ≤ 262144 - (bl (val l) : Int))) ∧ ∃ r, u = .tuple [r, .int .i64 0].toArray ∧ NU w' r (wd (shiftN (val l) s))) ∨ (¬ (((wd (val l)).length ≤ 8192 ∧ (val l = 0 ∨ s ≤ 262144 - (bl (val l) : Int)))) ∧ u = .tuple [.slice none 0 0, .int .i64 2].toArray)) ∧ Chg [] w w' := by
 obtain ⟨A, hA⟩ : ∃ A, A = wd (val l) := ⟨_, rfl⟩
 have hvA : val A = val l := by rw [hA]; exact val_wd _
 have hb32 := bl_words (n := val l) (k := 8192)
 have hbz := bl_eq_zero (n := val l)
 rw [← hA] at hb32
 have hbA : bl (val l) ≤ 32 * A.length := by rw [bl_words, ← hA]; exact Nat.le_refl _
 have hch : Chg [] w w := Chg.refl _ _
 refine Ret.enter Tryz.func48 rfl rfl ?_
 simp only [args0, Nat.zero_add, Nat.reduceAdd]
 refine Sr fun _ kh1 => za rfl (za rfl (zz (kh1 (Sr fun _ kh3 => zm rfl ?_))))
 refine WL.call hasF95 rfl rfl (cut_spec _ _ _ h) fun v w1 h' => ?_
 obtain ⟨hN1, rfl⟩ := h'
 rw [← hA] at hN1
 obtain ⟨⟨a1, c1, rfl, hcap1, hr1⟩, hW1, hl1⟩ := hN1
 refine za rfl (zz (kh3 (zc fun _ kh5 => ?_)))
 refine CW.block ?_
 refine Sr fun _ kh6 => zm rfl (zn rfl ?_)
 refine WL.ev (Ev.gtr rfl rfl) rfl ?_
 refine za rfl (zz (kh6 ?_))
 refine CW.cond rfl (fun hc1 => ?_) (fun hc1 => ?_)
 ·
  try simp only [qs] at hc1
  refine Sr fun _ kh8 => za rfl (za rfl (zz (kh8 ?_)))
  refine CW.ret ?_
  refine bodyA.ret2 rfl rfl rfl ?_
  rw [← hA]
  exact ⟨.inr ⟨by omega, rfl⟩, hch⟩
 ·
  try simp only [qs] at hc1
  have hN1 : NU w (.slice a1 A.length c1) A := NU.of_row hr1 hW1 hl1 rfl hcap1
  have hAz : A.length = 0 ↔ val l = 0 := by rw [← hvA]; rw [hA]; rw [val_wd]; rw [List.length_eq_zero_iff, wd_eq_nil]
  refine Sr fun _ kh10 => zm rfl (zn rfl (zq rfl rfl (zm rfl ?_)))
  refine WL.boolCase (fun hg2 => ?_) (fun hg2 => ?_)
  ·
   try simp only [qs] at hg2
   refine zv rfl (zv rfl (zv rfl (zv rfl (zv rfl (zt rfl rfl (za rfl (zz (kh10 ?_))))))))
   refine CW.condT rfl ?_
   refine Sr fun _ kh12 => za rfl (za rfl (zz (kh12 ?_)))
   refine CW.ret ?_
   refine bodyA.ret2 rfl rfl rfl ?_
   have h0 : val l = 0 := by omega
   rw [shiftN_out (.inl h0), wd_zero, ← hA]
   exact ⟨.inl ⟨⟨by omega, .inl h0⟩, _, rfl, NU.nil⟩, hch⟩
  ·
   try simp only [qs] at hg2
   refine zw rfl (zm rfl (zw rfl (zm rfl (zw rfl ?_))))
   refine WL.call hasF96 rfl rfl (Len_spec _ _ _ hN1) fun v w2 h' => ?_
   obtain ⟨rfl, rfl⟩ := h'
   rw [hvA]
   refine zw rfl ?_
   refine WL.ev (Ev.negIn rfl (by omega)) rfl ?_
   refine zw rfl ?_
   refine WL.ev (Ev.leq rfl rfl) rfl ?_
   refine ze rfl rfl (za rfl (zz (kh10 ?_)))
   refine CW.cond rfl (fun hc3 => ?_) (fun hc3 => ?_)
   ·
    try simp only [qs] at hc3
    refine Sr fun _ kh14 => za rfl (za rfl (zz (kh14 ?_)))
    refine CW.ret ?_
    refine bodyA.ret2 rfl rfl rfl ?_
    rw [shiftN_out (.inr (by omega)), wd_zero, ← hA]
    exact ⟨.inl ⟨⟨by omega, .inr (by omega)⟩, _, rfl, NU.nil⟩, hch⟩
   ·
    try simp only [qs] at hc3
    refine Sr fun _ kh16 => zm rfl ?_
    refine WL.ev (Ev.lss rfl rfl) rfl ?_
    refine za rfl (zz (kh16 ?_))
    refine CW.cond rfl (fun hc4 => ?_) (fun hc4 => ?_)
    ·
     try simp only [qs] at hc4
     obtain ⟨q, rfl⟩ : ∃ q : Nat, s = -(q : Int) := ⟨(-s).toNat, by omega⟩
     have hN1d : NU w (.slice (cutAt a1 (q / 32) c1 1) (A.length - q / 32) (c1 - q / 32)) (A.drop (q / 32)) := NU.of_row (by rw [List.map_drop]; exact hr1.cut _ _ (by simp; omega) (by simpa using hcap1)) (hW1.drop _) (by simp; omega) (by simp) (by omega)
     refine Sr fun _ kh18 => zm rfl (zm rfl ?_)
     refine WL.ev (Ev.negIn rfl (by omega)) rfl ?_
     rw [Int.neg_neg]
     refine WL.ev (Ev.quoU (b := 32) rfl rfl (by omega) (in_i64 (by omega)).2) rfl ?_
     refine WL.ev (Ev.sliceLn ((q / 32)) rfl rfl (by omega) (by omega)) rfl ?_
     refine zm rfl ?_
     refine WL.ev (Ev.negIn rfl (by omega)) rfl ?_
     rw [Int.neg_neg]
     refine WL.ev (Ev.remU (b := 32) rfl rfl (by omega)) rfl ?_
     refine WL.call hasF97 rfl rfl (down_spec _ _ _ _ hN1d (by omega)) fun v w3 h' => ?_
     obtain ⟨L, hNL, hvL, hC35⟩ := h'
     have hch := hch.trans hC35
     rw [val_drop hW1 _ (by omega), hvA, div_words] at hvL
     refine WL.call hasF92 rfl rfl (Norm_spec _ _ _ hNL) fun v w4 h' => ?_
     obtain ⟨hNR, hC36⟩ := h'
     have hch := hch.trans hC36
     rw [hvL] at hNR
     refine za rfl (za rfl (zz (kh18 ?_)))
     refine CW.ret ?_
     refine bodyA.ret2 rfl rfl rfl ?_
     rw [shiftN_neg _ _ (by omega), ← hA]
     exact ⟨.inl ⟨⟨by omega, .inr (by omega)⟩, _, rfl, hNR⟩, hch⟩
    ·
     try simp only [qs] at hc4
     obtain ⟨q, rfl⟩ : ∃ q : Nat, s = (q : Int) := ⟨s.toNat, by omega⟩
     refine Sr fun _ kh20 => zm rfl (zm rfl ?_)
     refine WL.call hasF96 rfl rfl (Len_spec _ _ _ hN1) fun v w5 h' => ?_
     obtain ⟨rfl, rfl⟩ := h'
     rw [hvA]
     first | refine WL.ev (Ev.subIn rfl rfl (by omega)) rfl ?_ | refine WL.ev (Ev.sub rfl rfl) rfl ?_
     refine WL.ev (Ev.gtr rfl rfl) rfl ?_
     refine za rfl (zz (kh20 ?_))
     refine CW.cond rfl (fun hc5 => ?_) (fun hc5 => ?_)
     ·
      try simp only [qs] at hc5
      refine Sr fun _ kh22 => za rfl (za rfl (zz (kh22 ?_)))
      refine CW.ret ?_
      refine bodyA.ret2 rfl rfl rfl ?_
      rw [← hA]
      exact ⟨.inr ⟨by omega, rfl⟩, hch⟩
     ·
      try simp only [qs] at hc5
      refine CW.skip ?_
      refine kh5 (Sr fun _ kh24 => zm rfl ?_)
      refine WL.ev (Ev.quoU (b := 32) rfl rfl (by omega) (in_i64 (by omega)).2) rfl ?_
      refine zm rfl ?_
      refine WL.ev (Ev.quoU (b := 32) rfl rfl (by omega) (in_i64 (by omega)).2) rfl ?_
      refine zm rfl (zn rfl ?_)
      first | refine WL.ev (Ev.addIn rfl rfl (by omega)) rfl ?_ | refine WL.ev (Ev.add rfl rfl) rfl ?_
      first | refine WL.ev (Ev.addIn rfl rfl (by omega)) rfl ?_ | refine WL.ev (Ev.add rfl rfl) rfl ?_
      refine WL.makeU ((q / 32)) ((((q / 32) + (A).length) + 1)) rfl rfl (by omega) (by omega) (by omega) (by omega) (by omega) rfl fun b51 wm51 hb51 hcm51 hge51 => ?_
      have hgehch51 := Nat.le_trans hch.size hge51
      have hch := hch.trans (Chg.any hcm51)
      refine za rfl (zz (kh24 (Sr fun _ kh26 => zm rfl (zm rfl (zm rfl ?_)))))
      refine WL.ev (Ev.remU (b := 32) rfl rfl (by omega)) rfl ?_
      refine WL.call hasF99 rfl rfl (up_spec _ _ _ _ (hN1.keep0 hch) (by omega) (by omega)) fun v w6 h' => ?_
      obtain ⟨L, hNL, hlL, hvL, hC56⟩ := h'
      have hch := hch.trans hC56
      have hb51 := hb51.keep0 hC56
      obtain ⟨⟨a2, c2, rfl, hcap2, hr2⟩, hW2, hl2⟩ := hNL
      rw [hvA] at hvL
      obtain ⟨ad2, rfl⟩ := hr2.some_ (by simp; omega)
      have hown := own_of_OB (k := q / 32) hb51 (by simp; omega) (by simp; omega)
      rw [List.length_replicate] at hown
      refine WL.append (m := q / 32) (mm := L.length) (news := L.map u32v) (by rfl) (by decide) rfl rfl hown (by simp) (fun j u hu => by obtain ⟨ad3, e3, h3⟩ := hr2 j u hu; cases e3; exact h3) (u32_one _) (by unfold maxLen; omega) (by omega) rfl fun v57 w57 hown2 hcs57 hloc57 => ?_
      have hfr57 : ∀ y ∈ (Value.slice (some ⟨b51, 0, none⟩) (q / 32) (q / 32 + A.length + 1)).ownBlock.toList, w.heap.size ≤ y := fun y hy => by
       have hy2 : y = b51 := by simpa [Value.ownBlock] using hy
       subst hy2; assumption
      have hch := hch.step hcs57 (fun y hy => .inr (hfr57 y hy))
      rw [← List.map_append] at hown2
      have hN57 := NU.of_own hown2 (W_append.2 ⟨(W_replicate _).take _, hW2⟩) (by simp; omega)
      have hv57 : val ((List.replicate (q / 32 + A.length + 1) 0).take (q / 32) ++ L) = val l * 2 ^ q := by
       rw [List.take_replicate, show min (q / 32) (q / 32 + A.length + 1) = q / 32 by omega, val_append, val_replicate, List.length_replicate, hvL, Nat.zero_add, Nat.mul_left_comm, ← Nat.pow_add, show 32 * (q / 32) + q % 32 = q by omega]
      refine WL.call hasF98 rfl rfl (fits_spec _ _ _ hN57) fun v w7 h' => ?_
      obtain ⟨h', rfl⟩ := h'
      rw [hv57] at h'
      obtain ⟨hfs, r, rfl, hNr⟩ := h'.resolve_right (fun q1 => by
       have q2 := q1.1
       have q3 : (wd (val l * 2 ^ q)).length ≤ 8192 := by
        refine bl_words.1 ?_
        by_cases h0 : val l = 0
        · rw [h0]; simp [bl_zero]
        · rw [bl_mul_pow h0]; omega
       omega)
      refine zx rfl rfl (zx rfl rfl (za rfl (za rfl (zz (kh26 ?_)))))
      refine CW.ret ?_
      refine bodyA.ret2 rfl rfl rfl ?_
      rw [shiftN_pos, ← hA]
      exact ⟨.inl ⟨⟨by omega, .inr (by omega)⟩, r, rfl, hNr⟩, hch⟩

end Go.Proofs.YtphnpchmdpjabaaGreatDoor

/- Dyads as plain numbers: their form, sums, products. No condition. -/
namespace Go.Proofs.YtphnpchmdpjabaaGreatDoor.Wd

theorem eq_of_val {a b : List Nat} (ha : W a) (hb : W b) (hl : a.length = b.length) (hv : val a = val b) : a = b := by
  induction a generalizing b with
  | nil => cases b with
    | nil => rfl
    | cons y b => simp at hl
  | cons x a ih =>
    cases b with
    | nil => simp at hl
    | cons y b =>
      obtain ⟨h1, h2⟩ := W_cons.1 ha
      obtain ⟨h3, h4⟩ := W_cons.1 hb
      simp only [val] at hv
      have e1 : x = y := by omega
      have e2 := ih h2 h4 (by simpa using hl) (by omega)
      rw [e1, e2]
/-- A word moved down, with the next one's low bits over it. -/
theorem low_or {x y s : Nat} (hx : x < 4294967296) (hs : s < 32) : x / 2 ^ s ||| (y * 2 ^ (32 - s) % 4294967296) = (x + y * 4294967296) / 2 ^ s % 4294967296 := by
  have hp := Nat.two_pow_pos s
  have e32 : (4294967296 : Nat) = 2 ^ s * 2 ^ (32 - s) := by rw [← Nat.pow_add, show s + (32 - s) = 32 by omega]
  have e1 : y * 2 ^ (32 - s) % 4294967296 = (y % 2 ^ s) * 2 ^ (32 - s) := by rw [e32, Nat.mul_mod_mul_right]
  have hq : x / 2 ^ s < 2 ^ (32 - s) := by
    rw [Nat.div_lt_iff_lt_mul hp, Nat.mul_comm, ← e32]; exact hx
  have e2 : (x + y * 4294967296) / 2 ^ s = x / 2 ^ s + y * 2 ^ (32 - s) := by
    rw [e32, show y * (2 ^ s * 2 ^ (32 - s)) = 2 ^ s * (y * 2 ^ (32 - s)) by rw [Nat.mul_left_comm], Nat.add_mul_div_left _ _ hp]
  rw [e1, or_of_mul hq, e2]
  have hm : y % 2 ^ s + 1 ≤ 2 ^ s := Nat.mod_lt _ hp
  have hm2 := Nat.mul_le_mul_right (2 ^ (32 - s)) hm
  rw [← e32, Nat.add_mul, Nat.one_mul] at hm2
  have e3 : x / 2 ^ s + y * 2 ^ (32 - s) = (x / 2 ^ s + y % 2 ^ s * 2 ^ (32 - s)) + 4294967296 * (y / 2 ^ s) := by
    have := Nat.mod_add_div y (2 ^ s)
    have e4 : y * 2 ^ (32 - s) = y % 2 ^ s * 2 ^ (32 - s) + 4294967296 * (y / 2 ^ s) := by
      conv => lhs; rw [← this]
      rw [Nat.add_mul, e32]
      simp only [Nat.mul_comm, Nat.mul_left_comm, Nat.mul_assoc]
    omega
  have e5 : (x / 2 ^ s + y * 2 ^ (32 - s)) % 4294967296 = x / 2 ^ s + y % 2 ^ s * 2 ^ (32 - s) := by
    rw [e3, Nat.add_mul_mod_self_left]
    exact Nat.mod_eq_of_lt (by omega)
  exact e5.symm
/-- What is left of words moved down has one word less, or none. -/
theorem lower_words {l L : List Nat} {s : Nat} (hl : W l) (hL : W L) (hlen : L.length = l.length) (hp : 0 < l.length) (hlast : l.getD (l.length - 1) 0 ≠ 0) (hs : s < 32) (hv : val L = val l / 2 ^ s) :
    (L.getD (l.length - 1) 0 ≠ 0 → L = wd (val l / 2 ^ s)) ∧ (L.getD (l.length - 1) 0 = 0 → L.take (l.length - 1) = wd (val l / 2 ^ s)) := by
  refine ⟨fun h => ?_, fun h => ?_⟩
  · rw [← hv]; exact (wd_of_last hL (.inr (by rw [hlen]; exact h))).symm
  · have h1 : val L = val (L.take (l.length - 1)) := by
      have := val_take_succ' L (l.length - 1)
      rw [h, show l.length - 1 + 1 = L.length by omega, List.take_length] at this
      simpa using this
    have h2 : 2 ^ (32 * (l.length - 1)) ≤ val l := by
      have := bl_val hl (List.length_pos_iff.1 hp) hlast
      have hb := bl_pos hlast
      exact lt_bl.1 (by omega)
    refine eq_of_val (hL.take _) (W_wd _) ?_ (by rw [val_wd, ← hv, h1])
    rw [List.length_take, Nat.min_eq_left (by omega)]
    refine Nat.le_antisymm ?_ (wd_length_le.2 ?_)
    · by_cases hk : l.length - 1 = 0
      · omega
      · have h3 : 2 ^ (32 * (l.length - 1 - 1)) ≤ val l / 2 ^ s := by
          rw [Nat.le_div_iff_mul_le (Nat.two_pow_pos s), ← Nat.pow_add]
          exact Nat.le_trans (Nat.pow_le_pow_right (by decide) (by omega)) h2
        have h4 : ¬ (wd (val l / 2 ^ s)).length ≤ l.length - 1 - 1 := by rw [wd_length_le]; omega
        omega
    · rw [← hv, h1]
      have := val_lt (hL.take (l.length - 1))
      rwa [List.length_take, Nat.min_eq_left (by omega)] at this
/-- Mag times two to the power of e, below nought if neg. -/
structure Dy where
  neg : Bool
  m : Nat
  e : Int
def Dy.zero : Dy := ⟨false, 0, 0⟩
/-- The form of a value; none: it may not be. -/
def formD (neg : Bool) (n : Nat) (e : Int) : Option Dy :=
  if n = 0 then some Dy.zero else if 1048576 - (tz n : Int) < e ∨ e < -1048576 - (tz n : Int) ∨ 8192 < (wd (n / 2 ^ tz n)).length then none else some ⟨neg, n / 2 ^ tz n, e + tz n⟩
theorem formD_zero (neg : Bool) (e : Int) : formD neg 0 e = some Dy.zero := by simp [formD]
theorem formD_none {neg : Bool} {n : Nat} {e : Int} (h0 : n ≠ 0) (h : 1048576 - (tz n : Int) < e ∨ e < -1048576 - (tz n : Int) ∨ 8192 < (wd (n / 2 ^ tz n)).length) : formD neg n e = none := by
  unfold formD; rw [if_neg h0, if_pos h]
theorem formD_some {neg : Bool} {n : Nat} {e : Int} (h0 : n ≠ 0) (h : ¬ (1048576 - (tz n : Int) < e ∨ e < -1048576 - (tz n : Int) ∨ 8192 < (wd (n / 2 ^ tz n)).length)) : formD neg n e = some ⟨neg, n / 2 ^ tz n, e + tz n⟩ := by
  unfold formD; rw [if_neg h0, if_neg h]
/-- A dyad in its form. -/
structure Dy.ok (d : Dy) : Prop where
  z : d.m = 0 → d = Dy.zero
  odd : d.m ≠ 0 → d.m % 2 = 1
  len : (wd d.m).length ≤ 8192
  e : -1048576 ≤ d.e ∧ d.e ≤ 1048576
theorem formD_ok {neg : Bool} {n : Nat} {e : Int} {d : Dy} (h : formD neg n e = some d) : d.ok := by
  unfold formD at h
  split at h
  · cases h; exact ⟨fun _ => rfl, fun h => absurd rfl h, by simp [Dy.zero, wd_zero], by simp [Dy.zero]⟩
  · split at h
    · cases h
    · rename_i h0 h1
      cases h
      obtain ⟨a, b⟩ := tz_spec h0
      refine ⟨fun hz => ?_, fun _ => a, by simpa using (by omega : (wd (n / 2 ^ tz n)).length ≤ 8192), by simp; omega⟩
      simp only at hz
      rw [hz] at a; simp at a
theorem formD_self {d : Dy} (h : d.ok) : formD d.neg d.m d.e = some d := by
  by_cases h0 : d.m = 0
  · rw [h.z h0]; rfl
  · have ho := h.odd h0
    have ht := tz_odd ho
    have he := h.e
    have hl := h.len
    rw [formD_some h0 (by rw [ht]; simp; omega), ht]
    simp
/-- The sum of two forms. -/
def addD (x y : Dy) : Option Dy :=
  if x.m = 0 then some y else if y.m = 0 then some x else
  if 8192 < (wd (x.m * 2 ^ (x.e - min x.e y.e).toNat)).length ∨ 8192 < (wd (y.m * 2 ^ (y.e - min x.e y.e).toNat)).length then none
  else if x.neg = y.neg then formD x.neg (x.m * 2 ^ (x.e - min x.e y.e).toNat + y.m * 2 ^ (y.e - min x.e y.e).toNat) (min x.e y.e)
  else if x.m * 2 ^ (x.e - min x.e y.e).toNat < y.m * 2 ^ (y.e - min x.e y.e).toNat then formD y.neg (y.m * 2 ^ (y.e - min x.e y.e).toNat - x.m * 2 ^ (x.e - min x.e y.e).toNat) (min x.e y.e)
  else formD x.neg (x.m * 2 ^ (x.e - min x.e y.e).toNat - y.m * 2 ^ (y.e - min x.e y.e).toNat) (min x.e y.e)
def mulD (x y : Dy) : Option Dy := if 8192 < (wd (x.m * y.m)).length then none else formD (x.neg != y.neg) (x.m * y.m) (x.e + y.e)
/-- Two values, both in their forms, put together. -/
def both2 (f : Dy → Dy → Option Dy) (a b : Option Dy) : Option Dy :=
  match a, b with
  | some x, some y => f x y
  | _, _ => none
theorem both2_none_right {f : Dy → Dy → Option Dy} {a : Option Dy} : both2 f a none = none := by cases a <;> rfl
end Go.Proofs.YtphnpchmdpjabaaGreatDoor.Wd

/- Package dyad: forms. No condition. -/
namespace Go.Proofs.YtphnpchmdpjabaaGreatDoor
open Go Sx Wd

set_option maxRecDepth 4000 in
theorem lower_spec (v : Value) (l : List Nat) (s : Nat) (w : World) (h : NU w v l) (hs : s < 32) (hp : 0 < l.length) (hlast : l.getD (l.length - 1) 0 ≠ 0) : Ret Tryz.prog 94 [v, .int .i64 (s : Int)] w fun u w' => NU w' u (wd (val l / 2 ^ s)) ∧ Chg [] w w' := by
  obtain ⟨⟨al, cl, rfl, hcapl, hrl⟩, hWl, hll⟩ := h
  have hch : Chg [] w w := Chg.refl _ _
  refine Ret.enter Tryz.func94 rfl rfl ?_
  simp only [args0, Nat.zero_add, Nat.reduceAdd]
  refine Sr fun _ kh1 => za rfl (zz (kh1 (Sr fun _ kh3 => zm rfl (zn rfl ?_))))
  refine WL.makeU ((l).length) ((l).length) rfl rfl (by omega) (by omega) (by omega) (by omega) (by omega) rfl fun b11 wm11 hb11 hcm11 hge11 => ?_
  have hgehch11 := Nat.le_trans hch.size hge11
  have hch := hch.trans hcm11
  refine za rfl (zz (kh3 (zc fun _ kh5 => Sr fun _ kh6 => zm rfl (zn rfl (zm rfl (zz (kh6 ?_)))))))
  refine CW.block ?_
  refine CW.loop (S := fun g : Nat × List Nat => [(0, .slice al l.length cl), (1, .int .i64 (s : Int)), (5, .slice (some ⟨b11, 0, none⟩) l.length l.length), (12, .slice al l.length cl), (13, .int .i64 (l.length : Int)), (14, .int .i64 (g.1 : Int))]) (Inv := KD l s w b11) (mu := fun g => l.length - g.1) ((0, List.replicate l.length 0)) ?_ ?_ ?_
  ·
    exact ⟨DownI.zero l _ s (by simp) (W_replicate _), hb11, hch⟩
  ·
    exact SLp
  ·
    rintro ⟨i, L⟩ wr ⟨hAd, hb11, hch⟩
    dsimp only at hAd hb11 hch
    have hiX := hAd.le
    have hLl := hAd.len
    have hWL := hAd.w
    refine Sr fun _ kh8 => ?_
    refine WL.ev (Ev.lss rfl rfl) rfl ?_
    refine zz (kh8 (zc fun _ kh10 => ?_))
    refine CW.cond rfl (fun hc1 => ?_) (fun hc1 => ?_)
    ·
      try simp only [qs] at hc1
      refine CW.skip ?_
      refine kh10 (zc fun _ kh11 => ?_)
      refine CW.block ?_
      refine Sr fun _ kh12 => zm rfl ?_
      refine WL.ev (Ev.ixR (i) rfl rfl (hrl.keep0 hch) (by omega) (by omega) (by simp; omega)) rfl ?_
      refine WL.ev (Ev.load rfl rfl ((hrl.keep0 hch).u32 (by first | omega | (simp; omega)))) rfl ?_
      have hw18 := hWl.getD (i)
      refine za rfl (za rfl (zz (kh12 (Sr fun _ kh14 => zm rfl (zm rfl (zm rfl (zm rfl ?_)))))))
      refine WL.ev (Ev.shrU rfl rfl (by simp only [IntKind.bits]; omega)) rfl ?_
      have hdl : l.getD i 0 / 2 ^ s ≤ l.getD i 0 := Nat.div_le_self _ _
      refine WL.ev (Ev.ixB (i) rfl rfl (by omega) (by omega)) rfl ?_
      refine WL.storeU rfl rfl hb11 (by first | omega | (simp; omega)) fun ws1 hb11_ hcs1 => ?_
      have hch := hch.step hcs1 (fun y hy => .inr (by simp only [List.mem_singleton] at hy; subst hy; first | assumption | omega))
      have hb11 := hb11_
      refine zz (kh14 ?_)
      refine CW.seqM 33 (decide (0 < s ∧ i + 1 < l.length)) ?_ ?_
      ·
        refine CW.region fun kR16 kr16 => ?_
        refine zm rfl ?_
        refine WL.ev (Ev.gtr rfl rfl) rfl ?_
        refine zm rfl ?_
        refine WL.boolCase (fun hg2 => ?_) (fun hg2 => ?_)
        ·
          try simp only [qs] at hg2
          refine zw rfl (zm rfl (zw rfl ?_))
          first | refine WL.ev (Ev.addIn rfl rfl (by omega)) rfl ?_ | refine WL.ev (Ev.add rfl rfl) rfl ?_
          refine zw rfl (zm rfl (zw rfl (zn rfl (zw rfl ?_))))
          refine WL.ev (Ev.lss rfl rfl) rfl ?_
          refine zt rfl rfl ?_
          refine WL.nil (kr16 _ _ _ ?_)
          refine ⟨rfl, rfl, Subs.consB rfl ?_ ?_⟩
          ·
            first | (simp; omega) | (refine decide_eq_decide.2 ?_; omega)
          ·
            exact SMg
        ·
          try simp only [qs] at hg2
          refine zv rfl (zv rfl (zv rfl (zv rfl (zv rfl (ze rfl rfl ?_)))))
          refine WL.nil (kr16 _ _ _ ?_)
          refine ⟨rfl, rfl, Subs.consB rfl ?_ ?_⟩
          ·
            first | (simp; omega) | (refine decide_eq_decide.2 ?_; omega)
          ·
            exact SMg
      ·
        refine CW.cond rfl (fun hc3 => ?_) (fun hc3 => ?_)
        ·
          try simp only [qs] at hc3
          refine CW.regionKC 14 15 rfl hmix fun kR17 kr17 hS hdr => ?_
          have hch := hch.trans hdr
          have hb11 := hb11.keep0 hdr
          have hch_r := hch
          have hb11_r := hb11
          refine wk 0 rfl hS (fun _ _ => Ev.move rfl) (wk 1 rfl hS (fun _ _ => Ev.move rfl) (wk 2 rfl hS (fun _ _ => Ev.ixB (i) rfl rfl (by omega) (by omega)) (wk 3 rfl hS (fun _ hw' => Ev.load rfl rfl ((hb11_r.keep0 hw').u32 (by simp; omega))) ?_)))
          rw [getD_set_self (by omega)]
          refine wk 4 rfl hS (fun _ _ => Ev.move rfl) (wk 5 rfl hS (fun _ _ => Ev.move rfl) (wk 6 rfl hS (fun _ _ => Ev.addIn rfl rfl (by omega)) (wk 7 rfl hS (fun _ hw' => Ev.ixR ((i + 1)) rfl rfl (hrl.keep0 (hch_r.trans hw')) (by omega) (by omega) (by simp; omega)) (wk 8 rfl hS (fun _ hw' => Ev.load rfl rfl ((hrl.keep0 (hch_r.trans hw')).u32 (by first | omega | (simp; omega)))) ?_))))
          have hw42 := hWl.getD ((i + 1))
          refine wk 9 rfl hS (fun _ _ => Ev.move rfl) (wk 10 rfl hS (fun _ _ => Ev.subIn rfl rfl (by omega)) ?_)
          rw [show (32 : Int) - (s : Int) = ((32 - s : Nat) : Int) by omega]
          refine wk 11 rfl hS (fun _ _ => Ev.shlU32 rfl rfl) (wk 12 rfl hS (fun _ _ => Ev.orU rfl rfl rfl (by simp only [IntKind.bits]; omega) (by simp only [IntKind.bits]; omega)) ?_)
          rw [low_or (hWl.getD i) hs]
          refine wk 13 rfl hS (fun _ _ => Ev.ixB (i) rfl rfl (by omega) (by omega)) ?_
          refine WK.storeU 14 rfl (by kernel_rfl) (by kernel_rfl) rfl rfl hb11 (by first | omega | (simp; omega)) fun ws2 hb11_ hcs2 => ?_
          have hch := hch.step hcs2 (fun y hy => .inr (by simp only [List.mem_singleton] at hy; subst hy; first | assumption | omega))
          have hb11 := hb11_
          refine WK.done (by kernel_rfl) (kr17 _ _ _ ?_)
          refine kh11 ?_
          refine CW.region fun kR18 kr18 => ?_
          first | refine WL.ev (Ev.addIn rfl rfl (by omega)) rfl ?_ | refine WL.ev (Ev.add rfl rfl) rfl ?_
          refine zm rfl ?_
          refine WL.nil (kr18 _ _ _ ?_)
          refine ⟨rfl, (i + 1, L.set i ((l.getD i 0 + l.getD (i + 1) 0 * 4294967296) / 2 ^ s % 4294967296)), ?_, ?_, ?_⟩
          ·
            exact SLp
          ·
            rw [List.set_set] at hb11
            exact ⟨hAd.step hs hWl (by omega) rfl, hb11, hch⟩
          ·
            show l.length - (i + 1) < l.length - i; omega
        ·
          try simp only [qs] at hc3
          have hfin : l.getD i 0 / 2 ^ s = (l.getD i 0 + l.getD (i + 1) 0 * 4294967296) / 2 ^ s % 4294967296 := by
            by_cases q0 : i + 1 < l.length
            · have : s = 0 := by omega
              subst this; rw [Nat.pow_zero, Nat.div_one, Nat.div_one]; omega
            · rw [getD_out (i := i + 1) (by omega), Nat.zero_mul, Nat.add_zero, Nat.mod_eq_of_lt (by omega)]
          refine CW.skip ?_
          refine kh11 ?_
          refine CW.region fun kR19 kr19 => ?_
          first | refine WL.ev (Ev.addIn rfl rfl (by omega)) rfl ?_ | refine WL.ev (Ev.add rfl rfl) rfl ?_
          refine zm rfl ?_
          refine WL.nil (kr19 _ _ _ ?_)
          refine ⟨rfl, (i + 1, L.set i ((l.getD i 0 + l.getD (i + 1) 0 * 4294967296) / 2 ^ s % 4294967296)), ?_, ?_, ?_⟩
          ·
            exact SLp
          ·
            rw [hfin] at hb11
            exact ⟨hAd.step hs hWl (by omega) rfl, hb11, hch⟩
          ·
            show l.length - (i + 1) < l.length - i; omega
    ·
      try simp only [qs] at hc1
      refine CW.exit ?_
      refine kh5 (zc fun _ kh20 => zc fun _ kh21 => ?_)
      have hiX2 : i = l.length := by omega
      subst hiX2
      have hvL := hAd.done hWl
      have hlw := lower_words hWl hWL hLl hp hlast hs hvL
      refine CW.region fun kR22 kr22 => ?_
      refine zm rfl (zn rfl ?_)
      first | refine WL.ev (Ev.subIn rfl rfl (by omega)) rfl ?_ | refine WL.ev (Ev.sub rfl rfl) rfl ?_
      refine za rfl ?_
      refine WL.nil (kr22 _ _ _ (kh21 ?_))
      refine Sr fun _ kh23 => zm rfl (zm rfl ?_)
      refine WL.ev (Ev.ixB ((l.length - 1)) rfl rfl (by omega) (by omega)) rfl ?_
      refine WL.ev (Ev.load rfl rfl (hb11.u32 (by first | omega | (simp; omega)))) rfl ?_
      have hw55 := hWL.getD ((l.length - 1))
      refine zq rfl rfl (zz (kh23 ?_))
      refine CW.cond rfl (fun hc4 => ?_) (fun hc4 => ?_)
      ·
        try simp only [qs] at hc4
        refine CW.region fun kR25 kr25 => ?_
        refine zm rfl (zm rfl (zm rfl ?_))
        refine WL.ev (Ev.slice3n ((l.length - 1)) ((l.length - 1)) rfl rfl rfl (by omega) (by omega) (by omega) (by omega)) rfl ?_
        refine za rfl ?_
        refine WL.nil (kr25 _ _ _ (kh20 ?_))
        refine Sr fun _ kh26 => zm rfl (za rfl (zz (kh26 ?_)))
        refine CW.ret ?_
        refine bodyA.ret1 rfl rfl ?_
        rw [← hlw.2 (by omega)]
        exact ⟨NU.part hb11.row hWL (by omega) (by omega) (Nat.le_refl _), hch⟩
      ·
        try simp only [qs] at hc4
        refine CW.skip ?_
        refine kh20 (Sr fun _ kh28 => zm rfl (za rfl (zz (kh28 ?_))))
        refine CW.ret ?_
        refine bodyA.ret1 rfl rfl ?_
        rw [← hlw.1 (by omega)]
        exact ⟨NU.of_block hb11 hWL (by omega) (by omega) (Nat.le_refl _), hch⟩

/-- A value that is the dyad d. -/
structure DY (w : World) (u : Value) (d : Dy) : Prop where
  ex : ∃ r, u = .agg [.bool d.neg, r, .int .i64 d.e].toArray ∧ NU w r (wd d.m)
theorem DY.zero {w : World} : DY w (.agg [.bool false, .slice none 0 0, .int .i64 0].toArray) Dy.zero := ⟨_, rfl, by rw [show Dy.zero.m = 0 from rfl, wd_zero]; exact NU.nil⟩
/-- A dyad's answer, or none. -/
def DR (w : World) (u : Value) (x : Option Dy) : Prop := (∃ r d, x = some d ∧ u = .tuple [.agg [.bool d.neg, r, .int .i64 d.e].toArray, .int .i64 0].toArray ∧ NU w r (wd d.m)) ∨ (x = none ∧ u = .tuple [.agg [.bool false, .slice none 0 0, .int .i64 0].toArray, .int .i64 2].toArray)
set_option maxRecDepth 4000 in
theorem form_spec (neg : Bool) (v : Value) (l : List Nat) (e : Int) (w : World) (h : NU w v l) (hg : GW w) (he : -9223372036854775808 ≤ e ∧ e ≤ 9223372036854775807) : Ret Tryz.prog 45 [.bool neg, v, .int .i64 e] w fun u w' => DR w' u (formD neg (val l) e) ∧ Chg [] w w' := by
 obtain ⟨A, hA⟩ : ∃ A, A = wd (val l) := ⟨_, rfl⟩
 have hvA : val A = val l := by rw [hA]; exact val_wd _
 have hch : Chg [] w w := Chg.refl _ _
 refine Ret.enter Tryz.func45 rfl rfl ?_
 simp only [args0, Nat.zero_add, Nat.reduceAdd]
 refine Sr fun _ kh1 => ?_
 refine WL.allocB (l := [.bool false, .slice none 0 0, .int .i64 0]) rfl rfl fun b6 wm6 hb6 hcm6 hge6 => ?_
 have hgehch6 := Nat.le_trans hch.size hge6
 have hch := hch.trans hcm6
 refine za rfl (zz (kh1 (Sr fun _ kh3 => zm rfl ?_)))
 refine WL.call hasF92 rfl rfl (Norm_spec _ _ _ (h.keep0 hch)) fun v w1 h' => ?_
 obtain ⟨hN1, hC11⟩ := h'
 rw [← hA] at hN1
 have hN1d := hN1
 obtain ⟨⟨a1, c1, rfl, hcap1, hr1⟩, hW1, hl1⟩ := hN1d
 have hch := hch.trans hC11
 have hb6 := hb6.keep0 hC11
 refine za rfl (zz (kh3 (zc fun _ kh5 => Sr fun _ kh6 => zm rfl (zn rfl (zq rfl rfl (zz (kh6 ?_)))))))
 refine CW.cond rfl (fun hc1 => ?_) (fun hc1 => ?_)
 ·
  try simp only [qs] at hc1
  refine Sr fun _ kh8 => ?_
  refine WL.ev (Ev.build (vs := _) (cs := [_, _, _]) rfl rfl) rfl ?_
  refine WL.storeB rfl rfl rfl ao hb6 (by simp) rfl fun ws3 hb6_ hcs3 => ?_
  try simp only [Sx.splice, qt] at hb6_
  have hch := hch.step hcs3 (fun y hy => .inr (by simp only [List.mem_singleton] at hy; subst hy; first | assumption | omega))
  have hb6 := hb6_
  refine za rfl (zz (kh8 ?_))
  refine CW.ret ?_
  refine bodyA.retR2 rfl (RVal.cell rfl (hb6.varA rfl rfl)) (RVal.tmp rfl) ?_
  have hv0 : val l = 0 := by rw [← hvA, List.length_eq_zero_iff.1 (show A.length = 0 by omega)]; rfl
  rw [hv0, formD_zero]
  exact ⟨.inl ⟨_, _, rfl, rfl, by rw [show Dy.zero.m = 0 from rfl, wd_zero]; exact NU.nil⟩, hch⟩
 ·
  try simp only [qs] at hc1
  have hn0 : val l ≠ 0 := fun e0 => by rw [e0, wd_zero] at hA; rw [hA] at hc1; exact hc1 rfl
  have hAl : A.getD (A.length - 1) 0 ≠ 0 := by rw [hA]; exact wd_last hn0
  obtain ⟨q, hq⟩ : ∃ q, q = tz (val l) := ⟨_, rfl⟩
  have hqb := tz_lt_bl hn0
  have hbA : bl (val l) ≤ 32 * A.length := by rw [bl_words, ← hA]; exact Nat.le_refl _
  rw [← hq] at hqb
  refine CW.skip ?_
  refine kh5 (Sr fun _ kh10 => zm rfl ?_)
  refine WL.call hasF93 rfl rfl (Low_spec _ _ _ hN1 (hg.keep0 hch)) fun v w2 h' => ?_
  obtain ⟨rfl, rfl⟩ := h'
  rw [hvA, ← hq]
  refine za rfl (zz (kh10 (Sr fun _ kh12 => zm rfl (zm rfl ?_))))
  refine WL.ev (Ev.quoU (b := 32) rfl rfl (by omega) (in_i64 (by omega)).2) rfl ?_
  refine WL.ev (Ev.sliceLn ((q / 32)) rfl rfl (by omega) (by omega)) rfl ?_
  refine zm rfl ?_
  refine WL.ev (Ev.remU (b := 32) rfl rfl (by omega)) rfl ?_
  refine WL.call hasF94 rfl rfl (lower_spec _ (A.drop (q / 32)) (q % 32) _ (NU.of_row (by rw [List.map_drop]; exact hr1.cut _ _ (by simp; omega) (by simpa using hcap1)) (hW1.drop _) (by simp; omega) (by simp) (by omega)) (by omega) (by simp; omega) (by rw [List.length_drop, List.getD_eq_getElem?_getD, List.getElem?_drop, ← List.getD_eq_getElem?_getD, show q / 32 + (A.length - q / 32 - 1) = A.length - 1 by omega]; exact hAl)) fun v w3 h' => ?_
  obtain ⟨hN2, hC24⟩ := h'
  rw [val_drop hW1 _ (by omega), hvA, div_words] at hN2
  obtain ⟨B, hB⟩ : ∃ B, B = wd (val l / 2 ^ q) := ⟨_, rfl⟩
  rw [← hB] at hN2
  have hN2d := hN2
  obtain ⟨⟨a2, c2, rfl, hcap2, hr2⟩, hW2, hl2⟩ := hN2d
  have hch := hch.trans hC24
  have hb6 := hb6.keep0 hC24
  refine za rfl (zz (kh12 (zc fun _ kh14 => ?_)))
  refine CW.seqM 39 (decide ((1048576 - (q : Int) < e ∨ e < -1048576 - (q : Int)) ∨ 8192 < B.length)) ?_ ?_
  ·
   refine CW.region fun kR15 kr15 => ?_
   refine zm rfl (zm rfl ?_)
   refine WL.ev (Ev.subIn rfl rfl (by omega)) rfl ?_
   refine WL.ev (Ev.gtr rfl rfl) rfl ?_
   refine zm rfl ?_
   refine WL.boolCase (fun hg2 => ?_) (fun hg2 => ?_)
   ·
    try simp only [qs] at hg2
    refine zv rfl (zv rfl (zv rfl (zv rfl (zt rfl rfl (zm rfl (zv rfl (zv rfl (zv rfl (zt rfl rfl ?_)))))))))
    refine WL.nil (kr15 _ _ _ ?_)
    refine ⟨rfl, rfl, Subs.consB rfl ?_ ?_⟩
    ·
     first | (simp; omega) | (refine decide_eq_decide.2 ?_; omega)
    ·
     exact SMg
   ·
    try simp only [qs] at hg2
    refine zw rfl (zm rfl (zw rfl (zm rfl (zw rfl ?_))))
    first | refine WL.ev (Ev.subIn rfl rfl (by omega)) rfl ?_ | refine WL.ev (Ev.sub rfl rfl) rfl ?_
    refine zw rfl ?_
    refine WL.ev (Ev.lss rfl rfl) rfl ?_
    refine ze rfl rfl (zm rfl ?_)
    refine WL.boolCase (fun hg3 => ?_) (fun hg3 => ?_)
    ·
     try simp only [qs] at hg3
     refine zv rfl (zv rfl (zv rfl (zt rfl rfl ?_)))
     refine WL.nil (kr15 _ _ _ ?_)
     refine ⟨rfl, rfl, Subs.consB rfl ?_ ?_⟩
     ·
      first | (simp; omega) | (refine decide_eq_decide.2 ?_; omega)
     ·
      exact SMg
    ·
     try simp only [qs] at hg3
     refine zw rfl (zm rfl (zw rfl (zn rfl (zw rfl ?_))))
     refine WL.ev (Ev.gtr rfl rfl) rfl ?_
     refine ze rfl rfl ?_
     refine WL.nil (kr15 _ _ _ ?_)
     refine ⟨rfl, rfl, Subs.consB rfl ?_ ?_⟩
     ·
      first | (simp; omega) | (refine decide_eq_decide.2 ?_; omega)
     ·
      exact SMg
  ·
   refine CW.cond rfl (fun hc4 => ?_) (fun hc4 => ?_)
   ·
    try simp only [qs] at hc4
    refine Sr fun _ kh16 => ?_
    refine WL.ev (Ev.build (vs := _) (cs := [_, _, _]) rfl rfl) rfl ?_
    refine WL.storeB rfl rfl rfl ao hb6 (by simp) rfl fun ws4 hb6_ hcs4 => ?_
    try simp only [Sx.splice, qt] at hb6_
    have hch := hch.step hcs4 (fun y hy => .inr (by simp only [List.mem_singleton] at hy; subst hy; first | assumption | omega))
    have hN2 := hN2.keepBK hb6 hcs4 an
    have hb6 := hb6_
    refine za rfl (zz (kh16 ?_))
    refine CW.ret ?_
    refine bodyA.retR2 rfl (RVal.cell rfl (hb6.varA rfl rfl)) (RVal.tmp rfl) ?_
    rw [formD_none hn0 (by rw [← hq, ← hB]; omega)]
    exact ⟨.inr ⟨rfl, rfl⟩, hch⟩
   ·
    try simp only [qs] at hc4
    refine CW.skip ?_
    refine kh14 (Sr fun _ kh18 => zm rfl (zm rfl (zm rfl (zm rfl ?_))))
    first | refine WL.ev (Ev.addIn rfl rfl (by omega)) rfl ?_ | refine WL.ev (Ev.add rfl rfl) rfl ?_
    refine WL.ev (Ev.build (vs := _) (cs := [_, _, _]) rfl rfl) rfl ?_
    refine WL.storeB rfl rfl rfl ao hb6 (by simp) rfl fun ws5 hb6_ hcs5 => ?_
    try simp only [Sx.splice, qt] at hb6_
    have hch := hch.step hcs5 (fun y hy => .inr (by simp only [List.mem_singleton] at hy; subst hy; first | assumption | omega))
    have hN2 := hN2.keepBK hb6 hcs5 an
    have hb6 := hb6_
    refine za rfl (zz (kh18 ?_))
    refine CW.ret ?_
    refine bodyA.retR2 rfl (RVal.cell rfl (hb6.varA rfl rfl)) (RVal.tmp rfl) ?_
    rw [formD_some hn0 (by rw [← hq, ← hB]; omega), ← hq]
    refine ⟨.inl ⟨_, _, rfl, rfl, ?_⟩, hch⟩
    simp only
    rw [← hB]
    exact hN2

end Go.Proofs.YtphnpchmdpjabaaGreatDoor

/- Package dyad: Make, Int, sums. No condition. -/
namespace Go.Proofs.YtphnpchmdpjabaaGreatDoor
open Go Sx Wd

set_option maxRecDepth 4000 in
theorem Make_spec (na : Bool) (va : Value) (la : List Nat) (ea : Int) (w : World) (ha : NU w va la) (hg : GW w) (hea : -9223372036854775808 ≤ ea ∧ ea ≤ 9223372036854775807) : Ret Tryz.prog 33 [.bool na, va, .int .i64 ea] w fun u w' => DR w' u (formD na (val la) ea) ∧ Chg [] w w' := by
 have hch : Chg [] w w := Chg.refl _ _
 refine Ret.enter Tryz.func33 rfl rfl ?_
 simp only [args0, Nat.zero_add, Nat.reduceAdd]
 refine Sr fun _ kh1 => ?_
 refine WL.allocB (l := [.bool false, .slice none 0 0, .int .i64 0]) rfl rfl fun b6 wm6 hb6 hcm6 hge6 => ?_
 have hgehch6 := Nat.le_trans hch.size hge6
 have hch := hch.trans hcm6
 refine za rfl (zz (kh1 (Sr fun _ kh3 => zm rfl (zm rfl (zm rfl ?_)))))
 refine WL.call hasF45 rfl rfl (form_spec na va la ea _ (ha.keep0 hch) (hg.keep0 hch) hea) fun v w1 h' => ?_
 obtain ⟨hD, hC11⟩ := h'
 have hch := hch.trans hC11
 have hb6 := hb6.keep0 hC11
 rcases hD with ⟨r, d, hd, rfl, hNr⟩ | ⟨hd, rfl⟩
 ·
  refine zx rfl rfl (zx rfl rfl ?_)
  refine WL.storeB rfl rfl rfl ao hb6 (by simp) rfl fun ws6 hb6_ hcs6 => ?_
  try simp only [Sx.splice, qt] at hb6_
  have hch := hch.step hcs6 (fun y hy => .inr (by simp only [List.mem_singleton] at hy; subst hy; first | assumption | omega))
  have hNr := hNr.keepBK hb6 hcs6 an
  have hb6 := hb6_
  refine za rfl (zz (kh3 ?_))
  refine CW.ret ?_
  refine bodyA.retR2 rfl (RVal.cell rfl (hb6.varA rfl rfl)) (RVal.tmp rfl) ?_
  exact ⟨.inl ⟨r, d, hd, rfl, hNr⟩, hch⟩
 ·
  refine zx rfl rfl (zx rfl rfl ?_)
  refine WL.storeB rfl rfl rfl ao hb6 (by simp) rfl fun ws7 hb6_ hcs7 => ?_
  try simp only [Sx.splice, qt] at hb6_
  have hch := hch.step hcs7 (fun y hy => .inr (by simp only [List.mem_singleton] at hy; subst hy; first | assumption | omega))
  have hb6 := hb6_
  refine za rfl (zz (kh3 ?_))
  refine CW.ret ?_
  refine bodyA.retR2 rfl (RVal.cell rfl (hb6.varA rfl rfl)) (RVal.tmp rfl) ?_
  exact ⟨.inr ⟨hd, rfl⟩, hch⟩

theorem formD_int {n : Nat} {neg : Bool} (h : n < 18446744073709551616) : ∃ d, formD neg n 0 = some d := by
  by_cases h0 : n = 0
  · exact ⟨_, by rw [h0]; exact formD_zero _ _⟩
  · have h1 := tz_lt_bl h0
    have h2 := bl_le (n := n) (k := 64)
    have h3 : n / 2 ^ tz n ≤ n := Nat.div_le_self _ _
    have h4 := wd_length_le (n := n / 2 ^ tz n) (k := 2)
    have h5 : (wd (n / 2 ^ tz n)).length ≤ 2 := h4.2 (Nat.lt_of_le_of_lt h3 h)
    have h6 : bl n ≤ 64 := h2.2 h
    exact ⟨_, formD_some h0 (by omega)⟩
/-- A whole number as a dyad. -/
def intD (n : Int) : Dy := ((formD (decide (n < 0)) n.natAbs 0).getD Dy.zero)
theorem intD_eq {n : Int} (h : n.natAbs < 18446744073709551616) : formD (decide (n < 0)) n.natAbs 0 = some (intD n) := by
  obtain ⟨d, hd⟩ := formD_int (neg := decide (n < 0)) h
  unfold intD; rw [hd]; rfl

set_option maxRecDepth 4000 in
theorem Int_spec (n : Int) (w : World) (hg : GW w) (hn : -9223372036854775808 ≤ n ∧ n ≤ 9223372036854775807) : Ret Tryz.prog 56 [.int .i64 n] w fun u w' => DY w' u (intD n) ∧ Chg [] w w' := by
 have hch : Chg [] w w := Chg.refl _ _
 refine Ret.enter Tryz.func56 rfl rfl ?_
 simp only [args0, Nat.zero_add, Nat.reduceAdd]
 refine Sr fun _ kh1 => ?_
 refine WL.allocB (l := [.bool false, .slice none 0 0, .int .i64 0]) rfl rfl fun b2 wm2 hb2 hcm2 hge2 => ?_
 have hgehch2 := Nat.le_trans hch.size hge2
 have hch := hch.trans hcm2
 refine zz (kh1 (Sr fun _ kh3 => zm rfl ?_))
 refine WL.ev (Ev.conv rfl rfl) rfl ?_
 rw [wrap_u64i]
 refine za rfl (zz (kh3 (zc fun _ kh5 => Sr fun _ kh6 => zm rfl ?_)))
 refine WL.ev (Ev.lss rfl rfl) rfl ?_
 refine zz (kh6 ?_)
 refine CW.cond rfl (fun hc1 => ?_) (fun hc1 => ?_)
 ·
  try simp only [qs] at hc1
  refine CW.region fun kR8 kr8 => ?_
  refine zm rfl ?_
  refine WL.ev (Ev.neg rfl) rfl ?_
  rw [wrap_u64i, show (0 - n % 18446744073709551616) % 18446744073709551616 = ((n.natAbs : Nat) : Int) by omega]
  have hab : n.natAbs = n.natAbs := rfl
  refine za rfl ?_
  refine WL.nil (kr8 _ _ _ (kh5 ?_))
  refine Sr fun _ kh9 => zm rfl ?_
  refine WL.ev (Ev.lss rfl rfl) rfl ?_
  refine zm rfl ?_
  refine WL.call hasF46 rfl rfl (Of_spec n.natAbs _ (by omega)) fun v w1 h' => ?_
  obtain ⟨hN16, hC16⟩ := h'
  have hch := hch.trans hC16
  have hb2 := hb2.keep0 hC16
  refine WL.call hasF45 rfl rfl (form_spec _ _ _ 0 _ hN16 (hg.keep0 hch) (by omega)) fun v w2 h' => ?_
  obtain ⟨hD, hC17⟩ := h'
  rw [val_wd, hab, intD_eq (by omega)] at hD
  rcases hD with ⟨r, d, hd, rfl, hNr⟩ | ⟨hd, rfl⟩
  rotate_left
  · cases hd
  cases hd
  have hch := hch.trans hC17
  have hb2 := hb2.keep0 hC17
  have hN16 := hN16.keep0 hC17
  refine zm rfl (zx rfl rfl (zx rfl rfl ?_))
  refine WL.allocB (l := [.bool false, .slice none 0 0, .int .i64 0]) rfl rfl fun b4 wm4 hb4 hcm4 hge4 => ?_
  have hgehch4 := Nat.le_trans hch.size hge4
  have hch := hch.trans hcm4
  have hN16 := hN16.keep0 hcm4
  have hNr := hNr.keep0 hcm4
  have hneb24 : b2 ≠ b4 := by have := hb2.lt; omega
  have hb2 := hb2.keep0 hcm4
  refine WL.storeB rfl rfl rfl ao hb4 (by simp) rfl fun ws8 hb4_ hcs8 => ?_
  try simp only [Sx.splice, qt] at hb4_
  have hch := hch.step hcs8 (fun y hy => .inr (by simp only [List.mem_singleton] at hy; subst hy; first | assumption | omega))
  have hb2 := hb2.keep hcs8 (by simp; omega)
  have hN16 := hN16.keepBK hb4 hcs8 an
  have hNr := hNr.keepBK hb4 hcs8 an
  have hb4 := hb4_
  refine za rfl (zz (kh9 (Sr fun _ kh11 => zg hb4 rfl ?_)))
  refine WL.storeB rfl rfl rfl ao hb2 (by simp) rfl fun ws9 hb2_ hcs9 => ?_
  try simp only [Sx.splice, qt] at hb2_
  have hch := hch.step hcs9 (fun y hy => .inr (by simp only [List.mem_singleton] at hy; subst hy; first | assumption | omega))
  have hb4 := hb4.keep hcs9 (by simp; omega)
  have hN16 := hN16.keepBK hb2 hcs9 an
  have hNr := hNr.keepBK hb2 hcs9 an
  have hb2 := hb2_
  refine zz (kh11 ?_)
  refine CW.ret ?_
  refine bodyA.retR1 rfl (RVal.cell rfl (hb2.varA rfl rfl)) ?_
  exact ⟨⟨⟨_, rfl, hNr⟩⟩, hch⟩
 ·
  try simp only [qs] at hc1
  rw [show n % 18446744073709551616 = ((n.natAbs : Nat) : Int) by omega]
  have hab : n.natAbs = n.natAbs := rfl
  refine CW.skip ?_
  refine kh5 (Sr fun _ kh13 => zm rfl ?_)
  refine WL.ev (Ev.lss rfl rfl) rfl ?_
  refine zm rfl ?_
  refine WL.call hasF46 rfl rfl (Of_spec n.natAbs _ (by omega)) fun v w3 h' => ?_
  obtain ⟨hN16, hC16⟩ := h'
  have hch := hch.trans hC16
  have hb2 := hb2.keep0 hC16
  refine WL.call hasF45 rfl rfl (form_spec _ _ _ 0 _ hN16 (hg.keep0 hch) (by omega)) fun v w4 h' => ?_
  obtain ⟨hD, hC17⟩ := h'
  rw [val_wd, hab, intD_eq (by omega)] at hD
  rcases hD with ⟨r, d, hd, rfl, hNr⟩ | ⟨hd, rfl⟩
  rotate_left
  · cases hd
  cases hd
  have hch := hch.trans hC17
  have hb2 := hb2.keep0 hC17
  have hN16 := hN16.keep0 hC17
  refine zm rfl (zx rfl rfl (zx rfl rfl ?_))
  refine WL.allocB (l := [.bool false, .slice none 0 0, .int .i64 0]) rfl rfl fun b4 wm4 hb4 hcm4 hge4 => ?_
  have hgehch4 := Nat.le_trans hch.size hge4
  have hch := hch.trans hcm4
  have hN16 := hN16.keep0 hcm4
  have hNr := hNr.keep0 hcm4
  have hneb24 : b2 ≠ b4 := by have := hb2.lt; omega
  have hb2 := hb2.keep0 hcm4
  refine WL.storeB rfl rfl rfl ao hb4 (by simp) rfl fun ws10 hb4_ hcs10 => ?_
  try simp only [Sx.splice, qt] at hb4_
  have hch := hch.step hcs10 (fun y hy => .inr (by simp only [List.mem_singleton] at hy; subst hy; first | assumption | omega))
  have hb2 := hb2.keep hcs10 (by simp; omega)
  have hN16 := hN16.keepBK hb4 hcs10 an
  have hNr := hNr.keepBK hb4 hcs10 an
  have hb4 := hb4_
  refine za rfl (zz (kh13 (Sr fun _ kh15 => zg hb4 rfl ?_)))
  refine WL.storeB rfl rfl rfl ao hb2 (by simp) rfl fun ws11 hb2_ hcs11 => ?_
  try simp only [Sx.splice, qt] at hb2_
  have hch := hch.step hcs11 (fun y hy => .inr (by simp only [List.mem_singleton] at hy; subst hy; first | assumption | omega))
  have hb4 := hb4.keep hcs11 (by simp; omega)
  have hN16 := hN16.keepBK hb2 hcs11 an
  have hNr := hNr.keepBK hb2 hcs11 an
  have hb2 := hb2_
  refine zz (kh15 ?_)
  refine CW.ret ?_
  refine bodyA.retR1 rfl (RVal.cell rfl (hb2.varA rfl rfl)) ?_
  exact ⟨⟨⟨_, rfl, hNr⟩⟩, hch⟩

end Go.Proofs.YtphnpchmdpjabaaGreatDoor

/- Package dyad: sums, products. No condition. -/
namespace Go.Proofs.YtphnpchmdpjabaaGreatDoor
open Go Sx Wd

/-- The forms of two, or an error beside whatever. -/
def BR (w : World) (u : Value) (a b : Option Dy) : Prop :=
  (∃ x y rx ry, a = some x ∧ b = some y ∧ u = .tuple [.agg [.bool x.neg, rx, .int .i64 x.e].toArray, .agg [.bool y.neg, ry, .int .i64 y.e].toArray, .int .i64 0].toArray ∧ NU w rx (wd x.m) ∧ NU w ry (wd y.m)) ∨
  ((a = none ∨ b = none) ∧ ∃ n1 v1 e1 n2 v2 e2, u = .tuple [.agg [.bool n1, v1, .int .i64 e1].toArray, .agg [.bool n2, v2, .int .i64 e2].toArray, .int .i64 2].toArray ∧ v1.oneCell' = true ∧ v2.oneCell' = true)

set_option maxRecDepth 4000 in
theorem dboth_spec (na nb : Bool) (va vb : Value) (la lb : List Nat) (ea eb : Int) (w : World) (ha : NU w va la) (hb : NU w vb lb) (hg : GW w) (hea : -9223372036854775808 ≤ ea ∧ ea ≤ 9223372036854775807) (heb : -9223372036854775808 ≤ eb ∧ eb ≤ 9223372036854775807) : Ret Tryz.prog 47 [.agg [.bool na, va, .int .i64 ea].toArray, .agg [.bool nb, vb, .int .i64 eb].toArray] w fun u w' => BR w' u (formD na (val la) ea) (formD nb (val lb) eb) ∧ Chg [] w w' := by
 have hch : Chg [] w w := Chg.refl _ _
 have hoa := ha.one
 have hob := hb.one
 refine Ret.enter Tryz.func47 rfl rfl ?_
 simp only [args0, Nat.zero_add, Nat.reduceAdd]
 refine Sr fun _ kh1 => ?_
 refine WL.boxB rfl rfl rfl fun b2 wm2 hb2 hcm2 hge2 => ?_
 have hgehch2 := Nat.le_trans hch.size hge2
 have hch := hch.trans hcm2
 have ha := ha.keep0 hcm2
 have hb := hb.keep0 hcm2
 refine WL.boxB rfl rfl rfl fun b3 wm3 hb3 hcm3 hge3 => ?_
 have hgehch3 := Nat.le_trans hch.size hge3
 have hch := hch.trans hcm3
 have ha := ha.keep0 hcm3
 have hb := hb.keep0 hcm3
 have hneb23 : b2 ≠ b3 := by have := hb2.lt; omega
 have hb2 := hb2.keep0 hcm3
 refine WL.allocB (l := [.bool false, .slice none 0 0, .int .i64 0]) rfl rfl fun b4 wm4 hb4 hcm4 hge4 => ?_
 have hgehch4 := Nat.le_trans hch.size hge4
 have hch := hch.trans hcm4
 have ha := ha.keep0 hcm4
 have hb := hb.keep0 hcm4
 have hneb24 : b2 ≠ b4 := by have := hb2.lt; omega
 have hb2 := hb2.keep0 hcm4
 have hneb34 : b3 ≠ b4 := by have := hb3.lt; omega
 have hb3 := hb3.keep0 hcm4
 refine WL.allocB (l := [.bool false, .slice none 0 0, .int .i64 0]) rfl rfl fun b5 wm5 hb5 hcm5 hge5 => ?_
 have hgehch5 := Nat.le_trans hch.size hge5
 have hch := hch.trans hcm5
 have ha := ha.keep0 hcm5
 have hb := hb.keep0 hcm5
 have hneb25 : b2 ≠ b5 := by have := hb2.lt; omega
 have hb2 := hb2.keep0 hcm5
 have hneb35 : b3 ≠ b5 := by have := hb3.lt; omega
 have hb3 := hb3.keep0 hcm5
 have hneb45 : b4 ≠ b5 := by have := hb4.lt; omega
 have hb4 := hb4.keep0 hcm5
 refine za rfl (zz (kh1 (Sr fun _ kh3 => zf rfl (zl hb2 rfl rfl (zf rfl (zl hb2 rfl rfl (zf rfl (zl hb2 rfl rfl ?_))))))))
 refine WL.call hasF45 rfl rfl (form_spec na va la ea _ ha (hg.keep0 hch) hea) fun v w1 h' => ?_
 obtain ⟨hD1, hC1⟩ := h'
 have hch := hch.trans hC1
 have hb2 := hb2.keep0 hC1
 have hb3 := hb3.keep0 hC1
 have hb4 := hb4.keep0 hC1
 have hb5 := hb5.keep0 hC1
 have ha := ha.keep0 hC1
 have hb := hb.keep0 hC1
 rcases hD1 with ⟨r1, d1, hd1, rfl, hNr1⟩ | ⟨hd1, rfl⟩
 ·
  refine zm rfl (zx rfl rfl (zx rfl rfl ?_))
  refine WL.storeB rfl rfl rfl ao hb4 (by simp) rfl fun ws12 hb4_ hcs12 => ?_
  try simp only [Sx.splice, qt] at hb4_
  have hch := hch.step hcs12 (fun y hy => .inr (by simp only [List.mem_singleton] at hy; subst hy; first | assumption | omega))
  have hb2 := hb2.keep hcs12 (by simp; omega)
  have hb3 := hb3.keep hcs12 (by simp; omega)
  have hb5 := hb5.keep hcs12 (by simp; omega)
  have ha := ha.keepBK hb4 hcs12 an
  have hb := hb.keepBK hb4 hcs12 an
  have hNr1 := hNr1.keepBK hb4 hcs12 an
  have hb4 := hb4_
  refine za rfl (zz (kh3 (zc fun _ kh5 => Sr fun _ kh6 => zm rfl (zq rfl rfl (zz (kh6 ?_))))))
  refine CW.condT rfl ?_
  refine CW.region fun kR8 kr8 => ?_
  refine zf rfl (zl hb3 rfl rfl (zf rfl (zl hb3 rfl rfl (zf rfl (zl hb3 rfl rfl ?_)))))
  refine WL.call hasF45 rfl rfl (form_spec nb vb lb eb _ hb (hg.keep0 hch) heb) fun v w2 h' => ?_
  obtain ⟨hD2, hC2⟩ := h'
  have hch := hch.trans hC2
  have hb2 := hb2.keep0 hC2
  have hb3 := hb3.keep0 hC2
  have hb4 := hb4.keep0 hC2
  have hb5 := hb5.keep0 hC2
  have ha := ha.keep0 hC2
  have hb := hb.keep0 hC2
  have hNr1 := hNr1.keep0 hC2
  rcases hD2 with ⟨r2, d2, hd2, rfl, hNr2⟩ | ⟨hd2, rfl⟩
  ·
   refine zm rfl (zx rfl rfl (zx rfl rfl ?_))
   refine WL.storeB rfl rfl rfl ao hb5 (by simp) rfl fun ws13 hb5_ hcs13 => ?_
   try simp only [Sx.splice, qt] at hb5_
   have hch := hch.step hcs13 (fun y hy => .inr (by simp only [List.mem_singleton] at hy; subst hy; first | assumption | omega))
   have hb2 := hb2.keep hcs13 (by simp; omega)
   have hb3 := hb3.keep hcs13 (by simp; omega)
   have hb4 := hb4.keep hcs13 (by simp; omega)
   have ha := ha.keepBK hb5 hcs13 an
   have hb := hb.keepBK hb5 hcs13 an
   have hNr1 := hNr1.keepBK hb5 hcs13 an
   have hNr2 := hNr2.keepBK hb5 hcs13 an
   have hb5 := hb5_
   refine za rfl ?_
   refine WL.nil (kr8 _ _ _ (kh5 ?_))
   refine zc fun _ kh9 => ?_
   refine CW.regionS2 6 hb4 hb5 rfl hmix fun kR10 kr10 hS hdr => ?_
   have hch := hch.trans hdr
   have hb2 := hb2.keep0 hdr
   have hb3 := hb3.keep0 hdr
   have hb4 := hb4.keep0 hdr
   have hb5 := hb5.keep0 hdr
   have ha := ha.keep0 hdr
   have hb := hb.keep0 hdr
   have hNr1 := hNr1.keep0 hdr
   have hNr2 := hNr2.keep0 hdr
   refine wh 0 rfl hS (fun _ hw' => Ev.loadA rfl rfl hw'.1 rfl) (wh 1 rfl hS (fun _ hw' => Ev.loadA rfl rfl hw'.2 rfl) (wh 2 rfl hS (fun _ _ => Ev.move rfl) ?_))
   refine WH.same1 3 rfl (by kernel_rfl) rfl rfl rfl ao (by omega) hS fun ws14 hS hcs14 => ?_
   have hch := hch.step hcs14 (fun y hy => .inr (by simp only [List.mem_singleton] at hy; subst hy; first | assumption | omega))
   have hb2 := hb2.keep hcs14 (by simp; omega)
   have hb3 := hb3.keep hcs14 (by simp; omega)
   have ha := ha.keepBK hb4 hcs14 an
   have hb := hb.keepBK hb4 hcs14 an
   have hNr1 := hNr1.keepBK hb4 hcs14 an
   have hNr2 := hNr2.keepBK hb4 hcs14 an
   have hb4 := hS.1
   have hb5 := hS.2
   refine WH.same2 4 rfl (by kernel_rfl) rfl rfl rfl ao (by omega) hS fun ws15 hS hcs15 => ?_
   have hch := hch.step hcs15 (fun y hy => .inr (by simp only [List.mem_singleton] at hy; subst hy; first | assumption | omega))
   have hb2 := hb2.keep hcs15 (by simp; omega)
   have hb3 := hb3.keep hcs15 (by simp; omega)
   have ha := ha.keepBK hb5 hcs15 an
   have hb := hb.keepBK hb5 hcs15 an
   have hNr1 := hNr1.keepBK hb5 hcs15 an
   have hNr2 := hNr2.keepBK hb5 hcs15 an
   have hb4 := hS.1
   have hb5 := hS.2
   refine wh 5 rfl hS (fun _ _ => Ev.assign rfl) ?_
   refine WH.done (by kernel_rfl) (kr10 _ _ _ ?_)
   refine kh9 ?_
   refine CW.ret ?_
   refine bodyA.retR3 rfl (RVal.cell rfl (hb4.varA rfl rfl)) (RVal.cell rfl (hb5.varA rfl rfl)) (RVal.tmp rfl) ?_
   exact ⟨.inl ⟨d1, d2, r1, r2, hd1, hd2, rfl, hNr1, hNr2⟩, hch⟩
  ·
   refine zm rfl (zx rfl rfl (zx rfl rfl ?_))
   refine WL.storeB rfl rfl rfl ao hb5 (by simp) rfl fun ws16 hb5_ hcs16 => ?_
   try simp only [Sx.splice, qt] at hb5_
   have hch := hch.step hcs16 (fun y hy => .inr (by simp only [List.mem_singleton] at hy; subst hy; first | assumption | omega))
   have hb2 := hb2.keep hcs16 (by simp; omega)
   have hb3 := hb3.keep hcs16 (by simp; omega)
   have hb4 := hb4.keep hcs16 (by simp; omega)
   have ha := ha.keepBK hb5 hcs16 an
   have hb := hb.keepBK hb5 hcs16 an
   have hNr1 := hNr1.keepBK hb5 hcs16 an
   have hb5 := hb5_
   refine za rfl ?_
   refine WL.nil (kr8 _ _ _ (kh5 ?_))
   refine zc fun _ kh11 => ?_
   refine CW.regionS2 6 hb4 hb5 rfl hmix fun kR12 kr12 hS hdr => ?_
   have hch := hch.trans hdr
   have hb2 := hb2.keep0 hdr
   have hb3 := hb3.keep0 hdr
   have hb4 := hb4.keep0 hdr
   have hb5 := hb5.keep0 hdr
   have ha := ha.keep0 hdr
   have hb := hb.keep0 hdr
   have hNr1 := hNr1.keep0 hdr
   refine wh 0 rfl hS (fun _ hw' => Ev.loadA rfl rfl hw'.1 rfl) (wh 1 rfl hS (fun _ hw' => Ev.loadA rfl rfl hw'.2 rfl) (wh 2 rfl hS (fun _ _ => Ev.move rfl) ?_))
   refine WH.same1 3 rfl (by kernel_rfl) rfl rfl rfl ao (by omega) hS fun ws17 hS hcs17 => ?_
   have hch := hch.step hcs17 (fun y hy => .inr (by simp only [List.mem_singleton] at hy; subst hy; first | assumption | omega))
   have hb2 := hb2.keep hcs17 (by simp; omega)
   have hb3 := hb3.keep hcs17 (by simp; omega)
   have ha := ha.keepBK hb4 hcs17 an
   have hb := hb.keepBK hb4 hcs17 an
   have hNr1 := hNr1.keepBK hb4 hcs17 an
   have hb4 := hS.1
   have hb5 := hS.2
   refine WH.same2 4 rfl (by kernel_rfl) rfl rfl rfl ao (by omega) hS fun ws18 hS hcs18 => ?_
   have hch := hch.step hcs18 (fun y hy => .inr (by simp only [List.mem_singleton] at hy; subst hy; first | assumption | omega))
   have hb2 := hb2.keep hcs18 (by simp; omega)
   have hb3 := hb3.keep hcs18 (by simp; omega)
   have ha := ha.keepBK hb5 hcs18 an
   have hb := hb.keepBK hb5 hcs18 an
   have hNr1 := hNr1.keepBK hb5 hcs18 an
   have hb4 := hS.1
   have hb5 := hS.2
   refine wh 5 rfl hS (fun _ _ => Ev.assign rfl) ?_
   refine WH.done (by kernel_rfl) (kr12 _ _ _ ?_)
   refine kh11 ?_
   refine CW.ret ?_
   refine bodyA.retR3 rfl (RVal.cell rfl (hb4.varA rfl rfl)) (RVal.cell rfl (hb5.varA rfl rfl)) (RVal.tmp rfl) ?_
   exact ⟨.inr ⟨.inr hd2, _, _, _, _, _, _, rfl, hNr1.one, rfl⟩, hch⟩
 ·
  refine zm rfl (zx rfl rfl (zx rfl rfl ?_))
  refine WL.storeB rfl rfl rfl ao hb4 (by simp) rfl fun ws19 hb4_ hcs19 => ?_
  try simp only [Sx.splice, qt] at hb4_
  have hch := hch.step hcs19 (fun y hy => .inr (by simp only [List.mem_singleton] at hy; subst hy; first | assumption | omega))
  have hb2 := hb2.keep hcs19 (by simp; omega)
  have hb3 := hb3.keep hcs19 (by simp; omega)
  have hb5 := hb5.keep hcs19 (by simp; omega)
  have ha := ha.keepBK hb4 hcs19 an
  have hb := hb.keepBK hb4 hcs19 an
  have hb4 := hb4_
  refine za rfl (zz (kh3 (zc fun _ kh13 => Sr fun _ kh14 => zm rfl (zq rfl rfl (zz (kh14 ?_))))))
  refine CW.condF rfl ?_
  refine CW.skip ?_
  refine kh13 (zc fun _ kh16 => ?_)
  refine CW.regionS2 6 hb4 hb5 rfl hmix fun kR17 kr17 hS hdr => ?_
  have hch := hch.trans hdr
  have hb2 := hb2.keep0 hdr
  have hb3 := hb3.keep0 hdr
  have hb4 := hb4.keep0 hdr
  have hb5 := hb5.keep0 hdr
  have ha := ha.keep0 hdr
  have hb := hb.keep0 hdr
  refine wh 0 rfl hS (fun _ hw' => Ev.loadA rfl rfl hw'.1 rfl) (wh 1 rfl hS (fun _ hw' => Ev.loadA rfl rfl hw'.2 rfl) (wh 2 rfl hS (fun _ _ => Ev.move rfl) ?_))
  refine WH.same1 3 rfl (by kernel_rfl) rfl rfl rfl ao (by omega) hS fun ws20 hS hcs20 => ?_
  have hch := hch.step hcs20 (fun y hy => .inr (by simp only [List.mem_singleton] at hy; subst hy; first | assumption | omega))
  have hb2 := hb2.keep hcs20 (by simp; omega)
  have hb3 := hb3.keep hcs20 (by simp; omega)
  have ha := ha.keepBK hb4 hcs20 an
  have hb := hb.keepBK hb4 hcs20 an
  have hb4 := hS.1
  have hb5 := hS.2
  refine WH.same2 4 rfl (by kernel_rfl) rfl rfl rfl ao (by omega) hS fun ws21 hS hcs21 => ?_
  have hch := hch.step hcs21 (fun y hy => .inr (by simp only [List.mem_singleton] at hy; subst hy; first | assumption | omega))
  have hb2 := hb2.keep hcs21 (by simp; omega)
  have hb3 := hb3.keep hcs21 (by simp; omega)
  have ha := ha.keepBK hb5 hcs21 an
  have hb := hb.keepBK hb5 hcs21 an
  have hb4 := hS.1
  have hb5 := hS.2
  refine wh 5 rfl hS (fun _ _ => Ev.assign rfl) ?_
  refine WH.done (by kernel_rfl) (kr17 _ _ _ ?_)
  refine kh16 ?_
  refine CW.ret ?_
  refine bodyA.retR3 rfl (RVal.cell rfl (hb4.varA rfl rfl)) (RVal.cell rfl (hb5.varA rfl rfl)) (RVal.tmp rfl) ?_
  exact ⟨.inr ⟨.inl hd1, _, _, _, _, _, _, rfl, rfl, rfl⟩, hch⟩

structure KA2 (X Y : List Nat) (w : World) (b : Nat) (g : Nat × List Nat × Nat) (wr : World) : Prop where
  a : AddI X Y g.1 g.2.1 g.2.2
  ob : OB wr b 116 g.2.1
  chg : Chg [] w wr

set_option maxRecDepth 4000 in
theorem dsum_spec (va vb : Value) (la lb : List Nat) (w : World) (ha : NU w va la) (hb : NU w vb lb) (hla : la.length < 70368744177664) (hlb : lb.length < 70368744177664) : Ret Tryz.prog 49 [va, vb] w fun u w' => ∃ L, NU w' u L ∧ val L = val la + val lb ∧ Chg [] w w' := by
 obtain ⟨⟨a1, c1, rfl, hcap1, hr1⟩, hW1, hl1⟩ := ha
 obtain ⟨⟨a2, c2, rfl, hcap2, hr2⟩, hW2, hl2⟩ := hb
 have hch : Chg [] w w := Chg.refl _ _
 refine Ret.enter Tryz.func49 rfl rfl ?_
 simp only [args0, Nat.zero_add, Nat.reduceAdd]
 refine Sr fun _ kh1 => za rfl (zz (kh1 ?_))
 refine CW.seqJ (fun D s' w' => D = [] ∧ w = w' ∧ ∃ xa ca xb cb X Y, RW w xa (X.map u32v) ∧ W X ∧ RW w xb (Y.map u32v) ∧ W Y ∧ Y.length ≤ X.length ∧ X.length < 70368744177664 ∧ val X + val Y = val la + val lb ∧ Subs [(0, .slice xa X.length ca), (1, .slice xb Y.length cb)] s') ?_ ?_
 ·
  refine Sr fun _ kh4 => zm rfl (zn rfl (zm rfl (zn rfl ?_)))
  refine WL.ev (Ev.lss rfl rfl) rfl ?_
  refine zz (kh4 ?_)
  refine CW.cond rfl (fun hc1 => ?_) (fun hc1 => ?_)
  ·
   try simp only [qs] at hc1
   refine CW.region fun kR6 kr6 => ?_
   refine zm rfl (zm rfl (za rfl (za rfl ?_)))
   refine WL.nil (kr6 _ _ _ ?_)
   exact ⟨rfl, rfl, a2, c2, a1, c1, lb, la, hr2, hW2, hr1, hW1, by omega, by omega, by omega, (by repeat (first | exact Subs.nil | refine Subs.cons rfl ?_))⟩
  ·
   try simp only [qs] at hc1
   refine CW.skip ?_
   exact ⟨rfl, rfl, a1, c1, a2, c2, la, lb, hr1, hW1, hr2, hW2, by omega, by omega, rfl, (by repeat (first | exact Subs.nil | refine Subs.cons rfl ?_))⟩
 ·
  rintro _ s' _ ⟨rfl, rfl, xa, ca, xb, cb, X, Y, hrX, hWX, hrY, hWY, hYX, hXl, hXY, hsub⟩
  refine CW.sub hsub ?_
  refine Sr fun _ kh7 => zm rfl (zn rfl ?_)
  first | refine WL.ev (Ev.addIn rfl rfl (by omega)) rfl ?_ | refine WL.ev (Ev.add rfl rfl) rfl ?_
  refine WL.makeU (((X).length + 1)) (((X).length + 1)) rfl rfl (by omega) (by omega) (by omega) (by omega) (by omega) rfl fun b19 wm19 hb19 hcm19 hge19 => ?_
  have hgehch19 := Nat.le_trans hch.size hge19
  have hch := hch.trans hcm19
  refine za rfl (zz (kh7 (Sr fun _ kh9 => za rfl (zz (kh9 (zc fun _ kh11 => Sr fun _ kh12 => zm rfl (zn rfl (zm rfl (zz (kh12 ?_))))))))))
  refine CW.block ?_
  refine CW.loop (S := fun g : Nat × List Nat × Nat => [(0, .slice xa X.length ca), (1, .slice xb Y.length cb), (5, .slice (some ⟨b19, 0, none⟩) (X.length + 1) (X.length + 1)), (6, .int .u32 (g.2.2 : Int)), (21, .int .i64 (X.length : Int)), (22, .int .i64 (g.1 : Int))]) (Inv := KA2 X Y w b19) (mu := fun g => X.length - g.1) ((0, List.replicate (X.length + 1) 0, 0)) ?_ ?_ ?_
  ·
   exact ⟨AddI.zero (by simp) (W_replicate _), hb19, hch⟩
  ·
   exact SLp
  ·
   rintro ⟨i, L, c⟩ wr ⟨hAd, hb19, hch⟩
   dsimp only at hAd hb19 hch
   have hiX := hAd.le
   have hLl := hAd.len
   have hcc := hAd.c1
   refine Sr fun _ kh14 => ?_
   refine WL.ev (Ev.lss rfl rfl) rfl ?_
   refine zz (kh14 (zc fun _ kh16 => ?_))
   refine CW.cond rfl (fun hc2 => ?_) (fun hc2 => ?_)
   ·
    try simp only [qs] at hc2
    refine CW.skip ?_
    refine kh16 (zc fun _ kh17 => ?_)
    refine CW.block ?_
    refine Sr fun _ kh18 => zm rfl (za rfl (zz (kh18 (Sr fun _ kh20 => za rfl (zz (kh20 (zc fun _ kh22 => Sr fun _ kh23 => zm rfl (zm rfl (zn rfl ?_)))))))))
    refine WL.ev (Ev.lss rfl rfl) rfl ?_
    refine zz (kh23 ?_)
    refine CW.cond rfl (fun hc3 => ?_) (fun hc3 => ?_)
    ·
     try simp only [qs] at hc3
     refine CW.region fun kR25 kr25 => ?_
     refine zm rfl (zm rfl ?_)
     refine WL.ev (Ev.ixR (i) rfl rfl (hrY.keep0 hch) (by omega) (by omega) (by simp; omega)) rfl ?_
     refine WL.ev (Ev.load rfl rfl ((hrY.keep0 hch).u32 (by first | omega | (simp; omega)))) rfl ?_
     have hw32 := hWY.getD (i)
     refine za rfl ?_
     refine WL.nil (kr25 _ _ _ (kh22 ?_))
     refine CW.region fun kR26 kr26 => ?_
     refine zm rfl (zm rfl (zm rfl (zm rfl ?_)))
     refine WL.ev (Ev.ixR (i) rfl rfl (hrX.keep0 hch) (by omega) (by omega) (by simp; omega)) rfl ?_
     refine WL.ev (Ev.load rfl rfl ((hrX.keep0 hch).u32 (by first | omega | (simp; omega)))) rfl ?_
     have hw39 := hWX.getD (i)
     refine zm rfl (zm rfl ?_)
     refine WL.call hasF100 rfl rfl (Add32_spec (X.getD i 0) (Y.getD i 0) c _ (hWX.getD i) (hWY.getD i) (by omega)) fun v w1 h' => ?_
     obtain ⟨rfl, rfl⟩ := h'
     refine zm rfl (zx rfl rfl (zx rfl rfl ?_))
     refine WL.ev (Ev.ixB (i) rfl rfl (by omega) (by omega)) rfl ?_
     refine WL.storeU rfl rfl hb19 (by first | omega | (simp; omega)) fun ws22 hb19_ hcs22 => ?_
     have hch := hch.step hcs22 (fun y hy => .inr (by simp only [List.mem_singleton] at hy; subst hy; first | assumption | omega))
     have hb19 := hb19_
     refine za rfl ?_
     refine WL.nil (kr26 _ _ _ (kh17 ?_))
     refine CW.region fun kR27 kr27 => ?_
     first | refine WL.ev (Ev.addIn rfl rfl (by omega)) rfl ?_ | refine WL.ev (Ev.add rfl rfl) rfl ?_
     refine zm rfl ?_
     refine WL.nil (kr27 _ _ _ ?_)
     refine ⟨rfl, (i + 1, L.set i ((X.getD i 0 + Y.getD i 0 + c) % 4294967296), (X.getD i 0 + Y.getD i 0 + c) / 4294967296), ?_, ?_, ?_⟩
     ·
      exact SLp
     ·
      exact ⟨hAd.step hWX hWY (by omega), hb19, hch⟩
     ·
      show X.length - (i + 1) < X.length - i; omega
    ·
     try simp only [qs] at hc3
     have e0 : Value.int IntKind.u32 0 = Value.int IntKind.u32 ((Y.getD i 0 : Nat) : Int) := by rw [getD_out (by omega)]; rfl
     rw [e0]
     refine CW.skip ?_
     refine kh22 ?_
     refine CW.region fun kR28 kr28 => ?_
     refine zm rfl (zm rfl (zm rfl (zm rfl ?_)))
     refine WL.ev (Ev.ixR (i) rfl rfl (hrX.keep0 hch) (by omega) (by omega) (by simp; omega)) rfl ?_
     refine WL.ev (Ev.load rfl rfl ((hrX.keep0 hch).u32 (by first | omega | (simp; omega)))) rfl ?_
     have hw39 := hWX.getD (i)
     refine zm rfl (zm rfl ?_)
     refine WL.call hasF100 rfl rfl (Add32_spec (X.getD i 0) (Y.getD i 0) c _ (hWX.getD i) (hWY.getD i) (by omega)) fun v w2 h' => ?_
     obtain ⟨rfl, rfl⟩ := h'
     refine zm rfl (zx rfl rfl (zx rfl rfl ?_))
     refine WL.ev (Ev.ixB (i) rfl rfl (by omega) (by omega)) rfl ?_
     refine WL.storeU rfl rfl hb19 (by first | omega | (simp; omega)) fun ws23 hb19_ hcs23 => ?_
     have hch := hch.step hcs23 (fun y hy => .inr (by simp only [List.mem_singleton] at hy; subst hy; first | assumption | omega))
     have hb19 := hb19_
     refine za rfl ?_
     refine WL.nil (kr28 _ _ _ (kh17 ?_))
     refine CW.region fun kR29 kr29 => ?_
     first | refine WL.ev (Ev.addIn rfl rfl (by omega)) rfl ?_ | refine WL.ev (Ev.add rfl rfl) rfl ?_
     refine zm rfl ?_
     refine WL.nil (kr29 _ _ _ ?_)
     refine ⟨rfl, (i + 1, L.set i ((X.getD i 0 + Y.getD i 0 + c) % 4294967296), (X.getD i 0 + Y.getD i 0 + c) / 4294967296), ?_, ?_, ?_⟩
     ·
      exact SLp
     ·
      exact ⟨hAd.step hWX hWY (by omega), hb19, hch⟩
     ·
      show X.length - (i + 1) < X.length - i; omega
   ·
    try simp only [qs] at hc2
    refine CW.exit ?_
    refine kh11 (zc fun _ kh30 => ?_)
    have hiX2 : i = X.length := by omega
    subst hiX2
    obtain ⟨hv9, hW9, hl9⟩ := hAd.done hYX
    rw [hXY] at hv9
    refine CW.region fun kR31 kr31 => ?_
    refine zm rfl (zm rfl (zn rfl (zm rfl ?_)))
    refine WL.ev (Ev.ixB (X.length) rfl rfl (by omega) (by omega)) rfl ?_
    refine WL.storeU rfl rfl hb19 (by first | omega | (simp; omega)) fun ws24 hb19_ hcs24 => ?_
    have hch := hch.step hcs24 (fun y hy => .inr (by simp only [List.mem_singleton] at hy; subst hy; first | assumption | omega))
    have hb19 := hb19_
    refine WL.nil (kr31 _ _ _ (kh30 ?_))
    refine Sr fun _ kh32 => zm rfl (za rfl (zz (kh32 ?_)))
    refine CW.ret ?_
    refine bodyA.ret1 rfl rfl ?_
    exact ⟨_, NU.of_block hb19 hW9 (by rw [hl9]; omega) (by rw [hl9]) (Nat.le_refl _), hv9, hch⟩

end Go.Proofs.YtphnpchmdpjabaaGreatDoor

/- Package dyad: Add, Sub, Mul, Neg, Sign. No condition. -/
namespace Go.Proofs.YtphnpchmdpjabaaGreatDoor
open Go Sx Wd

theorem shift_fits {m k : Nat} (h0 : m ≠ 0) : (m = 0 ∨ (k : Int) ≤ 262144 - (bl m : Int)) ↔ (wd (m * 2 ^ k)).length ≤ 8192 := by
  have h := bl_words (n := m * 2 ^ k) (k := 8192)
  rw [bl_mul_pow h0] at h
  omega
theorem addD_eq {x y : Dy} {p q : Nat} (h1 : x.m ≠ 0) (h2 : y.m ≠ 0) (hp : p = x.m * 2 ^ (x.e - min x.e y.e).toNat) (hq : q = y.m * 2 ^ (y.e - min x.e y.e).toNat) :
    addD x y = if 8192 < (wd p).length ∨ 8192 < (wd q).length then none else if x.neg = y.neg then formD x.neg (p + q) (min x.e y.e) else if p < q then formD y.neg (q - p) (min x.e y.e) else formD x.neg (p - q) (min x.e y.e) := by
  subst hp; subst hq
  unfold addD
  rw [if_neg h1, if_neg h2]

set_option maxRecDepth 4000 in
set_option maxHeartbeats 1000000 in
theorem Add_dspec (na nb : Bool) (va vb : Value) (la lb : List Nat) (ea eb : Int) (w : World) (ha : NU w va la) (hb : NU w vb lb) (hg : GW w) (hea : -9223372036854775808 ≤ ea ∧ ea ≤ 9223372036854775807) (heb : -9223372036854775808 ≤ eb ∧ eb ≤ 9223372036854775807) : Ret Tryz.prog 17 [.agg [.bool na, va, .int .i64 ea].toArray, .agg [.bool nb, vb, .int .i64 eb].toArray] w fun u w' => DR w' u (both2 addD (formD na (val la) ea) (formD nb (val lb) eb)) ∧ Chg [] w w' := by
 have hch : Chg [] w w := Chg.refl _ _
 have hoa := ha.one
 have hob := hb.one
 refine Ret.enter Tryz.func17 rfl rfl ?_
 simp only [args0, Nat.zero_add, Nat.reduceAdd]
 refine Sr fun _ kh1 => ?_
 refine WL.boxB rfl rfl rfl fun b2 wm2 hb2 hcm2 hge2 => ?_
 have hgehch2 := Nat.le_trans hch.size hge2
 have hch := hch.trans hcm2
 have ha := ha.keep0 hcm2
 have hb := hb.keep0 hcm2
 refine WL.boxB rfl rfl rfl fun b3 wm3 hb3 hcm3 hge3 => ?_
 have hgehch3 := Nat.le_trans hch.size hge3
 have hch := hch.trans hcm3
 have ha := ha.keep0 hcm3
 have hb := hb.keep0 hcm3
 have hneb23 : b2 ≠ b3 := by have := hb2.lt; omega
 have hb2 := hb2.keep0 hcm3
 refine WL.allocB (l := [.bool false, .slice none 0 0, .int .i64 0]) rfl rfl fun b4 wm4 hb4 hcm4 hge4 => ?_
 have hgehch4 := Nat.le_trans hch.size hge4
 have hch := hch.trans hcm4
 have ha := ha.keep0 hcm4
 have hb := hb.keep0 hcm4
 have hneb24 : b2 ≠ b4 := by have := hb2.lt; omega
 have hb2 := hb2.keep0 hcm4
 have hneb34 : b3 ≠ b4 := by have := hb3.lt; omega
 have hb3 := hb3.keep0 hcm4
 refine za rfl (zz (kh1 (Sr fun _ kh3 => zg hb2 rfl (zg hb3 rfl ?_))))
 refine WL.call hasF47 rfl rfl (dboth_spec na nb va vb la lb ea eb _ ha hb (hg.keep0 hch) hea heb) fun v w1 h' => ?_
 obtain ⟨hB, hC1⟩ := h'
 have hch := hch.trans hC1
 have hb2 := hb2.keep0 hC1
 have hb3 := hb3.keep0 hC1
 have hb4 := hb4.keep0 hC1
 have ha := ha.keep0 hC1
 have hb := hb.keep0 hC1
 rcases hB with ⟨d1, d2, r1, r2, hd1, hd2, rfl, hNr1, hNr2⟩ | ⟨hno, n1, v1, e1, n2, v2, e2, rfl, hv1, hv2⟩
 ·
  have hok1 := formD_ok hd1
  have hok2 := formD_ok hd2
  have he1 := hok1.e
  have he2 := hok2.e
  have hl1 := hok1.len
  have hl2 := hok2.len
  obtain ⟨⟨a1, c1, rfl, hcap1, hr1⟩, hW1, hl1⟩ := hNr1
  have hNr1 : NU _ (.slice a1 (wd d1.m).length c1) (wd d1.m) := NU.of_row hr1 hW1 hl1 rfl hcap1
  obtain ⟨⟨a2, c2, rfl, hcap2, hr2⟩, hW2, hl2⟩ := hNr2
  have hNr2 : NU _ (.slice a2 (wd d2.m).length c2) (wd d2.m) := NU.of_row hr2 hW2 hl2 rfl hcap2
  have hw1 : (wd d1.m).length = 0 ↔ d1.m = 0 := by rw [List.length_eq_zero_iff, wd_eq_nil]
  have hw2 : (wd d2.m).length = 0 ↔ d2.m = 0 := by rw [List.length_eq_zero_iff, wd_eq_nil]
  refine zm rfl (zx rfl rfl (zx rfl rfl (zx rfl rfl ?_)))
  refine WL.allocB (l := [.bool false, .slice none 0 0, .int .i64 0]) rfl rfl fun b6 wm6 hb6 hcm6 hge6 => ?_
  have hgehch6 := Nat.le_trans hch.size hge6
  have hch := hch.trans hcm6
  have ha := ha.keep0 hcm6
  have hb := hb.keep0 hcm6
  have hNr1 := hNr1.keep0 hcm6
  have hNr2 := hNr2.keep0 hcm6
  have hneb26 : b2 ≠ b6 := by have := hb2.lt; omega
  have hb2 := hb2.keep0 hcm6
  have hneb36 : b3 ≠ b6 := by have := hb3.lt; omega
  have hb3 := hb3.keep0 hcm6
  have hneb46 : b4 ≠ b6 := by have := hb4.lt; omega
  have hb4 := hb4.keep0 hcm6
  refine WL.allocB (l := [.bool false, .slice none 0 0, .int .i64 0]) rfl rfl fun b7 wm7 hb7 hcm7 hge7 => ?_
  have hgehch7 := Nat.le_trans hch.size hge7
  have hch := hch.trans hcm7
  have ha := ha.keep0 hcm7
  have hb := hb.keep0 hcm7
  have hNr1 := hNr1.keep0 hcm7
  have hNr2 := hNr2.keep0 hcm7
  have hneb27 : b2 ≠ b7 := by have := hb2.lt; omega
  have hb2 := hb2.keep0 hcm7
  have hneb37 : b3 ≠ b7 := by have := hb3.lt; omega
  have hb3 := hb3.keep0 hcm7
  have hneb47 : b4 ≠ b7 := by have := hb4.lt; omega
  have hb4 := hb4.keep0 hcm7
  have hneb67 : b6 ≠ b7 := by have := hb6.lt; omega
  have hb6 := hb6.keep0 hcm7
  refine WL.storeB rfl rfl rfl ao hb6 (by simp) rfl fun ws25 hb6_ hcs25 => ?_
  try simp only [Sx.splice, qt] at hb6_
  have hch := hch.step hcs25 (fun y hy => .inr (by simp only [List.mem_singleton] at hy; subst hy; first | assumption | omega))
  have hb2 := hb2.keep hcs25 (by simp; omega)
  have hb3 := hb3.keep hcs25 (by simp; omega)
  have hb4 := hb4.keep hcs25 (by simp; omega)
  have hb7 := hb7.keep hcs25 (by simp; omega)
  have ha := ha.keepBK hb6 hcs25 an
  have hb := hb.keepBK hb6 hcs25 an
  have hNr1 := hNr1.keepBK hb6 hcs25 an
  have hNr2 := hNr2.keepBK hb6 hcs25 an
  have hb6 := hb6_
  refine WL.storeB rfl rfl rfl ao hb7 (by simp) rfl fun ws26 hb7_ hcs26 => ?_
  try simp only [Sx.splice, qt] at hb7_
  have hch := hch.step hcs26 (fun y hy => .inr (by simp only [List.mem_singleton] at hy; subst hy; first | assumption | omega))
  have hb2 := hb2.keep hcs26 (by simp; omega)
  have hb3 := hb3.keep hcs26 (by simp; omega)
  have hb4 := hb4.keep hcs26 (by simp; omega)
  have hb6 := hb6.keep hcs26 (by simp; omega)
  have ha := ha.keepBK hb7 hcs26 an
  have hb := hb.keepBK hb7 hcs26 an
  have hNr1 := hNr1.keepBK hb7 hcs26 an
  have hNr2 := hNr2.keepBK hb7 hcs26 an
  have hb7 := hb7_
  refine za rfl (zz (kh3 (zc fun _ kh5 => ?_)))
  refine CW.block ?_
  refine Sr fun _ kh6 => zm rfl ?_
  refine WL.ev (Ev.neq rfl rfl) rfl ?_
  refine za rfl (zz (kh6 ?_))
  refine CW.condF rfl ?_
  refine Sr fun _ kh8 => zf rfl (zl hb6 rfl rfl (zn rfl (zq rfl rfl (za rfl (zz (kh8 ?_))))))
  refine CW.cond rfl (fun hc1 => ?_) (fun hc1 => ?_)
  ·
   try simp only [qs] at hc1
   have h01 : d1.m = 0 := by omega
   refine Sr fun _ kh10 => zg hb7 rfl ?_
   refine WL.storeB rfl rfl rfl ao hb4 (by simp) rfl fun ws27 hb4_ hcs27 => ?_
   try simp only [Sx.splice, qt] at hb4_
   have hch := hch.step hcs27 (fun y hy => .inr (by simp only [List.mem_singleton] at hy; subst hy; first | assumption | omega))
   have hb2 := hb2.keep hcs27 (by simp; omega)
   have hb3 := hb3.keep hcs27 (by simp; omega)
   have hb6 := hb6.keep hcs27 (by simp; omega)
   have hb7 := hb7.keep hcs27 (by simp; omega)
   have ha := ha.keepBK hb4 hcs27 an
   have hb := hb.keepBK hb4 hcs27 an
   have hNr1 := hNr1.keepBK hb4 hcs27 an
   have hNr2 := hNr2.keepBK hb4 hcs27 an
   have hb4 := hb4_
   refine za rfl (zz (kh10 ?_))
   refine CW.ret ?_
   refine bodyA.retR2 rfl (RVal.cell rfl (hb4.varA rfl rfl)) (RVal.tmp rfl) ?_
   rw [hd1, hd2]
   exact ⟨.inl ⟨_, d2, by show addD d1 d2 = _; unfold addD; rw [if_pos h01], rfl, hNr2⟩, hch⟩
  ·
   try simp only [qs] at hc1
   have h01 : d1.m ≠ 0 := by omega
   refine Sr fun _ kh12 => zf rfl (zl hb7 rfl rfl (zn rfl (zq rfl rfl (za rfl (zz (kh12 ?_))))))
   refine CW.cond rfl (fun hc2 => ?_) (fun hc2 => ?_)
   ·
    try simp only [qs] at hc2
    have h02 : d2.m = 0 := by omega
    refine Sr fun _ kh14 => zg hb6 rfl ?_
    refine WL.storeB rfl rfl rfl ao hb4 (by simp) rfl fun ws28 hb4_ hcs28 => ?_
    try simp only [Sx.splice, qt] at hb4_
    have hch := hch.step hcs28 (fun y hy => .inr (by simp only [List.mem_singleton] at hy; subst hy; first | assumption | omega))
    have hb2 := hb2.keep hcs28 (by simp; omega)
    have hb3 := hb3.keep hcs28 (by simp; omega)
    have hb6 := hb6.keep hcs28 (by simp; omega)
    have hb7 := hb7.keep hcs28 (by simp; omega)
    have ha := ha.keepBK hb4 hcs28 an
    have hb := hb.keepBK hb4 hcs28 an
    have hNr1 := hNr1.keepBK hb4 hcs28 an
    have hNr2 := hNr2.keepBK hb4 hcs28 an
    have hb4 := hb4_
    refine za rfl (zz (kh14 ?_))
    refine CW.ret ?_
    refine bodyA.retR2 rfl (RVal.cell rfl (hb4.varA rfl rfl)) (RVal.tmp rfl) ?_
    rw [hd1, hd2]
    exact ⟨.inl ⟨_, d1, by show addD d1 d2 = _; unfold addD; rw [if_neg h01, if_pos h02], rfl, hNr1⟩, hch⟩
   ·
    try simp only [qs] at hc2
    have h02 : d2.m ≠ 0 := by omega
    refine CW.skip ?_
    refine kh5 (Sr fun _ kh16 => zf rfl (zl hb6 rfl rfl (zf rfl (zl hb7 rfl rfl ?_))))
    refine WL.ev (Ev.minI rfl rfl) rfl ?_
    refine za rfl (zz (kh16 (Sr fun _ kh18 => zf rfl (zl hb6 rfl rfl (zf rfl (zl hb6 rfl rfl (zm rfl ?_)))))))
    refine WL.ev (Ev.subIn rfl rfl (by omega)) rfl ?_
    refine WL.call hasF48 rfl rfl (Shift_spec _ _ _ _ hNr1 (by omega)) fun v w2 h' => ?_
    obtain ⟨hD3, hC3⟩ := h'
    rw [val_wd, show d1.e - min d1.e d2.e = ((d1.e - min d1.e d2.e).toNat : Int) by omega, shiftN_pos] at hD3
    obtain ⟨p, hp⟩ : ∃ p, p = d1.m * 2 ^ (d1.e - min d1.e d2.e).toNat := ⟨_, rfl⟩
    rw [← hp] at hD3
    have hch := hch.trans hC3
    have hb2 := hb2.keep0 hC3
    have hb3 := hb3.keep0 hC3
    have hb4 := hb4.keep0 hC3
    have hb6 := hb6.keep0 hC3
    have hb7 := hb7.keep0 hC3
    have ha := ha.keep0 hC3
    have hb := hb.keep0 hC3
    have hNr1 := hNr1.keep0 hC3
    have hNr2 := hNr2.keep0 hC3
    rw [shift_fits h01, ← hp] at hD3
    rcases hD3 with ⟨⟨_, hp8⟩, rp, rfl, hNp⟩ | ⟨hp8, rfl⟩
    ·
     refine zm rfl (zx rfl rfl (zx rfl rfl (za rfl (za rfl (zz (kh18 (Sr fun _ kh20 => zf rfl (zl hb7 rfl rfl (zf rfl (zl hb7 rfl rfl (zm rfl ?_)))))))))))
     refine WL.ev (Ev.subIn rfl rfl (by omega)) rfl ?_
     refine WL.call hasF48 rfl rfl (Shift_spec _ _ _ _ hNr2 (by omega)) fun v w3 h' => ?_
     obtain ⟨hD4, hC4⟩ := h'
     rw [val_wd, show d2.e - min d1.e d2.e = ((d2.e - min d1.e d2.e).toNat : Int) by omega, shiftN_pos] at hD4
     obtain ⟨q, hq⟩ : ∃ q, q = d2.m * 2 ^ (d2.e - min d1.e d2.e).toNat := ⟨_, rfl⟩
     rw [← hq] at hD4
     have hch := hch.trans hC4
     have hb2 := hb2.keep0 hC4
     have hb3 := hb3.keep0 hC4
     have hb4 := hb4.keep0 hC4
     have hb6 := hb6.keep0 hC4
     have hb7 := hb7.keep0 hC4
     have ha := ha.keep0 hC4
     have hb := hb.keep0 hC4
     have hNr1 := hNr1.keep0 hC4
     have hNr2 := hNr2.keep0 hC4
     have hNp := hNp.keep0 hC4
     rw [shift_fits h02, ← hq] at hD4
     rcases hD4 with ⟨⟨_, hq8⟩, rq, rfl, hNq⟩ | ⟨hq8, rfl⟩
     ·
      refine zm rfl (zx rfl rfl (zx rfl rfl (za rfl (za rfl (zz (kh20 (zc fun _ kh22 => ?_)))))))
      refine CW.block ?_
      refine Sr fun _ kh23 => zm rfl ?_
      refine WL.ev (Ev.neq rfl rfl) rfl ?_
      refine zm rfl (zw rfl (zm rfl (zw rfl ?_)))
      refine WL.ev (Ev.neq rfl rfl) rfl ?_
      refine ze rfl rfl (za rfl (zz (kh23 ?_)))
      refine CW.condF rfl ?_
      refine Sr fun _ kh25 => zf rfl (zl hb6 rfl rfl (zf rfl (zl hb7 rfl rfl ?_)))
      refine WL.ev (Ev.eql_bool rfl rfl) rfl ?_
      refine za rfl (zz (kh25 ?_))
      refine CW.cond rfl (fun hc3 => ?_) (fun hc3 => ?_)
      ·
       try simp only [qs] at hc3
       have hsg : d1.neg = d2.neg := by simpa using hc3
       refine zc fun _ kh27 => ?_
       refine CW.regionKC 9 11 rfl hmix fun kR28 kr28 hS hdr => ?_
       have hch := hch.trans hdr
       have hb2 := hb2.keep0 hdr
       have hb3 := hb3.keep0 hdr
       have hb4 := hb4.keep0 hdr
       have hb6 := hb6.keep0 hdr
       have hb7 := hb7.keep0 hdr
       have ha := ha.keep0 hdr
       have hb := hb.keep0 hdr
       have hNr1 := hNr1.keep0 hdr
       have hNr2 := hNr2.keep0 hdr
       have hNp := hNp.keep0 hdr
       have hNq := hNq.keep0 hdr
       have hch_r := hch
       have hb2_r := hb2
       have hb3_r := hb3
       have hb4_r := hb4
       have hb6_r := hb6
       have hb7_r := hb7
       refine wk 0 rfl hS (fun _ _ => Ev.fieldAddr rfl) (wk 1 rfl hS (fun _ hw' => Ev.load rfl rfl ((hb6_r.keep0 hw').at_ rfl)) (wk 2 rfl hS (fun _ _ => Ev.move rfl) (wk 3 rfl hS (fun _ _ => Ev.move rfl) (wk 5 rfl hS (fun _ _ => Ev.move rfl) ?_))))
       refine WK.oneCall 4 rfl (by kernel_rfl) hasF49 rfl rfl (dsum_spec _ _ _ _ _ hNp hNq (by omega) (by omega)) fun v w4 h' => ?_
       obtain ⟨L, hNL, hvL, hC82⟩ := h'
       rw [val_wd, val_wd] at hvL
       have hch := hch.trans hC82
       have hb2 := hb2.keep0 hC82
       have hb3 := hb3.keep0 hC82
       have hb4 := hb4.keep0 hC82
       have hb6 := hb6.keep0 hC82
       have hb7 := hb7.keep0 hC82
       have ha := ha.keep0 hC82
       have hb := hb.keep0 hC82
       have hNr1 := hNr1.keep0 hC82
       have hNr2 := hNr2.keep0 hC82
       have hNp := hNp.keep0 hC82
       have hNq := hNq.keep0 hC82
       have hS := hS.trans hC82
       refine ⟨hS, ?_⟩
       refine WK.oneCall 6 rfl (by kernel_rfl) hasF45 rfl rfl (form_spec _ _ _ _ _ hNL (hg.keep0 hch) (by omega)) fun v w5 h' => ?_
       obtain ⟨hD84, hC84⟩ := h'
       have hch := hch.trans hC84
       have hb2 := hb2.keep0 hC84
       have hb3 := hb3.keep0 hC84
       have hb4 := hb4.keep0 hC84
       have hb6 := hb6.keep0 hC84
       have hb7 := hb7.keep0 hC84
       have ha := ha.keep0 hC84
       have hb := hb.keep0 hC84
       have hNr1 := hNr1.keep0 hC84
       have hNr2 := hNr2.keep0 hC84
       have hNp := hNp.keep0 hC84
       have hNq := hNq.keep0 hC84
       have hNL := hNL.keep0 hC84
       have hS := hS.trans hC84
       refine ⟨hS, ?_⟩
       rcases hD84 with ⟨r, d, hd, rfl, hNr⟩ | ⟨hd, rfl⟩
       ·
        refine wk 7 rfl hS (fun _ _ => Ev.extract rfl rfl) (wk 8 rfl hS (fun _ _ => Ev.extract rfl rfl) ?_)
        refine WK.storeB 9 rfl (by kernel_rfl) (by kernel_rfl) rfl rfl rfl ao hb4 (by simp) rfl fun ws29 hb4_ hcs29 => ?_
        try simp only [Sx.splice, qt] at hb4_
        have hch := hch.step hcs29 (fun y hy => .inr (by simp only [List.mem_singleton] at hy; subst hy; first | assumption | omega))
        have hb2 := hb2.keep hcs29 (by simp; omega)
        have hb3 := hb3.keep hcs29 (by simp; omega)
        have hb6 := hb6.keep hcs29 (by simp; omega)
        have hb7 := hb7.keep hcs29 (by simp; omega)
        have ha := ha.keepBK hb4 hcs29 an
        have hb := hb.keepBK hb4 hcs29 an
        have hNr1 := hNr1.keepBK hb4 hcs29 an
        have hNr2 := hNr2.keepBK hb4 hcs29 an
        have hNp := hNp.keepBK hb4 hcs29 an
        have hNq := hNq.keepBK hb4 hcs29 an
        have hNL := hNL.keepBK hb4 hcs29 an
        have hNr := hNr.keepBK hb4 hcs29 an
        have hb4 := hb4_
        refine WK.after 10 rfl (by kernel_rfl) (by kernel_rfl) (Ev.assign rfl) rfl ?_
        refine WK.done (by kernel_rfl) (kr28 _ _ _ ?_)
        refine kh27 ?_
        refine CW.ret ?_
        refine bodyA.retR2 rfl (RVal.cell rfl (hb4.varA rfl rfl)) (RVal.tmp rfl) ?_
        rw [hd1, hd2]
        exact ⟨.inl ⟨r, d, by rw [hvL] at hd; show addD d1 d2 = _; rw [addD_eq h01 h02 hp hq, if_neg (by omega), if_pos hsg]; exact hd, rfl, hNr⟩, hch⟩
       ·
        refine wk 7 rfl hS (fun _ _ => Ev.extract rfl rfl) (wk 8 rfl hS (fun _ _ => Ev.extract rfl rfl) ?_)
        refine WK.storeB 9 rfl (by kernel_rfl) (by kernel_rfl) rfl rfl rfl ao hb4 (by simp) rfl fun ws30 hb4_ hcs30 => ?_
        try simp only [Sx.splice, qt] at hb4_
        have hch := hch.step hcs30 (fun y hy => .inr (by simp only [List.mem_singleton] at hy; subst hy; first | assumption | omega))
        have hb2 := hb2.keep hcs30 (by simp; omega)
        have hb3 := hb3.keep hcs30 (by simp; omega)
        have hb6 := hb6.keep hcs30 (by simp; omega)
        have hb7 := hb7.keep hcs30 (by simp; omega)
        have ha := ha.keepBK hb4 hcs30 an
        have hb := hb.keepBK hb4 hcs30 an
        have hNr1 := hNr1.keepBK hb4 hcs30 an
        have hNr2 := hNr2.keepBK hb4 hcs30 an
        have hNp := hNp.keepBK hb4 hcs30 an
        have hNq := hNq.keepBK hb4 hcs30 an
        have hNL := hNL.keepBK hb4 hcs30 an
        have hb4 := hb4_
        refine WK.after 10 rfl (by kernel_rfl) (by kernel_rfl) (Ev.assign rfl) rfl ?_
        refine WK.done (by kernel_rfl) (kr28 _ _ _ ?_)
        refine kh27 ?_
        refine CW.ret ?_
        refine bodyA.retR2 rfl (RVal.cell rfl (hb4.varA rfl rfl)) (RVal.tmp rfl) ?_
        rw [hd1, hd2]
        exact ⟨.inr ⟨by rw [hvL] at hd; show addD d1 d2 = _; rw [addD_eq h01 h02 hp hq, if_neg (by omega), if_pos hsg]; exact hd, rfl⟩, hch⟩
      ·
       try simp only [qs] at hc3
       have hsg : d1.neg ≠ d2.neg := by simpa using hc3
       refine Sr fun _ kh29 => zm rfl (zm rfl ?_)
       refine WL.call hasF50 rfl rfl (Cmp_spec _ _ _ _ _ hNp hNq) fun v w6 h' => ?_
       obtain ⟨rfl, hC90⟩ := h'
       rw [val_wd, val_wd]
       have hch := hch.trans hC90
       have hb2 := hb2.keep0 hC90
       have hb3 := hb3.keep0 hC90
       have hb4 := hb4.keep0 hC90
       have hb6 := hb6.keep0 hC90
       have hb7 := hb7.keep0 hC90
       have ha := ha.keep0 hC90
       have hb := hb.keep0 hC90
       have hNr1 := hNr1.keep0 hC90
       have hNr2 := hNr2.keep0 hC90
       have hNp := hNp.keep0 hC90
       have hNq := hNq.keep0 hC90
       refine WL.ev (Ev.lss rfl rfl) rfl ?_
       refine za rfl (zz (kh29 ?_))
       refine CW.cond rfl (fun hc4 => ?_) (fun hc4 => ?_)
       ·
        try simp only [qs] at hc4
        have hpq : p < q := by
         apply Classical.byContradiction; intro hn; unfold sgn at hc4; rw [if_neg hn] at hc4; split at hc4 <;> omega
        refine CW.region fun kR31 kr31 => ?_
        refine zg hb7 rfl (zm rfl (zm rfl ?_))
        refine WL.storeB rfl rfl rfl ao hb6 (by simp) rfl fun ws31 hb6_ hcs31 => ?_
        try simp only [Sx.splice, qt] at hb6_
        have hch := hch.step hcs31 (fun y hy => .inr (by simp only [List.mem_singleton] at hy; subst hy; first | assumption | omega))
        have hb2 := hb2.keep hcs31 (by simp; omega)
        have hb3 := hb3.keep hcs31 (by simp; omega)
        have hb4 := hb4.keep hcs31 (by simp; omega)
        have hb7 := hb7.keep hcs31 (by simp; omega)
        have ha := ha.keepBK hb6 hcs31 an
        have hb := hb.keepBK hb6 hcs31 an
        have hNr1 := hNr1.keepBK hb6 hcs31 an
        have hNr2 := hNr2.keepBK hb6 hcs31 an
        have hNp := hNp.keepBK hb6 hcs31 an
        have hNq := hNq.keepBK hb6 hcs31 an
        have hb6 := hb6_
        refine za rfl (za rfl ?_)
        refine WL.nil (kr31 _ _ _ (kh22 ?_))
        refine Sr fun _ kh32 => zm rfl (zm rfl ?_)
        refine WL.call hasF51 rfl rfl (Sub_spec _ _ _ _ _ hNq hNp) fun v w7 h' => ?_
        obtain ⟨hD98, hC98⟩ := h'
        rw [val_wd, val_wd] at hD98
        rcases hD98 with ⟨_, _, _, rs, rfl, hNs⟩ | ⟨hno, _⟩ | ⟨_, hno, _⟩
        rotate_left
        · omega
        · omega
        have hch := hch.trans hC98
        have hb2 := hb2.keep0 hC98
        have hb3 := hb3.keep0 hC98
        have hb4 := hb4.keep0 hC98
        have hb6 := hb6.keep0 hC98
        have hb7 := hb7.keep0 hC98
        have ha := ha.keep0 hC98
        have hb := hb.keep0 hC98
        have hNr1 := hNr1.keep0 hC98
        have hNr2 := hNr2.keep0 hC98
        have hNp := hNp.keep0 hC98
        have hNq := hNq.keep0 hC98
        refine zm rfl (zx rfl rfl (zx rfl rfl (za rfl (za rfl (zz (kh32 (Sr fun _ kh34 => zf rfl (zl hb6 rfl rfl (zm rfl (zm rfl ?_))))))))))
        refine WL.call hasF45 rfl rfl (form_spec _ _ _ _ _ hNs (hg.keep0 hch) (by omega)) fun v w8 h' => ?_
        obtain ⟨hD105, hC105⟩ := h'
        have hch := hch.trans hC105
        have hb2 := hb2.keep0 hC105
        have hb3 := hb3.keep0 hC105
        have hb4 := hb4.keep0 hC105
        have hb6 := hb6.keep0 hC105
        have hb7 := hb7.keep0 hC105
        have ha := ha.keep0 hC105
        have hb := hb.keep0 hC105
        have hNr1 := hNr1.keep0 hC105
        have hNr2 := hNr2.keep0 hC105
        have hNp := hNp.keep0 hC105
        have hNq := hNq.keep0 hC105
        have hNs := hNs.keep0 hC105
        rcases hD105 with ⟨r, d, hd, rfl, hNr⟩ | ⟨hd, rfl⟩
        ·
         refine zx rfl rfl (zx rfl rfl ?_)
         refine WL.storeB rfl rfl rfl ao hb4 (by simp) rfl fun ws32 hb4_ hcs32 => ?_
         try simp only [Sx.splice, qt] at hb4_
         have hch := hch.step hcs32 (fun y hy => .inr (by simp only [List.mem_singleton] at hy; subst hy; first | assumption | omega))
         have hb2 := hb2.keep hcs32 (by simp; omega)
         have hb3 := hb3.keep hcs32 (by simp; omega)
         have hb6 := hb6.keep hcs32 (by simp; omega)
         have hb7 := hb7.keep hcs32 (by simp; omega)
         have ha := ha.keepBK hb4 hcs32 an
         have hb := hb.keepBK hb4 hcs32 an
         have hNr1 := hNr1.keepBK hb4 hcs32 an
         have hNr2 := hNr2.keepBK hb4 hcs32 an
         have hNp := hNp.keepBK hb4 hcs32 an
         have hNq := hNq.keepBK hb4 hcs32 an
         have hNs := hNs.keepBK hb4 hcs32 an
         have hNr := hNr.keepBK hb4 hcs32 an
         have hb4 := hb4_
         refine za rfl (zz (kh34 ?_))
         refine CW.ret ?_
         refine bodyA.retR2 rfl (RVal.cell rfl (hb4.varA rfl rfl)) (RVal.tmp rfl) ?_
         rw [hd1, hd2]
         exact ⟨.inl ⟨r, d, by rw [val_wd] at hd; show addD d1 d2 = _; rw [addD_eq h01 h02 hp hq, if_neg (by omega), if_neg hsg, if_pos hpq]; exact hd, rfl, hNr⟩, hch⟩
        ·
         refine zx rfl rfl (zx rfl rfl ?_)
         refine WL.storeB rfl rfl rfl ao hb4 (by simp) rfl fun ws33 hb4_ hcs33 => ?_
         try simp only [Sx.splice, qt] at hb4_
         have hch := hch.step hcs33 (fun y hy => .inr (by simp only [List.mem_singleton] at hy; subst hy; first | assumption | omega))
         have hb2 := hb2.keep hcs33 (by simp; omega)
         have hb3 := hb3.keep hcs33 (by simp; omega)
         have hb6 := hb6.keep hcs33 (by simp; omega)
         have hb7 := hb7.keep hcs33 (by simp; omega)
         have ha := ha.keepBK hb4 hcs33 an
         have hb := hb.keepBK hb4 hcs33 an
         have hNr1 := hNr1.keepBK hb4 hcs33 an
         have hNr2 := hNr2.keepBK hb4 hcs33 an
         have hNp := hNp.keepBK hb4 hcs33 an
         have hNq := hNq.keepBK hb4 hcs33 an
         have hNs := hNs.keepBK hb4 hcs33 an
         have hb4 := hb4_
         refine za rfl (zz (kh34 ?_))
         refine CW.ret ?_
         refine bodyA.retR2 rfl (RVal.cell rfl (hb4.varA rfl rfl)) (RVal.tmp rfl) ?_
         rw [hd1, hd2]
         exact ⟨.inr ⟨by rw [val_wd] at hd; show addD d1 d2 = _; rw [addD_eq h01 h02 hp hq, if_neg (by omega), if_neg hsg, if_pos hpq]; exact hd, rfl⟩, hch⟩
       ·
        try simp only [qs] at hc4
        have hpq : ¬ p < q := fun hn => by unfold sgn at hc4; rw [if_pos hn] at hc4; omega
        refine CW.skip ?_
        refine kh22 (Sr fun _ kh36 => zm rfl (zm rfl ?_))
        refine WL.call hasF51 rfl rfl (Sub_spec _ _ _ _ _ hNp hNq) fun v w9 h' => ?_
        obtain ⟨hD98, hC98⟩ := h'
        rw [val_wd, val_wd] at hD98
        rcases hD98 with ⟨_, _, _, rs, rfl, hNs⟩ | ⟨hno, _⟩ | ⟨_, hno, _⟩
        rotate_left
        · omega
        · omega
        have hch := hch.trans hC98
        have hb2 := hb2.keep0 hC98
        have hb3 := hb3.keep0 hC98
        have hb4 := hb4.keep0 hC98
        have hb6 := hb6.keep0 hC98
        have hb7 := hb7.keep0 hC98
        have ha := ha.keep0 hC98
        have hb := hb.keep0 hC98
        have hNr1 := hNr1.keep0 hC98
        have hNr2 := hNr2.keep0 hC98
        have hNp := hNp.keep0 hC98
        have hNq := hNq.keep0 hC98
        refine zm rfl (zx rfl rfl (zx rfl rfl (za rfl (za rfl (zz (kh36 (Sr fun _ kh38 => zf rfl (zl hb6 rfl rfl (zm rfl (zm rfl ?_))))))))))
        refine WL.call hasF45 rfl rfl (form_spec _ _ _ _ _ hNs (hg.keep0 hch) (by omega)) fun v w10 h' => ?_
        obtain ⟨hD105, hC105⟩ := h'
        have hch := hch.trans hC105
        have hb2 := hb2.keep0 hC105
        have hb3 := hb3.keep0 hC105
        have hb4 := hb4.keep0 hC105
        have hb6 := hb6.keep0 hC105
        have hb7 := hb7.keep0 hC105
        have ha := ha.keep0 hC105
        have hb := hb.keep0 hC105
        have hNr1 := hNr1.keep0 hC105
        have hNr2 := hNr2.keep0 hC105
        have hNp := hNp.keep0 hC105
        have hNq := hNq.keep0 hC105
        have hNs := hNs.keep0 hC105
        rcases hD105 with ⟨r, d, hd, rfl, hNr⟩ | ⟨hd, rfl⟩
        ·
         refine zx rfl rfl (zx rfl rfl ?_)
         refine WL.storeB rfl rfl rfl ao hb4 (by simp) rfl fun ws34 hb4_ hcs34 => ?_
         try simp only [Sx.splice, qt] at hb4_
         have hch := hch.step hcs34 (fun y hy => .inr (by simp only [List.mem_singleton] at hy; subst hy; first | assumption | omega))
         have hb2 := hb2.keep hcs34 (by simp; omega)
         have hb3 := hb3.keep hcs34 (by simp; omega)
         have hb6 := hb6.keep hcs34 (by simp; omega)
         have hb7 := hb7.keep hcs34 (by simp; omega)
         have ha := ha.keepBK hb4 hcs34 an
         have hb := hb.keepBK hb4 hcs34 an
         have hNr1 := hNr1.keepBK hb4 hcs34 an
         have hNr2 := hNr2.keepBK hb4 hcs34 an
         have hNp := hNp.keepBK hb4 hcs34 an
         have hNq := hNq.keepBK hb4 hcs34 an
         have hNs := hNs.keepBK hb4 hcs34 an
         have hNr := hNr.keepBK hb4 hcs34 an
         have hb4 := hb4_
         refine za rfl (zz (kh38 ?_))
         refine CW.ret ?_
         refine bodyA.retR2 rfl (RVal.cell rfl (hb4.varA rfl rfl)) (RVal.tmp rfl) ?_
         rw [hd1, hd2]
         exact ⟨.inl ⟨r, d, by rw [val_wd] at hd; show addD d1 d2 = _; rw [addD_eq h01 h02 hp hq, if_neg (by omega), if_neg hsg, if_neg hpq]; exact hd, rfl, hNr⟩, hch⟩
        ·
         refine zx rfl rfl (zx rfl rfl ?_)
         refine WL.storeB rfl rfl rfl ao hb4 (by simp) rfl fun ws35 hb4_ hcs35 => ?_
         try simp only [Sx.splice, qt] at hb4_
         have hch := hch.step hcs35 (fun y hy => .inr (by simp only [List.mem_singleton] at hy; subst hy; first | assumption | omega))
         have hb2 := hb2.keep hcs35 (by simp; omega)
         have hb3 := hb3.keep hcs35 (by simp; omega)
         have hb6 := hb6.keep hcs35 (by simp; omega)
         have hb7 := hb7.keep hcs35 (by simp; omega)
         have ha := ha.keepBK hb4 hcs35 an
         have hb := hb.keepBK hb4 hcs35 an
         have hNr1 := hNr1.keepBK hb4 hcs35 an
         have hNr2 := hNr2.keepBK hb4 hcs35 an
         have hNp := hNp.keepBK hb4 hcs35 an
         have hNq := hNq.keepBK hb4 hcs35 an
         have hNs := hNs.keepBK hb4 hcs35 an
         have hb4 := hb4_
         refine za rfl (zz (kh38 ?_))
         refine CW.ret ?_
         refine bodyA.retR2 rfl (RVal.cell rfl (hb4.varA rfl rfl)) (RVal.tmp rfl) ?_
         rw [hd1, hd2]
         exact ⟨.inr ⟨by rw [val_wd] at hd; show addD d1 d2 = _; rw [addD_eq h01 h02 hp hq, if_neg (by omega), if_neg hsg, if_neg hpq]; exact hd, rfl⟩, hch⟩
     ·
      refine zm rfl (zx rfl rfl (zx rfl rfl (za rfl (za rfl (zz (kh20 (zc fun _ kh40 => ?_)))))))
      refine CW.block ?_
      refine Sr fun _ kh41 => zm rfl ?_
      refine WL.ev (Ev.neq rfl rfl) rfl ?_
      refine zm rfl (zw rfl (zm rfl (zw rfl ?_)))
      refine WL.ev (Ev.neq rfl rfl) rfl ?_
      refine ze rfl rfl (za rfl (zz (kh41 ?_)))
      refine CW.condT rfl ?_
      refine Sr fun _ kh43 => ?_
      refine WL.ev (Ev.build (vs := _) (cs := [_, _, _]) rfl rfl) rfl ?_
      refine WL.storeB rfl rfl rfl ao hb4 (by simp) rfl fun ws36 hb4_ hcs36 => ?_
      try simp only [Sx.splice, qt] at hb4_
      have hch := hch.step hcs36 (fun y hy => .inr (by simp only [List.mem_singleton] at hy; subst hy; first | assumption | omega))
      have hb2 := hb2.keep hcs36 (by simp; omega)
      have hb3 := hb3.keep hcs36 (by simp; omega)
      have hb6 := hb6.keep hcs36 (by simp; omega)
      have hb7 := hb7.keep hcs36 (by simp; omega)
      have ha := ha.keepBK hb4 hcs36 an
      have hb := hb.keepBK hb4 hcs36 an
      have hNr1 := hNr1.keepBK hb4 hcs36 an
      have hNr2 := hNr2.keepBK hb4 hcs36 an
      have hNp := hNp.keepBK hb4 hcs36 an
      have hb4 := hb4_
      refine za rfl (zz (kh43 ?_))
      refine CW.ret ?_
      refine bodyA.retR2 rfl (RVal.cell rfl (hb4.varA rfl rfl)) (RVal.tmp rfl) ?_
      rw [hd1, hd2]
      exact ⟨.inr ⟨by show addD d1 d2 = _; rw [addD_eq h01 h02 hp hq, if_pos (by omega)], rfl⟩, hch⟩
    ·
     refine zm rfl (zx rfl rfl (zx rfl rfl (za rfl (za rfl (zz (kh18 (Sr fun _ kh45 => zf rfl (zl hb7 rfl rfl (zf rfl (zl hb7 rfl rfl (zm rfl ?_)))))))))))
     refine WL.ev (Ev.subIn rfl rfl (by omega)) rfl ?_
     refine WL.call hasF48 rfl rfl (Shift_spec _ _ _ _ hNr2 (by omega)) fun v w11 h' => ?_
     obtain ⟨hD4, hC4⟩ := h'
     rw [val_wd, show d2.e - min d1.e d2.e = ((d2.e - min d1.e d2.e).toNat : Int) by omega, shiftN_pos] at hD4
     obtain ⟨q, hq⟩ : ∃ q, q = d2.m * 2 ^ (d2.e - min d1.e d2.e).toNat := ⟨_, rfl⟩
     rw [← hq] at hD4
     have hch := hch.trans hC4
     have hb2 := hb2.keep0 hC4
     have hb3 := hb3.keep0 hC4
     have hb4 := hb4.keep0 hC4
     have hb6 := hb6.keep0 hC4
     have hb7 := hb7.keep0 hC4
     have ha := ha.keep0 hC4
     have hb := hb.keep0 hC4
     have hNr1 := hNr1.keep0 hC4
     have hNr2 := hNr2.keep0 hC4
     rcases hD4 with ⟨_, rq, rfl, hNq⟩ | ⟨_, rfl⟩
     ·
      refine zm rfl (zx rfl rfl (zx rfl rfl (za rfl (za rfl (zz (kh45 (zc fun _ kh47 => ?_)))))))
      refine CW.block ?_
      refine Sr fun _ kh48 => zm rfl ?_
      refine WL.ev (Ev.neq rfl rfl) rfl ?_
      refine zm rfl (zv rfl (zv rfl (zt rfl rfl (za rfl (zz (kh48 ?_))))))
      refine CW.condT rfl ?_
      refine Sr fun _ kh50 => ?_
      refine WL.ev (Ev.build (vs := _) (cs := [_, _, _]) rfl rfl) rfl ?_
      refine WL.storeB rfl rfl rfl ao hb4 (by simp) rfl fun ws37 hb4_ hcs37 => ?_
      try simp only [Sx.splice, qt] at hb4_
      have hch := hch.step hcs37 (fun y hy => .inr (by simp only [List.mem_singleton] at hy; subst hy; first | assumption | omega))
      have hb2 := hb2.keep hcs37 (by simp; omega)
      have hb3 := hb3.keep hcs37 (by simp; omega)
      have hb6 := hb6.keep hcs37 (by simp; omega)
      have hb7 := hb7.keep hcs37 (by simp; omega)
      have ha := ha.keepBK hb4 hcs37 an
      have hb := hb.keepBK hb4 hcs37 an
      have hNr1 := hNr1.keepBK hb4 hcs37 an
      have hNr2 := hNr2.keepBK hb4 hcs37 an
      have hb4 := hb4_
      refine za rfl (zz (kh50 ?_))
      refine CW.ret ?_
      refine bodyA.retR2 rfl (RVal.cell rfl (hb4.varA rfl rfl)) (RVal.tmp rfl) ?_
      rw [hd1, hd2]
      exact ⟨.inr ⟨by show addD d1 d2 = _; rw [addD_eq h01 h02 hp hq, if_pos (by omega)], rfl⟩, hch⟩
     ·
      refine zm rfl (zx rfl rfl (zx rfl rfl (za rfl (za rfl (zz (kh45 (zc fun _ kh52 => ?_)))))))
      refine CW.block ?_
      refine Sr fun _ kh53 => zm rfl ?_
      refine WL.ev (Ev.neq rfl rfl) rfl ?_
      refine zm rfl (zv rfl (zv rfl (zt rfl rfl (za rfl (zz (kh53 ?_))))))
      refine CW.condT rfl ?_
      refine Sr fun _ kh55 => ?_
      refine WL.ev (Ev.build (vs := _) (cs := [_, _, _]) rfl rfl) rfl ?_
      refine WL.storeB rfl rfl rfl ao hb4 (by simp) rfl fun ws38 hb4_ hcs38 => ?_
      try simp only [Sx.splice, qt] at hb4_
      have hch := hch.step hcs38 (fun y hy => .inr (by simp only [List.mem_singleton] at hy; subst hy; first | assumption | omega))
      have hb2 := hb2.keep hcs38 (by simp; omega)
      have hb3 := hb3.keep hcs38 (by simp; omega)
      have hb6 := hb6.keep hcs38 (by simp; omega)
      have hb7 := hb7.keep hcs38 (by simp; omega)
      have ha := ha.keepBK hb4 hcs38 an
      have hb := hb.keepBK hb4 hcs38 an
      have hNr1 := hNr1.keepBK hb4 hcs38 an
      have hNr2 := hNr2.keepBK hb4 hcs38 an
      have hb4 := hb4_
      refine za rfl (zz (kh55 ?_))
      refine CW.ret ?_
      refine bodyA.retR2 rfl (RVal.cell rfl (hb4.varA rfl rfl)) (RVal.tmp rfl) ?_
      rw [hd1, hd2]
      exact ⟨.inr ⟨by show addD d1 d2 = _; rw [addD_eq h01 h02 hp hq, if_pos (by omega)], rfl⟩, hch⟩
 ·
  have hF : both2 addD (formD na (val la) ea) (formD nb (val lb) eb) = none := by rcases hno with hno | hno <;> rw [hno] <;> first | rfl | exact both2_none_right
  refine zm rfl (zx rfl rfl (zx rfl rfl (zx rfl rfl ?_)))
  refine WL.allocB (l := [.bool false, .slice none 0 0, .int .i64 0]) rfl rfl fun b6 wm6 hb6 hcm6 hge6 => ?_
  have hgehch6 := Nat.le_trans hch.size hge6
  have hch := hch.trans hcm6
  have ha := ha.keep0 hcm6
  have hb := hb.keep0 hcm6
  have hneb26 : b2 ≠ b6 := by have := hb2.lt; omega
  have hb2 := hb2.keep0 hcm6
  have hneb36 : b3 ≠ b6 := by have := hb3.lt; omega
  have hb3 := hb3.keep0 hcm6
  have hneb46 : b4 ≠ b6 := by have := hb4.lt; omega
  have hb4 := hb4.keep0 hcm6
  refine WL.allocB (l := [.bool false, .slice none 0 0, .int .i64 0]) rfl rfl fun b7 wm7 hb7 hcm7 hge7 => ?_
  have hgehch7 := Nat.le_trans hch.size hge7
  have hch := hch.trans hcm7
  have ha := ha.keep0 hcm7
  have hb := hb.keep0 hcm7
  have hneb27 : b2 ≠ b7 := by have := hb2.lt; omega
  have hb2 := hb2.keep0 hcm7
  have hneb37 : b3 ≠ b7 := by have := hb3.lt; omega
  have hb3 := hb3.keep0 hcm7
  have hneb47 : b4 ≠ b7 := by have := hb4.lt; omega
  have hb4 := hb4.keep0 hcm7
  have hneb67 : b6 ≠ b7 := by have := hb6.lt; omega
  have hb6 := hb6.keep0 hcm7
  refine WL.storeB rfl rfl rfl ao hb6 (by simp) rfl fun ws39 hb6_ hcs39 => ?_
  try simp only [Sx.splice, qt] at hb6_
  have hch := hch.step hcs39 (fun y hy => .inr (by simp only [List.mem_singleton] at hy; subst hy; first | assumption | omega))
  have hb2 := hb2.keep hcs39 (by simp; omega)
  have hb3 := hb3.keep hcs39 (by simp; omega)
  have hb4 := hb4.keep hcs39 (by simp; omega)
  have hb7 := hb7.keep hcs39 (by simp; omega)
  have ha := ha.keepBK hb6 hcs39 an
  have hb := hb.keepBK hb6 hcs39 an
  have hb6 := hb6_
  refine WL.storeB rfl rfl rfl ao hb7 (by simp) rfl fun ws40 hb7_ hcs40 => ?_
  try simp only [Sx.splice, qt] at hb7_
  have hch := hch.step hcs40 (fun y hy => .inr (by simp only [List.mem_singleton] at hy; subst hy; first | assumption | omega))
  have hb2 := hb2.keep hcs40 (by simp; omega)
  have hb3 := hb3.keep hcs40 (by simp; omega)
  have hb4 := hb4.keep hcs40 (by simp; omega)
  have hb6 := hb6.keep hcs40 (by simp; omega)
  have ha := ha.keepBK hb7 hcs40 an
  have hb := hb.keepBK hb7 hcs40 an
  have hb7 := hb7_
  refine za rfl (zz (kh3 (zc fun _ kh57 => ?_)))
  refine CW.block ?_
  refine Sr fun _ kh58 => zm rfl ?_
  refine WL.ev (Ev.neq rfl rfl) rfl ?_
  refine za rfl (zz (kh58 ?_))
  refine CW.condT rfl ?_
  refine Sr fun _ kh60 => ?_
  refine WL.ev (Ev.build (vs := _) (cs := [_, _, _]) rfl rfl) rfl ?_
  refine zm rfl ?_
  refine WL.storeB rfl rfl rfl ao hb4 (by simp) rfl fun ws41 hb4_ hcs41 => ?_
  try simp only [Sx.splice, qt] at hb4_
  have hch := hch.step hcs41 (fun y hy => .inr (by simp only [List.mem_singleton] at hy; subst hy; first | assumption | omega))
  have hb2 := hb2.keep hcs41 (by simp; omega)
  have hb3 := hb3.keep hcs41 (by simp; omega)
  have hb6 := hb6.keep hcs41 (by simp; omega)
  have hb7 := hb7.keep hcs41 (by simp; omega)
  have ha := ha.keepBK hb4 hcs41 an
  have hb := hb.keepBK hb4 hcs41 an
  have hb4 := hb4_
  refine za rfl (zz (kh60 ?_))
  refine CW.ret ?_
  refine bodyA.retR2 rfl (RVal.cell rfl (hb4.varA rfl rfl)) (RVal.tmp rfl) ?_
  rw [hF]
  exact ⟨.inr ⟨rfl, rfl⟩, hch⟩

end Go.Proofs.YtphnpchmdpjabaaGreatDoor

/- Package dyad: Sub, Mul, Neg, Sign. No condition. -/
namespace Go.Proofs.YtphnpchmdpjabaaGreatDoor
open Go Sx Wd

set_option maxRecDepth 4000 in
theorem Sub_dspec (na nb : Bool) (va vb : Value) (la lb : List Nat) (ea eb : Int) (w : World) (ha : NU w va la) (hb : NU w vb lb) (hg : GW w) (hea : -9223372036854775808 ≤ ea ∧ ea ≤ 9223372036854775807) (heb : -9223372036854775808 ≤ eb ∧ eb ≤ 9223372036854775807) : Ret Tryz.prog 57 [.agg [.bool na, va, .int .i64 ea].toArray, .agg [.bool nb, vb, .int .i64 eb].toArray] w fun u w' => DR w' u (both2 addD (formD na (val la) ea) (formD (!nb) (val lb) eb)) ∧ Chg [] w w' := by
 have hch : Chg [] w w := Chg.refl _ _
 have hoa := ha.one
 have hob := hb.one
 refine Ret.enter Tryz.func57 rfl rfl ?_
 simp only [args0, Nat.zero_add, Nat.reduceAdd]
 refine Sr fun _ kh1 => ?_
 refine WL.boxB rfl rfl rfl fun b2 wm2 hb2 hcm2 hge2 => ?_
 have hgehch2 := Nat.le_trans hch.size hge2
 have hch := hch.trans hcm2
 have ha := ha.keep0 hcm2
 have hb := hb.keep0 hcm2
 refine WL.boxB rfl rfl rfl fun b3 wm3 hb3 hcm3 hge3 => ?_
 have hgehch3 := Nat.le_trans hch.size hge3
 have hch := hch.trans hcm3
 have ha := ha.keep0 hcm3
 have hb := hb.keep0 hcm3
 have hneb23 : b2 ≠ b3 := by have := hb2.lt; omega
 have hb2 := hb2.keep0 hcm3
 refine WL.allocB (l := [.bool false, .slice none 0 0, .int .i64 0]) rfl rfl fun b4 wm4 hb4 hcm4 hge4 => ?_
 have hgehch4 := Nat.le_trans hch.size hge4
 have hch := hch.trans hcm4
 have ha := ha.keep0 hcm4
 have hb := hb.keep0 hcm4
 have hneb24 : b2 ≠ b4 := by have := hb2.lt; omega
 have hb2 := hb2.keep0 hcm4
 have hneb34 : b3 ≠ b4 := by have := hb3.lt; omega
 have hb3 := hb3.keep0 hcm4
 refine za rfl (zz (kh1 (Sr fun _ kh3 => zf rfl (zl hb3 rfl rfl ?_))))
 refine WL.ev (Ev.not rfl) rfl ?_
 refine zf rfl ?_
 refine WL.storeC rfl rfl o1 hb3 (by simp) rfl fun ws42 hb3_ hcs42 => ?_
 try simp only [Sx.splice, qt] at hb3_
 have hch := hch.step hcs42 (fun y hy => .inr (by simp only [List.mem_singleton] at hy; subst hy; first | assumption | omega))
 have hb2 := hb2.keep hcs42 (by simp; omega)
 have hb4 := hb4.keep hcs42 (by simp; omega)
 have ha := ha.keepBK hb3 hcs42 an
 have hb := hb.keepBK hb3 hcs42 an
 have hb3 := hb3_
 refine zz (kh3 (Sr fun _ kh5 => zg hb2 rfl (zg hb3 rfl ?_)))
 refine WL.call hasF17 rfl rfl (Add_dspec _ _ _ _ _ _ _ _ _ ha hb (hg.keep0 hch) hea heb) fun v w1 h' => ?_
 obtain ⟨hD12, hC12⟩ := h'
 have hch := hch.trans hC12
 have hb2 := hb2.keep0 hC12
 have hb3 := hb3.keep0 hC12
 have hb4 := hb4.keep0 hC12
 have ha := ha.keep0 hC12
 have hb := hb.keep0 hC12
 rcases hD12 with ⟨r, d, hd, rfl, hNr⟩ | ⟨hd, rfl⟩
 ·
  refine zx rfl rfl (zx rfl rfl ?_)
  refine WL.storeB rfl rfl rfl ao hb4 (by simp) rfl fun ws43 hb4_ hcs43 => ?_
  try simp only [Sx.splice, qt] at hb4_
  have hch := hch.step hcs43 (fun y hy => .inr (by simp only [List.mem_singleton] at hy; subst hy; first | assumption | omega))
  have hb2 := hb2.keep hcs43 (by simp; omega)
  have hb3 := hb3.keep hcs43 (by simp; omega)
  have ha := ha.keepBK hb4 hcs43 an
  have hb := hb.keepBK hb4 hcs43 an
  have hNr := hNr.keepBK hb4 hcs43 an
  have hb4 := hb4_
  refine za rfl (zz (kh5 ?_))
  refine CW.ret ?_
  refine bodyA.retR2 rfl (RVal.cell rfl (hb4.varA rfl rfl)) (RVal.tmp rfl) ?_
  exact ⟨.inl ⟨r, d, hd, rfl, hNr⟩, hch⟩
 ·
  refine zx rfl rfl (zx rfl rfl ?_)
  refine WL.storeB rfl rfl rfl ao hb4 (by simp) rfl fun ws44 hb4_ hcs44 => ?_
  try simp only [Sx.splice, qt] at hb4_
  have hch := hch.step hcs44 (fun y hy => .inr (by simp only [List.mem_singleton] at hy; subst hy; first | assumption | omega))
  have hb2 := hb2.keep hcs44 (by simp; omega)
  have hb3 := hb3.keep hcs44 (by simp; omega)
  have ha := ha.keepBK hb4 hcs44 an
  have hb := hb.keepBK hb4 hcs44 an
  have hb4 := hb4_
  refine za rfl (zz (kh5 ?_))
  refine CW.ret ?_
  refine bodyA.retR2 rfl (RVal.cell rfl (hb4.varA rfl rfl)) (RVal.tmp rfl) ?_
  exact ⟨.inr ⟨hd, rfl⟩, hch⟩

set_option maxRecDepth 4000 in
set_option maxHeartbeats 1000000 in
theorem Mul_dspec (na nb : Bool) (va vb : Value) (la lb : List Nat) (ea eb : Int) (w : World) (ha : NU w va la) (hb : NU w vb lb) (hg : GW w) (hea : -9223372036854775808 ≤ ea ∧ ea ≤ 9223372036854775807) (heb : -9223372036854775808 ≤ eb ∧ eb ≤ 9223372036854775807) : Ret Tryz.prog 55 [.agg [.bool na, va, .int .i64 ea].toArray, .agg [.bool nb, vb, .int .i64 eb].toArray] w fun u w' => DR w' u (both2 mulD (formD na (val la) ea) (formD nb (val lb) eb)) ∧ Chg [] w w' := by
 have hch : Chg [] w w := Chg.refl _ _
 have hoa := ha.one
 have hob := hb.one
 refine Ret.enter Tryz.func55 rfl rfl ?_
 simp only [args0, Nat.zero_add, Nat.reduceAdd]
 refine Sr fun _ kh1 => ?_
 refine WL.boxB rfl rfl rfl fun b2 wm2 hb2 hcm2 hge2 => ?_
 have hgehch2 := Nat.le_trans hch.size hge2
 have hch := hch.trans hcm2
 have ha := ha.keep0 hcm2
 have hb := hb.keep0 hcm2
 refine WL.boxB rfl rfl rfl fun b3 wm3 hb3 hcm3 hge3 => ?_
 have hgehch3 := Nat.le_trans hch.size hge3
 have hch := hch.trans hcm3
 have ha := ha.keep0 hcm3
 have hb := hb.keep0 hcm3
 have hneb23 : b2 ≠ b3 := by have := hb2.lt; omega
 have hb2 := hb2.keep0 hcm3
 refine WL.allocB (l := [.bool false, .slice none 0 0, .int .i64 0]) rfl rfl fun b4 wm4 hb4 hcm4 hge4 => ?_
 have hgehch4 := Nat.le_trans hch.size hge4
 have hch := hch.trans hcm4
 have ha := ha.keep0 hcm4
 have hb := hb.keep0 hcm4
 have hneb24 : b2 ≠ b4 := by have := hb2.lt; omega
 have hb2 := hb2.keep0 hcm4
 have hneb34 : b3 ≠ b4 := by have := hb3.lt; omega
 have hb3 := hb3.keep0 hcm4
 refine za rfl (zz (kh1 (Sr fun _ kh3 => zg hb2 rfl (zg hb3 rfl ?_))))
 refine WL.call hasF47 rfl rfl (dboth_spec na nb va vb la lb ea eb _ ha hb (hg.keep0 hch) hea heb) fun v w1 h' => ?_
 obtain ⟨hB, hC1⟩ := h'
 have hch := hch.trans hC1
 have hb2 := hb2.keep0 hC1
 have hb3 := hb3.keep0 hC1
 have hb4 := hb4.keep0 hC1
 have ha := ha.keep0 hC1
 have hb := hb.keep0 hC1
 rcases hB with ⟨d1, d2, r1, r2, hd1, hd2, rfl, hNr1, hNr2⟩ | ⟨hno, n1, v1, e1, n2, v2, e2, rfl, hv1, hv2⟩
 ·
  have hok1 := formD_ok hd1
  have hok2 := formD_ok hd2
  have he1 := hok1.e
  have he2 := hok2.e
  have hl1 := hok1.len
  have hl2 := hok2.len
  obtain ⟨⟨a1, c1, rfl, hcap1, hr1⟩, hW1, hl1⟩ := hNr1
  have hNr1 : NU _ (.slice a1 (wd d1.m).length c1) (wd d1.m) := NU.of_row hr1 hW1 hl1 rfl hcap1
  obtain ⟨⟨a2, c2, rfl, hcap2, hr2⟩, hW2, hl2⟩ := hNr2
  have hNr2 : NU _ (.slice a2 (wd d2.m).length c2) (wd d2.m) := NU.of_row hr2 hW2 hl2 rfl hcap2
  have hw1 : (wd d1.m).length = 0 ↔ d1.m = 0 := by rw [List.length_eq_zero_iff, wd_eq_nil]
  have hw2 : (wd d2.m).length = 0 ↔ d2.m = 0 := by rw [List.length_eq_zero_iff, wd_eq_nil]
  refine zm rfl (zx rfl rfl (zx rfl rfl (zx rfl rfl ?_)))
  refine WL.allocB (l := [.bool false, .slice none 0 0, .int .i64 0]) rfl rfl fun b6 wm6 hb6 hcm6 hge6 => ?_
  have hgehch6 := Nat.le_trans hch.size hge6
  have hch := hch.trans hcm6
  have ha := ha.keep0 hcm6
  have hb := hb.keep0 hcm6
  have hNr1 := hNr1.keep0 hcm6
  have hNr2 := hNr2.keep0 hcm6
  have hneb26 : b2 ≠ b6 := by have := hb2.lt; omega
  have hb2 := hb2.keep0 hcm6
  have hneb36 : b3 ≠ b6 := by have := hb3.lt; omega
  have hb3 := hb3.keep0 hcm6
  have hneb46 : b4 ≠ b6 := by have := hb4.lt; omega
  have hb4 := hb4.keep0 hcm6
  refine WL.allocB (l := [.bool false, .slice none 0 0, .int .i64 0]) rfl rfl fun b7 wm7 hb7 hcm7 hge7 => ?_
  have hgehch7 := Nat.le_trans hch.size hge7
  have hch := hch.trans hcm7
  have ha := ha.keep0 hcm7
  have hb := hb.keep0 hcm7
  have hNr1 := hNr1.keep0 hcm7
  have hNr2 := hNr2.keep0 hcm7
  have hneb27 : b2 ≠ b7 := by have := hb2.lt; omega
  have hb2 := hb2.keep0 hcm7
  have hneb37 : b3 ≠ b7 := by have := hb3.lt; omega
  have hb3 := hb3.keep0 hcm7
  have hneb47 : b4 ≠ b7 := by have := hb4.lt; omega
  have hb4 := hb4.keep0 hcm7
  have hneb67 : b6 ≠ b7 := by have := hb6.lt; omega
  have hb6 := hb6.keep0 hcm7
  refine WL.storeB rfl rfl rfl ao hb6 (by simp) rfl fun ws45 hb6_ hcs45 => ?_
  try simp only [Sx.splice, qt] at hb6_
  have hch := hch.step hcs45 (fun y hy => .inr (by simp only [List.mem_singleton] at hy; subst hy; first | assumption | omega))
  have hb2 := hb2.keep hcs45 (by simp; omega)
  have hb3 := hb3.keep hcs45 (by simp; omega)
  have hb4 := hb4.keep hcs45 (by simp; omega)
  have hb7 := hb7.keep hcs45 (by simp; omega)
  have ha := ha.keepBK hb6 hcs45 an
  have hb := hb.keepBK hb6 hcs45 an
  have hNr1 := hNr1.keepBK hb6 hcs45 an
  have hNr2 := hNr2.keepBK hb6 hcs45 an
  have hb6 := hb6_
  refine WL.storeB rfl rfl rfl ao hb7 (by simp) rfl fun ws46 hb7_ hcs46 => ?_
  try simp only [Sx.splice, qt] at hb7_
  have hch := hch.step hcs46 (fun y hy => .inr (by simp only [List.mem_singleton] at hy; subst hy; first | assumption | omega))
  have hb2 := hb2.keep hcs46 (by simp; omega)
  have hb3 := hb3.keep hcs46 (by simp; omega)
  have hb4 := hb4.keep hcs46 (by simp; omega)
  have hb6 := hb6.keep hcs46 (by simp; omega)
  have ha := ha.keepBK hb7 hcs46 an
  have hb := hb.keepBK hb7 hcs46 an
  have hNr1 := hNr1.keepBK hb7 hcs46 an
  have hNr2 := hNr2.keepBK hb7 hcs46 an
  have hb7 := hb7_
  refine za rfl (zz (kh3 (zc fun _ kh5 => Sr fun _ kh6 => zm rfl ?_)))
  refine WL.ev (Ev.neq rfl rfl) rfl ?_
  refine zz (kh6 ?_)
  refine CW.condF rfl ?_
  refine CW.skip ?_
  refine kh5 (Sr fun _ kh8 => zf rfl (zl hb6 rfl rfl (zf rfl (zl hb7 rfl rfl ?_))))
  refine WL.call hasF104 rfl rfl (Mul_spec _ _ _ _ _ hNr1 hNr2) fun v w2 h' => ?_
  obtain ⟨hD3, hC3⟩ := h'
  rw [val_wd, val_wd] at hD3
  have hch := hch.trans hC3
  have hb2 := hb2.keep0 hC3
  have hb3 := hb3.keep0 hC3
  have hb4 := hb4.keep0 hC3
  have hb6 := hb6.keep0 hC3
  have hb7 := hb7.keep0 hC3
  have ha := ha.keep0 hC3
  have hb := hb.keep0 hC3
  have hNr1 := hNr1.keep0 hC3
  have hNr2 := hNr2.keep0 hC3
  rcases hD3 with ⟨_, _, hp8, rp, rfl, hNp⟩ | ⟨hp8, rfl⟩
  ·
   refine zm rfl (zx rfl rfl (zx rfl rfl (za rfl (za rfl (zz (kh8 (zc fun _ kh10 => Sr fun _ kh11 => zm rfl ?_)))))))
   refine WL.ev (Ev.neq rfl rfl) rfl ?_
   refine zz (kh11 ?_)
   refine CW.condF rfl ?_
   refine CW.skip ?_
   refine kh10 (Sr fun _ kh13 => zf rfl (zl hb6 rfl rfl (zf rfl (zl hb7 rfl rfl ?_))))
   refine WL.ev (Ev.neq_bool rfl rfl) rfl ?_
   refine zm rfl (zf rfl (zl hb6 rfl rfl (zf rfl (zl hb7 rfl rfl ?_))))
   first | refine WL.ev (Ev.addIn rfl rfl (by omega)) rfl ?_ | refine WL.ev (Ev.add rfl rfl) rfl ?_
   refine WL.call hasF45 rfl rfl (form_spec _ _ _ _ _ hNp (hg.keep0 hch) (by omega)) fun v w3 h' => ?_
   obtain ⟨hD44, hC44⟩ := h'
   have hch := hch.trans hC44
   have hb2 := hb2.keep0 hC44
   have hb3 := hb3.keep0 hC44
   have hb4 := hb4.keep0 hC44
   have hb6 := hb6.keep0 hC44
   have hb7 := hb7.keep0 hC44
   have ha := ha.keep0 hC44
   have hb := hb.keep0 hC44
   have hNr1 := hNr1.keep0 hC44
   have hNr2 := hNr2.keep0 hC44
   have hNp := hNp.keep0 hC44
   rcases hD44 with ⟨r, d, hd, rfl, hNr⟩ | ⟨hd, rfl⟩
   ·
    refine zx rfl rfl (zx rfl rfl ?_)
    refine WL.storeB rfl rfl rfl ao hb4 (by simp) rfl fun ws47 hb4_ hcs47 => ?_
    try simp only [Sx.splice, qt] at hb4_
    have hch := hch.step hcs47 (fun y hy => .inr (by simp only [List.mem_singleton] at hy; subst hy; first | assumption | omega))
    have hb2 := hb2.keep hcs47 (by simp; omega)
    have hb3 := hb3.keep hcs47 (by simp; omega)
    have hb6 := hb6.keep hcs47 (by simp; omega)
    have hb7 := hb7.keep hcs47 (by simp; omega)
    have ha := ha.keepBK hb4 hcs47 an
    have hb := hb.keepBK hb4 hcs47 an
    have hNr1 := hNr1.keepBK hb4 hcs47 an
    have hNr2 := hNr2.keepBK hb4 hcs47 an
    have hNp := hNp.keepBK hb4 hcs47 an
    have hNr := hNr.keepBK hb4 hcs47 an
    have hb4 := hb4_
    refine za rfl (zz (kh13 ?_))
    refine CW.ret ?_
    refine bodyA.retR2 rfl (RVal.cell rfl (hb4.varA rfl rfl)) (RVal.tmp rfl) ?_
    rw [hd1, hd2]
    exact ⟨.inl ⟨r, d, by rw [val_wd] at hd; show mulD d1 d2 = _; unfold mulD; rw [if_neg (by omega)]; exact hd, rfl, hNr⟩, hch⟩
   ·
    refine zx rfl rfl (zx rfl rfl ?_)
    refine WL.storeB rfl rfl rfl ao hb4 (by simp) rfl fun ws48 hb4_ hcs48 => ?_
    try simp only [Sx.splice, qt] at hb4_
    have hch := hch.step hcs48 (fun y hy => .inr (by simp only [List.mem_singleton] at hy; subst hy; first | assumption | omega))
    have hb2 := hb2.keep hcs48 (by simp; omega)
    have hb3 := hb3.keep hcs48 (by simp; omega)
    have hb6 := hb6.keep hcs48 (by simp; omega)
    have hb7 := hb7.keep hcs48 (by simp; omega)
    have ha := ha.keepBK hb4 hcs48 an
    have hb := hb.keepBK hb4 hcs48 an
    have hNr1 := hNr1.keepBK hb4 hcs48 an
    have hNr2 := hNr2.keepBK hb4 hcs48 an
    have hNp := hNp.keepBK hb4 hcs48 an
    have hb4 := hb4_
    refine za rfl (zz (kh13 ?_))
    refine CW.ret ?_
    refine bodyA.retR2 rfl (RVal.cell rfl (hb4.varA rfl rfl)) (RVal.tmp rfl) ?_
    rw [hd1, hd2]
    exact ⟨.inr ⟨by rw [val_wd] at hd; show mulD d1 d2 = _; unfold mulD; rw [if_neg (by omega)]; exact hd, rfl⟩, hch⟩
  ·
   refine zm rfl (zx rfl rfl (zx rfl rfl (za rfl (za rfl (zz (kh8 (zc fun _ kh15 => Sr fun _ kh16 => zm rfl ?_)))))))
   refine WL.ev (Ev.neq rfl rfl) rfl ?_
   refine zz (kh16 ?_)
   refine CW.condT rfl ?_
   refine Sr fun _ kh18 => ?_
   refine WL.ev (Ev.build (vs := _) (cs := [_, _, _]) rfl rfl) rfl ?_
   refine zm rfl ?_
   refine WL.storeB rfl rfl rfl ao hb4 (by simp) rfl fun ws49 hb4_ hcs49 => ?_
   try simp only [Sx.splice, qt] at hb4_
   have hch := hch.step hcs49 (fun y hy => .inr (by simp only [List.mem_singleton] at hy; subst hy; first | assumption | omega))
   have hb2 := hb2.keep hcs49 (by simp; omega)
   have hb3 := hb3.keep hcs49 (by simp; omega)
   have hb6 := hb6.keep hcs49 (by simp; omega)
   have hb7 := hb7.keep hcs49 (by simp; omega)
   have ha := ha.keepBK hb4 hcs49 an
   have hb := hb.keepBK hb4 hcs49 an
   have hNr1 := hNr1.keepBK hb4 hcs49 an
   have hNr2 := hNr2.keepBK hb4 hcs49 an
   have hb4 := hb4_
   refine za rfl (zz (kh18 ?_))
   refine CW.ret ?_
   refine bodyA.retR2 rfl (RVal.cell rfl (hb4.varA rfl rfl)) (RVal.tmp rfl) ?_
   rw [hd1, hd2]
   exact ⟨.inr ⟨by show mulD d1 d2 = _; unfold mulD; rw [if_pos (by omega)], rfl⟩, hch⟩
 ·
  have hF : both2 mulD (formD na (val la) ea) (formD nb (val lb) eb) = none := by rcases hno with hno | hno <;> rw [hno] <;> first | rfl | exact both2_none_right
  refine zm rfl (zx rfl rfl (zx rfl rfl (zx rfl rfl ?_)))
  refine WL.allocB (l := [.bool false, .slice none 0 0, .int .i64 0]) rfl rfl fun b6 wm6 hb6 hcm6 hge6 => ?_
  have hgehch6 := Nat.le_trans hch.size hge6
  have hch := hch.trans hcm6
  have ha := ha.keep0 hcm6
  have hb := hb.keep0 hcm6
  have hneb26 : b2 ≠ b6 := by have := hb2.lt; omega
  have hb2 := hb2.keep0 hcm6
  have hneb36 : b3 ≠ b6 := by have := hb3.lt; omega
  have hb3 := hb3.keep0 hcm6
  have hneb46 : b4 ≠ b6 := by have := hb4.lt; omega
  have hb4 := hb4.keep0 hcm6
  refine WL.allocB (l := [.bool false, .slice none 0 0, .int .i64 0]) rfl rfl fun b7 wm7 hb7 hcm7 hge7 => ?_
  have hgehch7 := Nat.le_trans hch.size hge7
  have hch := hch.trans hcm7
  have ha := ha.keep0 hcm7
  have hb := hb.keep0 hcm7
  have hneb27 : b2 ≠ b7 := by have := hb2.lt; omega
  have hb2 := hb2.keep0 hcm7
  have hneb37 : b3 ≠ b7 := by have := hb3.lt; omega
  have hb3 := hb3.keep0 hcm7
  have hneb47 : b4 ≠ b7 := by have := hb4.lt; omega
  have hb4 := hb4.keep0 hcm7
  have hneb67 : b6 ≠ b7 := by have := hb6.lt; omega
  have hb6 := hb6.keep0 hcm7
  refine WL.storeB rfl rfl rfl ao hb6 (by simp) rfl fun ws50 hb6_ hcs50 => ?_
  try simp only [Sx.splice, qt] at hb6_
  have hch := hch.step hcs50 (fun y hy => .inr (by simp only [List.mem_singleton] at hy; subst hy; first | assumption | omega))
  have hb2 := hb2.keep hcs50 (by simp; omega)
  have hb3 := hb3.keep hcs50 (by simp; omega)
  have hb4 := hb4.keep hcs50 (by simp; omega)
  have hb7 := hb7.keep hcs50 (by simp; omega)
  have ha := ha.keepBK hb6 hcs50 an
  have hb := hb.keepBK hb6 hcs50 an
  have hb6 := hb6_
  refine WL.storeB rfl rfl rfl ao hb7 (by simp) rfl fun ws51 hb7_ hcs51 => ?_
  try simp only [Sx.splice, qt] at hb7_
  have hch := hch.step hcs51 (fun y hy => .inr (by simp only [List.mem_singleton] at hy; subst hy; first | assumption | omega))
  have hb2 := hb2.keep hcs51 (by simp; omega)
  have hb3 := hb3.keep hcs51 (by simp; omega)
  have hb4 := hb4.keep hcs51 (by simp; omega)
  have hb6 := hb6.keep hcs51 (by simp; omega)
  have ha := ha.keepBK hb7 hcs51 an
  have hb := hb.keepBK hb7 hcs51 an
  have hb7 := hb7_
  refine za rfl (zz (kh3 (zc fun _ kh20 => Sr fun _ kh21 => zm rfl ?_)))
  refine WL.ev (Ev.neq rfl rfl) rfl ?_
  refine zz (kh21 ?_)
  refine CW.condT rfl ?_
  refine Sr fun _ kh23 => ?_
  refine WL.ev (Ev.build (vs := _) (cs := [_, _, _]) rfl rfl) rfl ?_
  refine zm rfl ?_
  refine WL.storeB rfl rfl rfl ao hb4 (by simp) rfl fun ws52 hb4_ hcs52 => ?_
  try simp only [Sx.splice, qt] at hb4_
  have hch := hch.step hcs52 (fun y hy => .inr (by simp only [List.mem_singleton] at hy; subst hy; first | assumption | omega))
  have hb2 := hb2.keep hcs52 (by simp; omega)
  have hb3 := hb3.keep hcs52 (by simp; omega)
  have hb6 := hb6.keep hcs52 (by simp; omega)
  have hb7 := hb7.keep hcs52 (by simp; omega)
  have ha := ha.keepBK hb4 hcs52 an
  have hb := hb.keepBK hb4 hcs52 an
  have hb4 := hb4_
  refine za rfl (zz (kh23 ?_))
  refine CW.ret ?_
  refine bodyA.retR2 rfl (RVal.cell rfl (hb4.varA rfl rfl)) (RVal.tmp rfl) ?_
  rw [hF]
  exact ⟨.inr ⟨rfl, rfl⟩, hch⟩

/-- The value with the other sign; what may not be is nought. -/
def negD (x : Option Dy) : Dy := x.getD Dy.zero

set_option maxRecDepth 4000 in
theorem Neg_dspec (na : Bool) (va : Value) (la : List Nat) (ea : Int) (w : World) (ha : NU w va la) (hg : GW w) (hea : -9223372036854775808 ≤ ea ∧ ea ≤ 9223372036854775807) : Ret Tryz.prog 59 [.agg [.bool na, va, .int .i64 ea].toArray] w fun u w' => DY w' u (negD (formD (!na) (val la) ea)) ∧ Chg [] w w' := by
 have hch : Chg [] w w := Chg.refl _ _
 have hoa := ha.one
 refine Ret.enter Tryz.func59 rfl rfl ?_
 simp only [args0, Nat.zero_add, Nat.reduceAdd]
 refine Sr fun _ kh1 => ?_
 refine WL.boxB rfl rfl rfl fun b1 wm1 hb1 hcm1 hge1 => ?_
 have hgehch1 := Nat.le_trans hch.size hge1
 have hch := hch.trans hcm1
 have ha := ha.keep0 hcm1
 refine WL.allocB (l := [.bool false, .slice none 0 0, .int .i64 0]) rfl rfl fun b2 wm2 hb2 hcm2 hge2 => ?_
 have hgehch2 := Nat.le_trans hch.size hge2
 have hch := hch.trans hcm2
 have ha := ha.keep0 hcm2
 have hneb12 : b1 ≠ b2 := by have := hb1.lt; omega
 have hb1 := hb1.keep0 hcm2
 refine zz (kh1 (Sr fun _ kh3 => zf rfl (zl hb1 rfl rfl ?_)))
 refine WL.ev (Ev.not rfl) rfl ?_
 refine zf rfl (zl hb1 rfl rfl (zf rfl (zl hb1 rfl rfl ?_)))
 refine WL.call hasF45 rfl rfl (form_spec _ _ _ _ _ ha (hg.keep0 hch) hea) fun v w1 h' => ?_
 obtain ⟨hD, hC13⟩ := h'
 have hch := hch.trans hC13
 have hb1 := hb1.keep0 hC13
 have hb2 := hb2.keep0 hC13
 have ha := ha.keep0 hC13
 rcases hD with ⟨r, d, hd, rfl, hNr⟩ | ⟨hd, rfl⟩
 ·
  refine zm rfl (zx rfl rfl (zx rfl rfl ?_))
  refine WL.allocB (l := [.bool false, .slice none 0 0, .int .i64 0]) rfl rfl fun b3 wm3 hb3 hcm3 hge3 => ?_
  have hgehch3 := Nat.le_trans hch.size hge3
  have hch := hch.trans hcm3
  have ha := ha.keep0 hcm3
  have hNr := hNr.keep0 hcm3
  have hneb13 : b1 ≠ b3 := by have := hb1.lt; omega
  have hb1 := hb1.keep0 hcm3
  have hneb23 : b2 ≠ b3 := by have := hb2.lt; omega
  have hb2 := hb2.keep0 hcm3
  refine WL.storeB rfl rfl rfl ao hb3 (by simp) rfl fun ws53 hb3_ hcs53 => ?_
  try simp only [Sx.splice, qt] at hb3_
  have hch := hch.step hcs53 (fun y hy => .inr (by simp only [List.mem_singleton] at hy; subst hy; first | assumption | omega))
  have hb1 := hb1.keep hcs53 (by simp; omega)
  have hb2 := hb2.keep hcs53 (by simp; omega)
  have ha := ha.keepBK hb3 hcs53 an
  have hNr := hNr.keepBK hb3 hcs53 an
  have hb3 := hb3_
  refine za rfl (zz (kh3 (Sr fun _ kh5 => zg hb3 rfl ?_)))
  refine WL.storeB rfl rfl rfl ao hb2 (by simp) rfl fun ws54 hb2_ hcs54 => ?_
  try simp only [Sx.splice, qt] at hb2_
  have hch := hch.step hcs54 (fun y hy => .inr (by simp only [List.mem_singleton] at hy; subst hy; first | assumption | omega))
  have hb1 := hb1.keep hcs54 (by simp; omega)
  have hb3 := hb3.keep hcs54 (by simp; omega)
  have ha := ha.keepBK hb2 hcs54 an
  have hNr := hNr.keepBK hb2 hcs54 an
  have hb2 := hb2_
  refine zz (kh5 ?_)
  refine CW.ret ?_
  refine bodyA.retR1 rfl (RVal.cell rfl (hb2.varA rfl rfl)) ?_
  rw [hd]
  exact ⟨⟨⟨r, rfl, hNr⟩⟩, hch⟩
 ·
  refine zm rfl (zx rfl rfl (zx rfl rfl ?_))
  refine WL.allocB (l := [.bool false, .slice none 0 0, .int .i64 0]) rfl rfl fun b3 wm3 hb3 hcm3 hge3 => ?_
  have hgehch3 := Nat.le_trans hch.size hge3
  have hch := hch.trans hcm3
  have ha := ha.keep0 hcm3
  have hneb13 : b1 ≠ b3 := by have := hb1.lt; omega
  have hb1 := hb1.keep0 hcm3
  have hneb23 : b2 ≠ b3 := by have := hb2.lt; omega
  have hb2 := hb2.keep0 hcm3
  refine WL.storeB rfl rfl rfl ao hb3 (by simp) rfl fun ws55 hb3_ hcs55 => ?_
  try simp only [Sx.splice, qt] at hb3_
  have hch := hch.step hcs55 (fun y hy => .inr (by simp only [List.mem_singleton] at hy; subst hy; first | assumption | omega))
  have hb1 := hb1.keep hcs55 (by simp; omega)
  have hb2 := hb2.keep hcs55 (by simp; omega)
  have ha := ha.keepBK hb3 hcs55 an
  have hb3 := hb3_
  refine za rfl (zz (kh3 (Sr fun _ kh7 => zg hb3 rfl ?_)))
  refine WL.storeB rfl rfl rfl ao hb2 (by simp) rfl fun ws56 hb2_ hcs56 => ?_
  try simp only [Sx.splice, qt] at hb2_
  have hch := hch.step hcs56 (fun y hy => .inr (by simp only [List.mem_singleton] at hy; subst hy; first | assumption | omega))
  have hb1 := hb1.keep hcs56 (by simp; omega)
  have hb3 := hb3.keep hcs56 (by simp; omega)
  have ha := ha.keepBK hb2 hcs56 an
  have hb2 := hb2_
  refine zz (kh7 ?_)
  refine CW.ret ?_
  refine bodyA.retR1 rfl (RVal.cell rfl (hb2.varA rfl rfl)) ?_
  rw [hd]
  exact ⟨DY.zero, hch⟩

/-- How a value stands to nought. -/
def sgD (neg : Bool) (n : Nat) : Int := if n = 0 then 0 else if neg then -1 else 1

set_option maxRecDepth 4000 in
theorem Sign_dspec (na : Bool) (va : Value) (la : List Nat) (ea : Int) (w : World) (ha : NU w va la) : Ret Tryz.prog 58 [.agg [.bool na, va, .int .i64 ea].toArray] w fun u w' => u = .int .i64 (sgD na (val la)) ∧ Chg [] w w' := by
 have hch : Chg [] w w := Chg.refl _ _
 have hoa := ha.one
 have hbz := bl_eq_zero (n := val la)
 refine Ret.enter Tryz.func58 rfl rfl ?_
 simp only [args0, Nat.zero_add, Nat.reduceAdd]
 refine Sr fun _ kh1 => ?_
 refine WL.boxB rfl rfl rfl fun b1 wm1 hb1 hcm1 hge1 => ?_
 have hgehch1 := Nat.le_trans hch.size hge1
 have hch := hch.trans hcm1
 have ha := ha.keep0 hcm1
 refine za rfl (zz (kh1 (zc fun _ kh3 => ?_)))
 refine CW.block ?_
 refine Sr fun _ kh4 => zf rfl (zl hb1 rfl rfl ?_)
 refine WL.call hasF96 rfl rfl (Len_spec _ _ _ ha) fun v w1 h' => ?_
 obtain ⟨rfl, rfl⟩ := h'
 refine zq rfl rfl (za rfl (zz (kh4 ?_)))
 refine CW.cond rfl (fun hc1 => ?_) (fun hc1 => ?_)
 ·
  try simp only [qs] at hc1
  refine Sr fun _ kh6 => za rfl (zz (kh6 ?_))
  refine CW.ret ?_
  refine bodyA.ret1 rfl rfl ?_
  unfold sgD; rw [if_pos (by omega)]
  exact ⟨rfl, hch⟩
 ·
  try simp only [qs] at hc1
  refine Sr fun _ kh8 => zf rfl (zl hb1 rfl rfl (za rfl (zz (kh8 ?_))))
  refine CW.cond rfl (fun hc2 => ?_) (fun hc2 => ?_)
  ·
   try simp only [qs] at hc2
   refine Sr fun _ kh10 => za rfl (zz (kh10 ?_))
   refine CW.ret ?_
   refine bodyA.ret1 rfl rfl ?_
   unfold sgD; rw [if_neg (by omega), if_pos hc2]
   exact ⟨rfl, hch⟩
  ·
   try simp only [qs] at hc2
   refine CW.skip ?_
   refine kh3 (Sr fun _ kh12 => za rfl (zz (kh12 ?_)))
   refine CW.ret ?_
   refine bodyA.ret1 rfl rfl ?_
   unfold sgD; rw [if_neg (by omega), if_neg (by rw [hc2]; decide)]
   exact ⟨rfl, hch⟩

end Go.Proofs.YtphnpchmdpjabaaGreatDoor

/- Rounding to numbers of 64 bits: what it is, and that it is one. No condition. -/
namespace Go.Proofs.YtphnpchmdpjabaaGreatDoor.Wd

/-- The k-th number from nought on, in units of 2^-1074. -/
def nz (k : Nat) : Nat := if k < 4503599627370496 then k else (4503599627370496 + k % 4503599627370496) * 2 ^ (k / 4503599627370496 - 1)
theorem nz_form {n x : Nat} (h : n ≤ 9007199254740992) (hx : x = 0 ∨ 4503599627370496 ≤ n) : nz (n + x * 4503599627370496) = n * 2 ^ x := by
  unfold nz
  by_cases h1 : n + x * 4503599627370496 < 4503599627370496
  · rw [if_pos h1]
    have : x = 0 := by omega
    subst this; simp
  · rw [if_neg h1]
    by_cases h2 : n = 9007199254740992
    · subst h2
      rw [show (9007199254740992 + x * 4503599627370496) % 4503599627370496 = 0 by omega, show (9007199254740992 + x * 4503599627370496) / 4503599627370496 - 1 = x + 1 by omega, Nat.pow_succ]
      omega
    · rw [show (n + x * 4503599627370496) / 4503599627370496 - 1 = x by omega, show 4503599627370496 + (n + x * 4503599627370496) % 4503599627370496 = n by omega]
theorem nz_split (k : Nat) : ∃ n x, k = n + x * 4503599627370496 ∧ n < 9007199254740992 ∧ (x = 0 ∨ 4503599627370496 ≤ n) := by
  by_cases h : k < 4503599627370496
  · exact ⟨k, 0, by omega, by omega, .inl rfl⟩
  · exact ⟨4503599627370496 + k % 4503599627370496, k / 4503599627370496 - 1, by omega, by omega, .inr (by omega)⟩
theorem nz_succ {n x : Nat} (h : n < 9007199254740992) (hx : x = 0 ∨ 4503599627370496 ≤ n) : nz (n + x * 4503599627370496 + 1) = (n + 1) * 2 ^ x := by
  rw [show n + x * 4503599627370496 + 1 = (n + 1) + x * 4503599627370496 by omega]
  exact nz_form (by omega) (by omega)
theorem nz_lt_succ (k : Nat) : nz k < nz (k + 1) := by
  obtain ⟨n, x, rfl, h1, h2⟩ := nz_split k
  rw [nz_form (by omega) h2, nz_succ h1 h2]
  exact Nat.mul_lt_mul_of_pos_right (Nat.lt_succ_self n) (Nat.two_pow_pos x)
theorem nz_mono {a b : Nat} (h : a < b) : nz a < nz b := by
  induction b with
  | zero => omega
  | succ b ih =>
    by_cases e : a = b
    · subst e; exact nz_lt_succ a
    · exact Nat.lt_trans (ih (by omega)) (nz_lt_succ b)
theorem nz_le {a b : Nat} (h : a ≤ b) : nz a ≤ nz b := by
  rcases Nat.lt_or_eq_of_le h with h | rfl
  · exact Nat.le_of_lt (nz_mono h)
  · exact Nat.le_refl _
/-- Does a mode go on to the next number? (A: the value; M: the middle.) -/
def upM (mode : Int) (neg : Bool) (k A M : Nat) : Bool :=
  if mode = 0 then decide (M < A) || (decide (M = A) && decide (k % 2 = 1))
  else if mode = 2 then !neg
  else if mode = 3 then neg
  else if mode = 4 then decide (M ≤ A)
  else false
/-- r is the value A / B (in units of 2^-1075), rounded. -/
def IsNear (A B : Nat) (neg : Bool) (mode : Int) (r : Nat) : Prop :=
  ∃ k, k < 9218868437227405312 ∧ 2 * nz k * B ≤ A ∧ (A < 2 * nz (k + 1) * B ∨ k + 1 = 9218868437227405312) ∧
    r = if 2 * nz k * B = A then k else if upM mode neg k A ((nz k + nz (k + 1)) * B) then k + 1 else k
theorem IsNear.unique {A B : Nat} {neg : Bool} {mode : Int} {r r' : Nat} (hB : 0 < B) (h : IsNear A B neg mode r) (h' : IsNear A B neg mode r') : r = r' := by
  obtain ⟨k, k1, k2, k3, rfl⟩ := h
  obtain ⟨l, l1, l2, l3, rfl⟩ := h'
  have key : ∀ a b, 2 * nz a * B ≤ A → (A < 2 * nz (b + 1) * B ∨ b + 1 = 9218868437227405312) → a < 9218868437227405312 → a ≤ b := by
    intro a b h1 h2 h3
    rcases h2 with h2 | h2
    · apply Nat.le_of_not_lt
      intro hlt
      have := nz_le (show b + 1 ≤ a by omega)
      have h4 : 2 * nz (b + 1) * B ≤ 2 * nz a * B := Nat.mul_le_mul_right _ (by omega)
      omega
    · omega
  have e : k = l := Nat.le_antisymm (key k l k2 l3 k1) (key l k l2 k3 l1)
  subst e; rfl
theorem le_scale {a b u v S T : Nat} (hS : 0 < S) (hT : 0 < T) (ha : a * S = u * T) (hb : b * S = v * T) : (a ≤ b ↔ u ≤ v) ∧ (b ≤ a ↔ v ≤ u) := by
  have key : ∀ {a b u v : Nat}, a * S = u * T → b * S = v * T → (a ≤ b ↔ u ≤ v) := by
    intro a b u v ha hb
    constructor
    · intro h
      have h1 := Nat.mul_le_mul_right S h
      rw [ha, hb] at h1
      exact Nat.le_of_mul_le_mul_right h1 hT
    · intro h
      have h1 := Nat.mul_le_mul_right T h
      rw [← ha, ← hb] at h1
      exact Nat.le_of_mul_le_mul_right h1 hS
  exact ⟨key ha hb, key hb ha⟩
/-- A value that is told in two ways is rounded alike. -/
theorem IsNear.congr {A B A' B' : Nat} {neg : Bool} {mode : Int} {r : Nat} (hB : 0 < B) (hB' : 0 < B') (hv : A * B' = A' * B) (h : IsNear A B neg mode r) : IsNear A' B' neg mode r := by
  have cmp : ∀ c, (c * B ≤ A ↔ c * B' ≤ A') ∧ (A ≤ c * B ↔ A' ≤ c * B') := fun c =>
    le_scale (S := B') (T := B) hB' hB (by rw [Nat.mul_right_comm]) hv
  obtain ⟨k, h1, h2, h3, rfl⟩ := h
  have c1 := cmp (2 * nz k)
  have c2 := cmp (2 * nz (k + 1))
  have c3 := cmp (nz k + nz (k + 1))
  have q1 : 2 * nz k * B = A ↔ 2 * nz k * B' = A' := by omega
  have u : upM mode neg k A ((nz k + nz (k + 1)) * B) = upM mode neg k A' ((nz k + nz (k + 1)) * B') := by
    unfold upM
    generalize (nz k + nz (k + 1)) * B = M at *
    generalize (nz k + nz (k + 1)) * B' = M' at *
    have d1 : decide (M < A) = decide (M' < A') := decide_eq_decide.2 (by omega)
    have d2 : decide (M = A) = decide (M' = A') := decide_eq_decide.2 (by omega)
    have d3 : decide (M ≤ A) = decide (M' ≤ A') := decide_eq_decide.2 (by omega)
    rw [d1, d2, d3]
  refine ⟨k, h1, c1.1.1 h2, h3.imp (fun h => by omega) id, ?_⟩
  rw [u]
  by_cases hq : 2 * nz k * B = A
  · rw [if_pos hq, if_pos (q1.1 hq)]
  · rw [if_neg hq, if_neg (fun hh => hq (q1.2 hh))]
/-- A dyad's value in units of 2^-1075. -/
def dyA (m : Nat) (e : Int) : Nat := m * 2 ^ (e + 1075).toNat
def dyB (e : Int) : Nat := 2 ^ (-(e + 1075)).toNat
theorem dyB_pos (e : Int) : 0 < dyB e := Nat.two_pow_pos _
theorem dy_scale {m : Nat} {e : Int} {cut t : Nat} (h : e + 1075 = (t : Int) - (cut : Int)) : dyA m e * 2 ^ cut = m * 2 ^ t * dyB e := by
  unfold dyA dyB
  by_cases hc : cut ≤ t
  · rw [show (e + 1075).toNat = t - cut by omega, show (-(e + 1075)).toNat = 0 by omega, Nat.mul_assoc, ← Nat.pow_add, show t - cut + cut = t by omega, Nat.pow_zero, Nat.mul_one]
  · rw [show (e + 1075).toNat = 0 by omega, show (-(e + 1075)).toNat = cut - t by omega, Nat.pow_zero, Nat.mul_one, Nat.mul_assoc, ← Nat.pow_add, show t + (cut - t) = cut by omega]
/-- Of no bits. -/
theorem near_zero {B : Nat} (hB : 0 < B) (neg : Bool) (mode : Int) : IsNear 0 B neg mode 0 := by
  refine ⟨0, by omega, by simp [nz], .inl ?_, by simp [nz]⟩
  have : nz (0 + 1) = 1 := by decide
  rw [this]; omega
/-- A value that is a number. -/
theorem near_exact {m n x : Nat} {e : Int} {neg : Bool} {mode : Int} (h : n < 9007199254740992) (hx : x = 0 ∨ 4503599627370496 ≤ n) (hk : n + x * 4503599627370496 < 9218868437227405312) {c : Nat} (hn : n = m * 2 ^ c) (he : e + 1075 = (x : Int) + 1 + (c : Int)) : IsNear (dyA m e) (dyB e) neg mode (n + x * 4503599627370496) := by
  have hA : dyA m e = 2 * (n * 2 ^ x) * dyB e := by
    unfold dyA dyB
    rw [show (e + 1075).toNat = c + (x + 1) by omega, show (-(e + 1075)).toNat = 0 by omega, hn, Nat.pow_add, Nat.pow_succ, Nat.pow_zero, Nat.mul_one]
    simp only [Nat.mul_comm, Nat.mul_left_comm, Nat.mul_assoc]
  have h1 := nz_form (n := n) (x := x) (by omega) hx
  refine ⟨n + x * 4503599627370496, hk, by rw [h1, hA]; exact Nat.le_refl _, .inl ?_, ?_⟩
  · rw [nz_succ h hx, hA]
    have hp := Nat.mul_pos (Nat.two_pow_pos x) (dyB_pos e)
    have : 2 * ((n + 1) * 2 ^ x) * dyB e = 2 * (n * 2 ^ x) * dyB e + 2 * (2 ^ x * dyB e) := by
      rw [Nat.add_mul n 1, Nat.one_mul, Nat.mul_add, Nat.add_mul, Nat.mul_assoc 2 (2 ^ x)]
    omega
  · rw [h1, if_pos hA.symm]
/-- A value between two numbers. -/
theorem near_cut {m n x cut : Nat} {e : Int} {neg half : Bool} {mode : Int} {up : Bool} (h : n < 9007199254740992) (hx : x = 0 ∨ 4503599627370496 ≤ n) (hk : n + x * 4503599627370496 < 9218868437227405312) (hc : 0 < cut) (hm : m % 2 = 1) (hn : n = m / 2 ^ cut) (he : e + 1075 = (x : Int) + 1 - (cut : Int))
    (hh : half = m.testBit (cut - 1))
    (hup : up = if mode = 0 then (half && (!decide (cut = 1) || decide (n % 2 = 1))) else if mode = 4 then half else if mode = 2 then !neg else if mode = 3 then neg else false) :
    IsNear (dyA m e) (dyB e) neg mode (if up then n + 1 + x * 4503599627370496 else n + x * 4503599627370496) := by
  have hs := dy_scale (m := m) (e := e) (cut := cut) (t := x + 1) (by omega)
  have hB := dyB_pos e
  generalize hA : dyA m e = A at *
  generalize dyB e = B at *
  have hp2 := Nat.two_pow_pos cut
  have hp1 := Nat.two_pow_pos x
  have hcut : 2 ^ cut = 2 * 2 ^ (cut - 1) := by rw [show cut = cut - 1 + 1 by omega, Nat.pow_succ, Nat.mul_comm]; simp
  have hpc := Nat.two_pow_pos (cut - 1)
  -- the value by its quotient and what is left
  have hr : m = 2 ^ cut * n + m % 2 ^ cut := by rw [hn]; exact (Nat.div_add_mod m (2 ^ cut)).symm
  have hrl := Nat.mod_lt m hp2
  have hrodd : m % 2 ^ cut % 2 = 1 := by
    rw [hcut] at *
    rw [Nat.mod_mul_right_mod]; exact hm
  generalize hrr : m % 2 ^ cut = r at *
  have hbit : half = decide (2 ^ (cut - 1) ≤ r) := by
    rw [hh, Nat.testBit_eq_decide_div_mod_eq]
    refine decide_eq_decide.2 ?_
    have e1 : m / 2 ^ (cut - 1) = 2 * n + r / 2 ^ (cut - 1) := by
      conv => lhs; rw [hr, hcut, Nat.mul_comm 2, Nat.mul_assoc, Nat.mul_add_div hpc]
    rw [e1]
    have e2 : r / 2 ^ (cut - 1) < 2 := by rw [Nat.div_lt_iff_lt_mul hpc, ← hcut]; exact hrl
    have e3 := Nat.div_add_mod r (2 ^ (cut - 1))
    have e4 := Nat.mod_lt r hpc
    clear e1 hr hs hcut
    generalize r / 2 ^ (cut - 1) = d at *
    generalize r % 2 ^ (cut - 1) = f at *
    generalize 2 ^ (cut - 1) = C1 at *
    rcases (by omega : d = 0 ∨ d = 1) with q | q
    · subst q; rw [Nat.mul_zero] at e3; omega
    · subst q; rw [Nat.mul_one] at e3; omega
  have honly : (r = 2 ^ (cut - 1)) ↔ (2 ^ (cut - 1) ≤ r ∧ cut = 1) := by
    constructor
    · intro h1
      refine ⟨by omega, ?_⟩
      apply Classical.byContradiction
      intro h2
      have : 2 ^ (cut - 1) = 2 * 2 ^ (cut - 2) := by rw [show cut - 1 = cut - 2 + 1 by omega, Nat.pow_succ, Nat.mul_comm]
      rw [this] at h1
      generalize 2 ^ (cut - 2) = z at h1
      omega
    · rintro ⟨h1, rfl⟩
      simp at hrl h1 ⊢
      omega
  -- comparisons by the scale
  have f1 := nz_form (n := n) (x := x) (by omega) hx
  have f2 := nz_succ h hx
  have hpb := Nat.mul_pos hp1 hB
  have hq2 : A * 2 ^ cut = 2 * m * (2 ^ x * B) := by rw [hs, Nat.pow_succ]; simp only [Nat.mul_comm, Nat.mul_left_comm, Nat.mul_assoc]
  have g1 : 2 * nz (n + x * 4503599627370496) * B * 2 ^ cut = 2 * (2 ^ cut * n) * (2 ^ x * B) := by rw [f1]; simp only [Nat.mul_comm, Nat.mul_left_comm, Nat.mul_assoc]
  have g2 : 2 * nz (n + x * 4503599627370496 + 1) * B * 2 ^ cut = (2 * (2 ^ cut * n) + 2 * 2 ^ cut) * (2 ^ x * B) := by
    rw [f2, show 2 * (2 ^ cut * n) + 2 * 2 ^ cut = 2 * (2 ^ cut * (n + 1)) by rw [Nat.mul_add, Nat.mul_add, Nat.mul_one]]
    simp only [Nat.mul_comm, Nat.mul_left_comm, Nat.mul_assoc]
  have g3 : (nz (n + x * 4503599627370496) + nz (n + x * 4503599627370496 + 1)) * B * 2 ^ cut = (2 * (2 ^ cut * n) + 2 ^ cut) * (2 ^ x * B) := by
    rw [f1, f2, ← Nat.add_mul, show n + (n + 1) = 2 * n + 1 by omega, show 2 * (2 ^ cut * n) + 2 ^ cut = 2 ^ cut * (2 * n + 1) by rw [Nat.mul_add, Nat.mul_one, Nat.mul_left_comm]]
    simp only [Nat.mul_comm, Nat.mul_left_comm, Nat.mul_assoc]
  have c1 := le_scale hp2 hpb g1 hq2
  have c2 := le_scale hp2 hpb g2 hq2
  have c3 := le_scale hp2 hpb g3 hq2
  generalize hP : 2 * nz (n + x * 4503599627370496) * B = P at *
  generalize hQ : 2 * nz (n + x * 4503599627370496 + 1) * B = Q at *
  generalize hM : (nz (n + x * 4503599627370496) + nz (n + x * 4503599627370496 + 1)) * B = M at *
  generalize 2 ^ cut * n = y at *
  have hone : cut = 1 → r = 2 ^ (cut - 1) := fun e => by subst e; simp at hrl ⊢; omega
  generalize 2 ^ (cut - 1) = C1 at *
  generalize 2 ^ cut = C at *
  clear hh hn hs g1 g2 g3 f1 f2 hq2 hpb hp1
  have k1 : P < A := by omega
  have k2 : A < Q := by omega
  have k3 : M < A ↔ C1 < r := by omega
  have k4 : M = A ↔ C1 = r := by omega
  have k5 : M ≤ A ↔ C1 ≤ r := by omega
  refine ⟨n + x * 4503599627370496, hk, by rw [hP]; omega, .inl (by rw [hQ]; exact k2), ?_⟩
  rw [hP, hM, if_neg (show ¬ P = A by omega)]
  have hu : up = upM mode neg (n + x * 4503599627370496) A M := by
    rw [hup]
    unfold upM
    rw [decide_eq_decide.2 k3, decide_eq_decide.2 k4, decide_eq_decide.2 k5, hbit]
    by_cases m0 : mode = 0
    · rw [if_pos m0, if_pos m0]
      have e4 : (n + x * 4503599627370496) % 2 = n % 2 := by omega
      rw [e4]
      by_cases a1 : C1 < r
      · have a2 : ¬ cut = 1 := fun e => by have := hone e; omega
        rw [decide_eq_true (Nat.le_of_lt a1), decide_eq_true a1, decide_eq_false a2]; simp
      · by_cases a2 : C1 = r
        · have a3 := (honly.1 a2.symm).2
          rw [decide_eq_true (Nat.le_of_eq a2), decide_eq_false a1, decide_eq_true a2, decide_eq_true a3]; simp
        · rw [decide_eq_false (show ¬ C1 ≤ r by omega), decide_eq_false a1, decide_eq_false a2]; simp
    · rw [if_neg m0, if_neg m0]
      by_cases m4 : mode = 4
      · rw [if_pos m4, if_neg (by omega), if_neg (by omega), if_pos m4]
      · rw [if_neg m4, if_neg m4]
  rw [hu]
  split <;> omega
/-- A value that is too great. -/
theorem near_beyond {m : Nat} {e : Int} {neg : Bool} {mode : Int} (h0 : m ≠ 0) (hb : 1024 < (bl m : Int) + e) (hm : 0 ≤ mode ∧ mode ≤ 4) :
    IsNear (dyA m e) (dyB e) neg mode (if mode = 1 ∨ (mode = 2 ∧ neg = true) ∨ (mode = 3 ∧ neg = false) then 9218868437227405311 else 9218868437227405312) := by
  have hbp := bl_pos h0
  obtain ⟨t, ht⟩ : ∃ t : Nat, e + 1075 = (t : Int) - ((bl m - 1 : Nat) : Int) := ⟨(e + 1075 + ((bl m - 1 : Nat) : Int)).toNat, by omega⟩
  have hs := dy_scale (m := m) ht
  have hB := dyB_pos e
  obtain ⟨T, hT⟩ : ∃ T : Nat, T = 2046 := ⟨_, rfl⟩
  have hE : nz 9218868437227405312 = 4503599627370496 * 2 ^ T := by
    have := nz_form (n := 4503599627370496) (x := T) (by omega) (.inr (by omega))
    rwa [show 4503599627370496 + T * 4503599627370496 = 9218868437227405312 by omega] at this
  have hk : 9218868437227405311 + 1 = 9218868437227405312 := by omega
  have hlt : nz 9218868437227405311 < nz 9218868437227405312 := nz_mono (by omega)
  have hA : 2 * nz 9218868437227405312 * dyB e ≤ dyA m e := by
    have h1 : 2 ^ (bl m - 1) * 2 ^ (52 + T + 1) ≤ m * 2 ^ t := Nat.mul_le_mul (bl_low h0) (Nat.pow_le_pow_right (by decide) (by omega))
    have h2 := Nat.mul_le_mul_right (dyB e) h1
    rw [← hs] at h2
    have h3 : 2 * nz 9218868437227405312 = 2 ^ (52 + T + 1) := by
      rw [hE, show (4503599627370496 : Nat) = 2 ^ 52 by decide, ← Nat.pow_add, Nat.pow_succ' (n := 52 + T)]
    rw [h3]
    have h4 : 2 ^ (52 + T + 1) * dyB e * 2 ^ (bl m - 1) ≤ dyA m e * 2 ^ (bl m - 1) := by
      rw [Nat.mul_assoc, Nat.mul_comm (dyB e), ← Nat.mul_assoc, Nat.mul_comm (2 ^ (52 + T + 1))]; exact h2
    exact Nat.le_of_mul_le_mul_right h4 (Nat.two_pow_pos _)
  generalize dyA m e = A at *
  generalize dyB e = B at *
  have h1 : 2 * nz 9218868437227405311 * B < A := Nat.lt_of_lt_of_le (Nat.mul_lt_mul_of_pos_right (by omega) hB) hA
  have h2 : (nz 9218868437227405311 + nz (9218868437227405311 + 1)) * B < A := Nat.lt_of_lt_of_le (Nat.mul_lt_mul_of_pos_right (by rw [hk]; omega) hB) hA
  refine ⟨9218868437227405311, by omega, Nat.le_of_lt h1, .inr hk, ?_⟩
  rw [if_neg (Nat.ne_of_lt h1)]
  generalize (nz 9218868437227405311 + nz (9218868437227405311 + 1)) * B = M at *
  unfold upM
  rcases (by omega : mode = 0 ∨ mode = 1 ∨ mode = 2 ∨ mode = 3 ∨ mode = 4) with rfl | rfl | rfl | rfl | rfl
  · simp [h2]
  · simp
  · cases neg <;> simp
  · cases neg <;> simp
  · simp [Nat.le_of_lt h2]
end Go.Proofs.YtphnpchmdpjabaaGreatDoor.Wd

/- Package dyad: rounding. No condition. -/
namespace Go.Proofs.YtphnpchmdpjabaaGreatDoor
open Go Sx Wd

def awayM (mode : Int) (neg : Bool) (n : Nat) (half only : Bool) : Bool := if mode = 0 then (half && (!only || decide (n % 2 = 1))) else if mode = 4 then half else if mode = 2 then !neg else if mode = 3 then neg else false

theorem away_spec (mode : Int) (neg : Bool) (n : Nat) (half only : Bool) (w : World) (hn : n < 18446744073709551616) : Ret Tryz.prog 191 [.int .i64 mode, .bool neg, .int .u64 (n : Int), .bool half, .bool only] w fun u w' => u = .bool (awayM mode neg n half only) ∧ w = w' := by
 refine Ret.enter Tryz.func191 rfl rfl ?_
 simp only [args0, Nat.zero_add, Nat.reduceAdd]
 refine Sr fun _ kh1 => za rfl (zz (kh1 (zc fun _ kh3 => Sr fun _ kh4 => zm rfl (zz (kh4 ?_)))))
 refine CW.block ?_
 refine Sr fun _ kh6 => zq rfl rfl (za rfl (zz (kh6 ?_)))
 refine CW.cond rfl (fun hc1 => ?_) (fun hc1 => ?_)
 ·
  try simp only [qs] at hc1
  refine Sr fun _ kh8 => zm rfl (zm rfl ?_)
  refine WL.boolCase (fun hg2 => ?_) (fun hg2 => ?_)
  ·
   try simp only [qs] at hg2
   refine zw rfl (zm rfl (zw rfl ?_))
   refine WL.ev (Ev.not rfl) rfl ?_
   refine zw rfl (zm rfl ?_)
   refine WL.boolCase (fun hg3 => ?_) (fun hg3 => ?_)
   ·
    try simp only [qs] at hg3
    refine zv rfl (zv rfl (zv rfl (zw rfl (zt rfl rfl (zt rfl rfl (za rfl (zz (kh8 ?_))))))))
    refine CW.ret ?_
    refine bodyA.ret1 rfl rfl ?_
    have h0 : mode = 0 := by omega
    refine ⟨?_, rfl⟩
    unfold awayM; rw [if_pos h0, hg2, hg3]; rfl
   ·
    try simp only [qs] at hg3
    refine zw rfl (zm rfl (zw rfl ?_))
    refine WL.ev (Ev.andU (b := 1) rfl rfl rfl (by simp only [IntKind.bits]; omega) (by simp only [IntKind.bits]; omega)) rfl ?_
    rw [Nat.and_one_is_mod]
    refine zw rfl (zq rfl rfl (zw rfl (ze rfl rfl (zt rfl rfl (za rfl (zz (kh8 ?_)))))))
    refine CW.ret ?_
    refine bodyA.ret1 rfl rfl ?_
    have h0 : mode = 0 := by omega
    refine ⟨?_, rfl⟩
    unfold awayM; rw [if_pos h0, hg2, hg3]
    congr 1
    simp only [Bool.true_and, Bool.not_true, Bool.false_or]
    refine decide_eq_decide.2 ?_
    omega
  ·
   try simp only [qs] at hg2
   refine zv rfl (zv rfl (zv rfl (zu rfl (zu rfl (zu rfl (zv rfl (ze rfl rfl (za rfl (zz (kh8 ?_))))))))))
   refine CW.ret ?_
   refine bodyA.ret1 rfl rfl ?_
   have h0 : mode = 0 := by omega
   refine ⟨?_, rfl⟩
   unfold awayM; rw [if_pos h0, hg2]; rfl
 ·
  try simp only [qs] at hc1
  refine Sr fun _ kh10 => zq rfl rfl (za rfl (zz (kh10 ?_)))
  refine CW.cond rfl (fun hc4 => ?_) (fun hc4 => ?_)
  ·
   try simp only [qs] at hc4
   refine Sr fun _ kh12 => zm rfl (za rfl (zz (kh12 ?_)))
   refine CW.ret ?_
   refine bodyA.ret1 rfl rfl ?_
   refine ⟨?_, rfl⟩
   unfold awayM; rw [if_neg (by omega), if_pos (by omega)]
  ·
   try simp only [qs] at hc4
   refine Sr fun _ kh14 => zq rfl rfl (za rfl (zz (kh14 ?_)))
   refine CW.cond rfl (fun hc5 => ?_) (fun hc5 => ?_)
   ·
    try simp only [qs] at hc5
    refine Sr fun _ kh16 => zm rfl ?_
    refine WL.ev (Ev.not rfl) rfl ?_
    refine za rfl (zz (kh16 ?_))
    refine CW.ret ?_
    refine bodyA.ret1 rfl rfl ?_
    refine ⟨?_, rfl⟩
    unfold awayM; rw [if_neg (by omega), if_neg (by omega), if_pos (by omega)]
   ·
    try simp only [qs] at hc5
    refine Sr fun _ kh18 => zq rfl rfl (za rfl (zz (kh18 ?_)))
    refine CW.cond rfl (fun hc6 => ?_) (fun hc6 => ?_)
    ·
     try simp only [qs] at hc6
     refine Sr fun _ kh20 => zm rfl (za rfl (zz (kh20 ?_)))
     refine CW.ret ?_
     refine bodyA.ret1 rfl rfl ?_
     refine ⟨?_, rfl⟩
     unfold awayM; rw [if_neg (by omega), if_neg (by omega), if_neg (by omega), if_pos (by omega)]
    ·
     try simp only [qs] at hc6
     refine CW.skip ?_
     refine kh3 (Sr fun _ kh22 => za rfl (zz (kh22 ?_)))
     refine CW.ret ?_
     refine bodyA.ret1 rfl rfl ?_
     refine ⟨?_, rfl⟩
     unfold awayM; rw [if_neg (by omega), if_neg (by omega), if_neg (by omega), if_neg (by omega)]

theorem on_fits {m : Nat} {e ex : Int} {c : Nat} (h0 : m ≠ 0) (hex : max ((bl m : Int) + e - 53) (-1074) = ex) (ht : (bl m : Int) + e ≤ 1024) (hc : (c : Int) = e - ex) : m * 2 ^ c < 9007199254740992 ∧ ((ex + 1074).toNat = 0 ∨ 4503599627370496 ≤ m * 2 ^ c) ∧ m * 2 ^ c + (ex + 1074).toNat * 4503599627370496 < 9218868437227405312 := by
  have hb := bl_mul_pow h0 c
  have h1 : m * 2 ^ c < 9007199254740992 := bl_le.1 (show bl (m * 2 ^ c) ≤ 53 by omega)
  refine ⟨h1, ?_, by omega⟩
  by_cases hx : ex = -1074
  · left; omega
  · right
    exact lt_bl.1 (show 52 < bl (m * 2 ^ c) by omega)
theorem on_cuts {m : Nat} {e ex : Int} {c : Nat} (h0 : m ≠ 0) (hex : max ((bl m : Int) + e - 53) (-1074) = ex) (ht : (bl m : Int) + e ≤ 1024) (hc : (c : Int) = ex - e) : m / 2 ^ c < 9007199254740992 ∧ ((ex + 1074).toNat = 0 ∨ 4503599627370496 ≤ m / 2 ^ c) ∧ m / 2 ^ c + (ex + 1074).toNat * 4503599627370496 < 9218868437227405312 := by
  have h1 : m / 2 ^ c < 9007199254740992 := by
    rw [Nat.div_lt_iff_lt_mul (Nat.two_pow_pos c), show (9007199254740992 : Nat) = 2 ^ 53 by decide, ← Nat.pow_add]
    exact bl_le.1 (by omega)
  refine ⟨h1, ?_, by omega⟩
  by_cases hx : ex = -1074
  · left; omega
  · right
    rw [Nat.le_div_iff_mul_le (Nat.two_pow_pos c), show (4503599627370496 : Nat) = 2 ^ 52 by decide, ← Nat.pow_add]
    exact lt_bl.1 (by omega)

set_option maxRecDepth 4000 in
theorem beyond_spec (neg : Bool) (mode : Int) (w : World) : Ret Tryz.prog 189 [.agg [.int .i64 53, .int .i64 (-1074), .int .u64 9218868437227405312].toArray, .bool neg, .int .i64 mode] w fun u w' => u = .int .u64 (((if mode = 1 ∨ (mode = 2 ∧ neg = true) ∨ (mode = 3 ∧ neg = false) then 9218868437227405311 else 9218868437227405312) : Nat) : Int) ∧ Chg [] w w' := by
 have hch : Chg [] w w := Chg.refl _ _
 refine Ret.enter Tryz.func189 rfl rfl ?_
 simp only [args0, Nat.zero_add, Nat.reduceAdd]
 refine Sr fun _ kh1 => ?_
 refine WL.boxB rfl rfl rfl fun b3 wm3 hb3 hcm3 hge3 => ?_
 have hgehch3 := Nat.le_trans hch.size hge3
 have hch := hch.trans hcm3
 refine za rfl (zz (kh1 (zc fun _ kh3 => ?_)))
 refine CW.seqM 23 (decide (mode = 1 ∨ (mode = 2 ∧ neg = true) ∨ (mode = 3 ∧ neg = false))) ?_ ?_
 ·
  refine CW.region fun kR4 kr4 => ?_
  refine zm rfl (zq rfl rfl (zm rfl ?_))
  refine WL.boolCase (fun hg1 => ?_) (fun hg1 => ?_)
  ·
   try simp only [qs] at hg1
   refine zv rfl (zv rfl (zv rfl (zu rfl (zv rfl (zt rfl rfl (zm rfl (zv rfl (zv rfl (zv rfl (zu rfl (zu rfl (zv rfl (zt rfl rfl ?_)))))))))))))
   refine WL.nil (kr4 _ _ _ ?_)
   refine ⟨rfl, rfl, Subs.consB rfl ?_ ?_⟩
   ·
    first | (simp; omega) | (cases neg <;> simp_all <;> omega) | (refine decide_eq_decide.2 ?_; omega) | (cases neg <;> simp_all)
   ·
    exact SMg
  ·
   try simp only [qs] at hg1
   refine zw rfl (zm rfl (zw rfl (zq rfl rfl (zw rfl (zm rfl ?_)))))
   refine WL.boolCase (fun hg2 => ?_) (fun hg2 => ?_)
   ·
    try simp only [qs] at hg2
    refine zw rfl (zm rfl (zw rfl (zt rfl rfl (ze rfl rfl (zm rfl ?_)))))
    refine WL.boolCase (fun hg3 => ?_) (fun hg3 => ?_)
    ·
     try simp only [qs] at hg3
     refine zv rfl (zv rfl (zv rfl (zu rfl (zu rfl (zv rfl (zt rfl rfl ?_))))))
     refine WL.nil (kr4 _ _ _ ?_)
     refine ⟨rfl, rfl, Subs.consB rfl ?_ ?_⟩
     ·
      first | (simp; omega) | (cases neg <;> simp_all <;> omega) | (refine decide_eq_decide.2 ?_; omega) | (cases neg <;> simp_all)
     ·
      exact SMg
    ·
     try simp only [qs] at hg3
     refine zw rfl (zm rfl (zw rfl (zq rfl rfl (zw rfl (zm rfl ?_)))))
     refine WL.boolCase (fun hg4 => ?_) (fun hg4 => ?_)
     ·
      try simp only [qs] at hg4
      refine zw rfl (zm rfl (zw rfl ?_))
      refine WL.ev (Ev.not rfl) rfl ?_
      refine zw rfl (zt rfl rfl (ze rfl rfl ?_))
      refine WL.nil (kr4 _ _ _ ?_)
      refine ⟨rfl, rfl, Subs.consB rfl ?_ ?_⟩
      ·
       first | (simp; omega) | (cases neg <;> simp_all <;> omega) | (refine decide_eq_decide.2 ?_; omega) | (cases neg <;> simp_all)
      ·
       exact SMg
     ·
      try simp only [qs] at hg4
      refine zv rfl (zv rfl (zw rfl (ze rfl rfl (ze rfl rfl ?_))))
      refine WL.nil (kr4 _ _ _ ?_)
      refine ⟨rfl, rfl, Subs.consB rfl ?_ ?_⟩
      ·
       first | (simp; omega) | (cases neg <;> simp_all <;> omega) | (refine decide_eq_decide.2 ?_; omega) | (cases neg <;> simp_all)
      ·
       exact SMg
   ·
    try simp only [qs] at hg2
    refine zv rfl (zw rfl (ze rfl rfl (ze rfl rfl (zm rfl (zw rfl (zm rfl (zw rfl (zq rfl rfl (zw rfl (zm rfl ?_))))))))))
    refine WL.boolCase (fun hg5 => ?_) (fun hg5 => ?_)
    ·
     try simp only [qs] at hg5
     refine zw rfl (zm rfl (zw rfl ?_))
     refine WL.ev (Ev.not rfl) rfl ?_
     refine zw rfl (zt rfl rfl (ze rfl rfl ?_))
     refine WL.nil (kr4 _ _ _ ?_)
     refine ⟨rfl, rfl, Subs.consB rfl ?_ ?_⟩
     ·
      first | (simp; omega) | (cases neg <;> simp_all <;> omega) | (refine decide_eq_decide.2 ?_; omega) | (cases neg <;> simp_all)
     ·
      exact SMg
    ·
     try simp only [qs] at hg5
     refine zv rfl (zv rfl (zw rfl (ze rfl rfl (ze rfl rfl ?_))))
     refine WL.nil (kr4 _ _ _ ?_)
     refine ⟨rfl, rfl, Subs.consB rfl ?_ ?_⟩
     ·
      first | (simp; omega) | (cases neg <;> simp_all <;> omega) | (refine decide_eq_decide.2 ?_; omega) | (cases neg <;> simp_all)
     ·
      exact SMg
 ·
  refine CW.cond rfl (fun hc6 => ?_) (fun hc6 => ?_)
  ·
   try simp only [qs] at hc6
   refine Sr fun _ kh5 => zf rfl (zl hb3 rfl rfl ?_)
   refine WL.ev (Ev.sub64In (a := 9218868437227405312) (b := 1) rfl rfl (by omega) (by omega)) rfl ?_
   refine za rfl (zz (kh5 ?_))
   refine CW.ret ?_
   refine bodyA.ret1 rfl rfl ?_
   rw [if_pos hc6]
   exact ⟨rfl, hch⟩
  ·
   try simp only [qs] at hc6
   refine CW.skip ?_
   refine kh3 (Sr fun _ kh7 => zf rfl (zl hb3 rfl rfl (za rfl (zz (kh7 ?_)))))
   refine CW.ret ?_
   refine bodyA.ret1 rfl rfl ?_
   rw [if_neg hc6]
   exact ⟨rfl, hch⟩

end Go.Proofs.YtphnpchmdpjabaaGreatDoor
