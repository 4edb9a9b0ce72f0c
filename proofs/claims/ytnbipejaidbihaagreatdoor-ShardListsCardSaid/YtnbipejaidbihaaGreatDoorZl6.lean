/- Part 6 of what the proof rests on. No condition. -/
import Derived.Test.YtnbipejaidbihaaGreatDoorZl5
import Derived.RangeFuncLeaves
import Derived.RangeFuncRecord
import Derived.TacticsIn
set_option linter.unusedVariables false
set_option linter.unusedSimpArgs false
set_option maxRecDepth 100000
set_option maxHeartbeats 4000000
namespace Go.Proofs.YtnbipejaidbihaaGreatDoor
/- A shard that is read: Decode. No condition. -/
section
open Go Sx Wd Fl

theorem Decode_spec21 (a : Option Addr) (bs : List Nat) (c : Nat) (w : World) (hr : RW w a (bs.map u8v)) (hcap : bs.length ≤ c) (hab : ∀ ad, a = some ad → ad.block < w.heap.size) (hB : B8 bs) (hL : bs.length ≤ 70368744177664) (hg : GW w) : Ret Tryz.prog 26 [.slice a bs.length c] w fun u w' => ((∃ S b, decS bs = some S ∧ u = .tuple [.pointer (some ⟨b, 0, none⟩), .int .i64 0].toArray ∧ ShM 109 w' b S ∧ w.heap.size ≤ b ∧ S.wf) ∨ (decS bs = none ∧ u = .tuple [.pointer none, .int .i64 210].toArray)) ∧ Chg [] w w' := by
 have hch := crf w;have hg0 := hg;refine zE1 Tryz.func26 rfl ?_;refine Sr fun _ kh1 => za rfl (za rfl (zz (kh1 ?_)));refine Sq fun _ kh3 _ kr4 => ?_;refine zm rfl ?_;refine WL.ev (Ev.build (vs := _) (cs := [_, _]) rfl rfl) rfl ?_;refine zBh rfl rfl rfl hch fun b10 wm10 hb10 hcm10 hge10 hgehch10 hch => ?_;refine za rfl ?_;refine WL.nil (kr4 _ _ _ ?_);have hT : TpM (b10 + 1) _ b10 bs 0 false := ⟨a, c, by rw [Nat.sub_zero]; exact hb10, by rw [List.drop_zero]; exact hr.keep0 hch, Nat.zero_le _, by omega, Nat.lt_succ_self _, fun ad e => by have := hab ad e; omega⟩;have hlt10 := hb10.lt;refine kh3 _ _ _ ?_;refine Sq fun _ kh5 _ kr6 => ?_;refine WL.ev (Ev.build (vs := _) (cs := [_, _, _, _, _, _, _, _, _, _, _, _, _, _]) rfl rfl) rfl ?_;refine zBh rfl rfl rfl hch fun b12 wm12 hb12 hcm12 hge12 hgehch12 hch => ?_;have hT := hT.keep0 hcm12;refine za rfl ?_;refine WL.nil (kr6 _ _ _ ?_);have hlt12 : b10 + 1 ≤ b12 := by omega
 refine kh5 _ _ _ ?_;refine zc fun _ kh7 => zc fun _ kh8 => ?_;refine CW.regionHC 27 rfl hmix fun kR9 kr9 hS hdr => ?_;have hch := hch.ta hdr;have hb12 := hb12.keep0 hdr;have hT := hT.keep0 hdr;have hb12_r := hb12;refine wh 0 rfl hS (eM rfl) (wh 1 rfl hS (eP rfl) (wh 2 rfl hS (eF rfl) (wh 3 rfl hS (eF rfl) (wh 4 rfl hS (eM rfl) (wh 5 rfl hS (eP rfl) (wh 6 rfl hS (eF rfl) (wh 7 rfl hS (eF rfl) (wh 8 rfl hS (eM rfl) (wh 9 rfl hS (eP rfl) (wh 10 rfl hS (eF rfl) (wh 11 rfl hS (eF rfl) (wh 12 rfl hS (eM rfl) (wh 13 rfl hS (eP rfl) (wh 14 rfl hS (eF rfl) (wh 15 rfl hS (eF rfl) (wh 16 rfl hS (eM rfl) (wh 17 rfl hS (eP rfl) (wh 18 rfl hS (eF rfl) (wh 19 rfl hS (eF rfl) (wh 20 rfl hS (eM rfl) (wh 21 rfl hS (eP rfl) (wh 22 rfl hS (eF rfl) (wh 23 rfl hS (eF rfl) ?_)))))))))))))))))))))));refine wh 26 rfl hS (eM rfl) ?_;refine WH.buildSliceC (m := 6) (cs := [.pointer (some ⟨b12, 0, none⟩), .pointer (some ⟨b12, 1, none⟩), .pointer (some ⟨b12, 2, none⟩), .pointer (some ⟨b12, 3, none⟩), .pointer (some ⟨b12, 4, none⟩), .pointer (some ⟨b12, 5, none⟩)]) 24 rfl (by kernel_rfl) hS (by decide) (by decide) rfl (by kernel_rfl) rfl fun b37 w37 hn37 hS => ?_;have hb37 := hn37.at_;have hge37 := hn37.ge;have hl12 := hb12.lt;have hT := hT.keep0 hn37.chg;have hb12 := hb12.keep0 hn37.chg;have hch := hch.trans (Chg.any hn37.chg);refine wh 25 rfl hS (fun _ _ => Ev.len rfl) ?_;refine WH.done (by kernel_rfl) (kr9 _ _ _ ?_);refine kh8 (CW.block ?_);refine CW.loop (S := fun i : Nat => [(2, .pointer none), (3, .int .i64 0), (4, .pointer (some ⟨b10, 0, none⟩)), (5, .pointer (some ⟨b12, 0, none⟩)), (37, .slice (some ⟨b37, 0, none⟩) 6 6), (38, .int .i64 6), (39, .int .i64 (i : Int))]) (Inv := KDc b10 b12 b37 bs w) (mu := fun i => 6 - i) (0) ?_ ?_ ?_
 ·exact ⟨Nat.zero_le _, hT, hb12, hb37, hch⟩
 ·exact SLp
 rintro i wr ⟨hi, hT, hb12, hb37, hch⟩;have hne3 : b37 ≠ b12 ∧ b37 ≠ b10 := ⟨by omega, by omega⟩;refine Sr fun _ kh10 => zL rfl rfl (zz (kh10 (zc fun _ kh12 => ?_)));refine zy rfl ?_ ?_<;>intro hc1<;>try simp only [qs] at hc1
 ·have hi6 : i < 6 := by have := hc1; omega
  have hkl := rdK_len bs i;refine zkk (kh12 (zc fun _ kh13 => CW.block (Sr fun _ kh14 => ?_)));refine WL.ev (Ev.ixB (i) rfl rfl (by omega) (by omega)) rfl ?_;refine WL.ev (Ev.load (v := .pointer (some ⟨b12, i, none⟩)) rfl rfl (hb37.at_ (ptr6 hi6))) rfl ?_;refine za rfl (zz (kh14 ?_));refine zR fun _ kr16 => ?_;refine zm rfl (zm rfl ?_);refine WL.call hasF84 rfl rfl (count_spec21 (b10 + 1) b10 _ bs _ _ hT hL hB) fun v w1 h' => ?_;obtain ⟨rfl, hT, hC⟩ := h';have hb12 := hb12.keep hC (by simp; omega);have hb37 := hb37.keep hC (by simp; omega);have hch := hch.step hC (fun y hy => .inr (by rw [List.mem_singleton.1 hy]; omega));have hK1 : rdK bs (i + 1) = ((rdK bs i).1 ++ [(rdC bs (rdK bs i).2.1 (rdK bs i).2.2).1], (rdC bs (rdK bs i).2.1 (rdK bs i).2.2).2) := by rw [rdK]
  refine zP rfl ?_;refine WL.storeC rfl rfl rfl hb12 (by show i < 14; omega) rfl fun ws6 hb12_ hcs6 => ?_;rw [cells14_set hkl hi6] at hb12_;have hT := hT.keepBK hb12 hcs6 (by intro v hv; simp only [cells14, List.mem_cons, List.not_mem_nil, or_false] at hv; rcases hv with rfl | rfl | rfl | rfl | rfl | rfl | rfl | rfl | rfl | rfl | rfl | rfl | rfl | rfl <;> rfl) hlt12;have hb37 := hb37.keep hcs6 (by simp; omega);have hch := hch.step hcs6 (fun y hy => .inr (by rw [List.mem_singleton.1 hy]; omega));have hb12 := hb12_;refine WL.nil (kr16 _ _ _ (kh13 ?_));refine zS fun _ kr17 => ?_;(first | refine zi rfl rfl ?_ | refine zo rfl rfl ?_);refine zm rfl (zz (kr17 ?_));refine ⟨rfl, i + 1, ?_, ?_, ?_⟩
  ·exact SLp
  ·refine ⟨by omega, ?_, ?_, hb37, hch⟩
   · rw [hK1]; exact hT
   rw [hK1]; exact hb12
  show 6 - (i + 1) < 6 - i; omega
 have hi6 : i = 6 := by have := hc1; omega
 subst hi6;have hkl := rdK_len bs 6;have hkle := rdK_le bs 6;generalize hRK : rdK bs 6 = RK at *;obtain ⟨l, p6, d6⟩ := RK
 try dsimp only
 dsimp only at hT hb12 hkl hkle;obtain ⟨n1, n2, n3, n4, n5, n6, rfl⟩ := list6 hkl;obtain ⟨s, hs⟩ : ∃ s : SP, s = spOf [n1, n2, n3, n4, n5, n6] := ⟨_, rfl⟩;have hsle : s.le 1099511627776 := by rw [hs]; exact ⟨hkle _ (by simp [spOf]), hkle _ (by simp [spOf]), hkle _ (by simp [spOf]), hkle _ (by simp [spOf]), hkle _ (by simp [spOf]), hkle _ (by simp [spOf])⟩
 have hb12 : BK wr b12 109 [.int .i64 (s.na : Int), .int .i64 (s.up : Int), .int .i64 (s.dn : Int), .int .i64 (s.mi : Int), .int .i64 (s.pl : Int), .int .i64 (s.al : Int), .bool false, .slice none 0 0, .int .i64 0, .bool false, .slice none 0 0, .int .i64 0, .float .f64 0, .float .f64 0] := by rw [hs]; exact hb12
 obtain ⟨hs1, hs2, hs3, hs4, hs5, hs6⟩ := id hsle;refine CW.exit ?_;refine kh7 (zc fun _ kh18 => ?_);refine CW.seqMC 67 (decide (d6 = true ∨ (Sh.mk s Dy.zero Dy.zero 0 0).fin < (s.mi : Int) + s.pl)) ?_ ?_
 ·intro hcM;refine CW.regionHC 20 rfl hmix fun kR19 kr19 hS hdr => ?_;have hcM := hcM.ta hdr;have hb12 := hb12.keep0 hdr;have hT := hT.keep0 hdr;have hb12_r := hb12;obtain ⟨at8, ct8, hbt, hrt, -⟩ := id hT;have hbt_r := hbt;refine wh 0 rfl hS (eM rfl) (wh 1 rfl hS (eP rfl) (wh 2 rfl hS (eF rfl) (wh 3 rfl hS (fun _ hw' => Ev.load (v := .bool d6) rfl rfl ((hbt_r.keep0 hw').at_ rfl)) ?_)));cases d6
  ·refine wh 4 rfl hS (eM rfl) (wg 5 rfl rfl rfl rfl rfl hS (eM rfl) (wg 7 rfl rfl rfl rfl rfl hS (eM rfl) (wg 8 rfl rfl rfl rfl rfl hS (eP rfl) (wg 9 rfl rfl rfl rfl rfl hS (eF rfl) (wg 10 rfl rfl rfl rfl rfl hS (eF rfl) (wg 11 rfl rfl rfl rfl rfl hS (fun _ hw' => Ev.load rfl rfl ((hb12_r.keep0 hw').at_ rfl)) (wg 12 rfl rfl rfl rfl rfl hS (eM rfl) (wg 13 rfl rfl rfl rfl rfl hS (eP rfl) (wg 14 rfl rfl rfl rfl rfl hS (eF rfl) (wg 15 rfl rfl rfl rfl rfl hS (eF rfl) (wg 16 rfl rfl rfl rfl rfl hS (fun _ hw' => Ev.load rfl rfl ((hb12_r.keep0 hw').at_ rfl)) (wg 17 rfl rfl rfl rfl rfl hS (fun _ _ => Ev.addIn rfl rfl (by omega)) ?_))))))))))));refine WH.oneCallG 6 rfl (by kernel_rfl) rfl rfl rfl rfl hasF85 rfl rfl (finite_spec b12 (Sh.mk s Dy.zero Dy.zero 0 0) _ ⟨_, _, hb12, (by rw [show (Sh.mk s Dy.zero Dy.zero 0 0).V.m = 0 from rfl, wd_zero]; exact NU.nil), (by rw [show (Sh.mk s Dy.zero Dy.zero 0 0).Q.m = 0 from rfl, wd_zero]; exact NU.nil)⟩ hsle) fun v w2 h' => ?_;obtain ⟨rfl, hC⟩ := h';have hcM := hcM.ta hC;have hS := hS.trans hC;refine ⟨hS, ?_⟩;refine wg 18 rfl rfl rfl rfl rfl hS (fun _ _ => Ev.lss rfl rfl) (wh 19 rfl hS (fun _ _ => Ev.pickF rfl rfl rfl) ?_);refine WH.done (by kernel_rfl) (kr19 _ _ _ ?_);refine ⟨rfl, hcM, Subs.consB rfl ?_ ?_⟩
   ·first | (simp_all; done) | (refine decide_eq_decide.2 ?_; omega) | (refine (decide_eq_true ?_).symm; omega) | (refine (decide_eq_false ?_).symm; omega)
   exact SMg
  refine wh 4 rfl hS (eM rfl) (wp 5 rfl rfl rfl rfl rfl hS (wp 7 rfl rfl rfl rfl rfl hS (wp 8 rfl rfl rfl rfl rfl hS (wp 9 rfl rfl rfl rfl rfl hS (wp 10 rfl rfl rfl rfl rfl hS (wp 11 rfl rfl rfl rfl rfl hS (wp 12 rfl rfl rfl rfl rfl hS (wp 13 rfl rfl rfl rfl rfl hS (wp 14 rfl rfl rfl rfl rfl hS (wp 15 rfl rfl rfl rfl rfl hS (wp 16 rfl rfl rfl rfl rfl hS (wp 17 rfl rfl rfl rfl rfl hS ?_))))))))))));refine WH.passG1 6 rfl (by kernel_rfl) rfl rfl rfl rfl hS rfl ?_;refine wp 18 rfl rfl rfl rfl rfl hS (wh 19 rfl hS (fun _ _ => Ev.pickT rfl rfl rfl) ?_);refine WH.done (by kernel_rfl) (kr19 _ _ _ ?_);refine ⟨rfl, hcM, Subs.consB rfl ?_ ?_⟩
  ·first | (simp_all; done) | (refine decide_eq_decide.2 ?_; omega) | (refine (decide_eq_true ?_).symm; omega) | (refine (decide_eq_false ?_).symm; omega)
  exact SMg
 intro wM hcM;have hch := hch.ta hcM;have hb12 := hb12.keep0 hcM;have hT := hT.keep0 hcM;refine zy rfl ?_ ?_<;>intro hc2<;>try simp only [qs] at hc2
 ·have h1 : d6 = true ∨ (Sh.mk s Dy.zero Dy.zero 0 0).fin < (s.mi : Int) + s.pl := by simpa using hc2
  have hD : decS bs = none := by unfold decS; rw [hRK]; exact if_pos (by rw [hs] at h1; exact h1)
  refine Sr fun _ kh20 => za rfl (za rfl (zz (kh20 ?_)));refine zr (zr2 rfl rfl rfl ?_);refine ⟨.inr ⟨hD, rfl⟩, hch⟩
 have h1 : ¬ (d6 = true ∨ (Sh.mk s Dy.zero Dy.zero 0 0).fin < (s.mi : Int) + s.pl) := by simpa using hc2
 have hD0 : decS bs = decD bs s (rdD bs p6 d6) := by unfold decS; rw [hRK]; dsimp only; rw [← hs]; exact if_neg h1
 refine zkk (kh18 (Sr fun _ kh22 => zm rfl (zm rfl (zm rfl ?_))));refine WL.call hasF86 rfl rfl (tdyad_spec (b10 + 1) b10 p6 bs d6 _ hT hL hB (Nat.le_trans hlt12 (Nat.le_of_lt hb12.lt))) fun v w3 h' => ?_;obtain ⟨sl1, rfl, hN1, hT, hC⟩ := h';have hV := rdD_ok hB (p := p6) (bad := d6);generalize hRV : rdD bs p6 d6 = RV at *;obtain ⟨ng1, ws1, e1, p7, d7⟩ := RV
 try dsimp only
 dsimp only at hT hN1 hV hD0;have ho1 := hN1.one;have hb12 := hb12.keep hC (by simp; omega);have hch := hch.step hC (fun y hy => .inr (by rw [List.mem_singleton.1 hy]; omega));refine zm rfl ?_;refine WL.call hasF86 rfl rfl (tdyad_spec (b10 + 1) b10 p7 bs d7 _ hT hL hB (Nat.le_trans hlt12 (Nat.le_of_lt hb12.lt))) fun v w4 h' => ?_;obtain ⟨sl2, rfl, hN2, hT_, hC⟩ := h';have hN1 := hN1.keepTp hT hC;have hT := hT_;have hQ := rdD_ok hB (p := p7) (bad := d7);have hD1 : decS bs = decV bs s (ng1, ws1, e1, p7, d7) (rdD bs p7 d7) := hD0;generalize hRQ : rdD bs p7 d7 = RQ at *;obtain ⟨ng2, ws2, e2, p8, d8⟩ := RQ
 try dsimp only
 dsimp only at hT hN2 hQ;have ho2 := hN2.one;have hb12 := hb12.keep hC (by simp; omega);have hch := hch.step hC (fun y hy => .inr (by rw [List.mem_singleton.1 hy]; omega));refine zP rfl (zf rfl ?_);refine zss rfl rfl ao hb12 rfl fun ws18 hb12_ hcs18 => ?_;(try simp only [Sx.splice, qt] at hb12_);have hch := hch.s1 hcs18;have hT := hT.keepBK hb12 hcs18 an;have hN1 := hN1.keepBK hb12 hcs18 an;have hN2 := hN2.keepBK hb12 hcs18 an;have hb12 := hb12_;refine zP rfl (zf rfl ?_);refine zss rfl rfl ao hb12 rfl fun ws19 hb12_ hcs19 => ?_;(try simp only [Sx.splice, qt] at hb12_);have hch := hch.s1 hcs19;have hT := hT.keepBK hb12 hcs19 an;have hN1 := hN1.keepBK hb12 hcs19 an;have hN2 := hN2.keepBK hb12 hcs19 an;have hb12 := hb12_;refine zz (kh22 ?_);refine CW.seqJ (fun D s' w' => D = [] ∧ (∃ lo hi q bd, rdE (decide (s.na < s.al)) bs p8 d8 = (lo, hi, q, bd) ∧ lo < 18446744073709551616 ∧ hi < 18446744073709551616 ∧ TpM (b10 + 1) w' b10 bs q bd ∧ BK w' b12 109 [.int .i64 (s.na : Int), .int .i64 (s.up : Int), .int .i64 (s.dn : Int), .int .i64 (s.mi : Int), .int .i64 (s.pl : Int), .int .i64 (s.al : Int), .bool ng1, sl1, .int .i64 e1, .bool ng2, sl2, .int .i64 e2, .float .f64 lo, .float .f64 hi]) ∧ NU w' sl1 ws1 ∧ NU w' sl2 ws2 ∧ Chg [] w w' ∧ Subs [(2, .pointer none), (3, .int .i64 0), (4, .pointer (some ⟨b10, 0, none⟩)), (5, .pointer (some ⟨b12, 0, none⟩))] s') ?_ ?_
 ·refine Sr fun _ kh25 => zm rfl ?_;refine WL.call hasF64 rfl rfl (someB_spec b12 s _ _ _ _ _ _ _ _ _ hb12 hsle) fun v w5 h' => ?_;obtain ⟨rfl, hC⟩ := h';have hch := hch.ta hC;have hb12 := hb12.keep0 hC;have hT := hT.keep0 hC;have hN1 := hN1.keep0 hC;have hN2 := hN2.keep0 hC;refine zz (kh25 ?_);refine zy rfl ?_ ?_<;>intro hc3<;>try simp only [qs] at hc3
  ·have hsm : s.na < s.al := by simpa using hc3
   refine zS fun _ kr27 => zm rfl (zm rfl (zm rfl ?_));refine WL.call hasF88 rfl rfl (number_spec (b10 + 1) b10 _ bs _ 8 _ hT hL hB (by decide)) fun v w6 h' => ?_;obtain ⟨rfl, hT_, hC⟩ := h';have hN1 := hN1.keepTp hT hC;have hN2 := hN2.keepTp hT hC;have hT := hT_;have hm1 := rdN_lt hB p8 d8 8 (by decide);generalize hR1 : rdN bs p8 d8 8 = R1 at *;obtain ⟨m1, q1, x1⟩ := R1;dsimp only at hT hm1;dsimp only;have hb12 := hb12.keep hC (by simp; omega);have hch := hch.step hC (fun y hy => .inr (by rw [List.mem_singleton.1 hy]; omega));refine WL.ev (Ev.ext rfl (ext87 _ _)) rfl ?_;refine zm rfl ?_;refine WL.call hasF88 rfl rfl (number_spec (b10 + 1) b10 _ bs _ 8 _ hT hL hB (by decide)) fun v w7 h' => ?_;obtain ⟨rfl, hT_, hC⟩ := h';have hN1 := hN1.keepTp hT hC;have hN2 := hN2.keepTp hT hC;have hT := hT_;have hm2 := rdN_lt hB q1 x1 8 (by decide);generalize hR2 : rdN bs q1 x1 8 = R2 at *;obtain ⟨m2, q2, x2⟩ := R2;dsimp only at hT hm2;dsimp only;have hb12 := hb12.keep hC (by simp; omega);have hch := hch.step hC (fun y hy => .inr (by rw [List.mem_singleton.1 hy]; omega));refine WL.ev (Ev.ext rfl (ext87 _ _)) rfl ?_;refine zP rfl (zf rfl ?_);refine WL.storeC rfl rfl o1 hb12 (by simp) rfl fun ws20 hb12_ hcs20 => ?_;(try simp only [Sx.splice, qt] at hb12_);have hch := hch.s1 hcs20;have hT := hT.keepBK hb12 hcs20 an;have hN1 := hN1.keepBK hb12 hcs20 an;have hN2 := hN2.keepBK hb12 hcs20 an;have hb12 := hb12_;refine zP rfl (zf rfl ?_);refine WL.storeC rfl rfl o1 hb12 (by simp) rfl fun ws21 hb12_ hcs21 => ?_;(try simp only [Sx.splice, qt] at hb12_);have hch := hch.s1 hcs21;have hT := hT.keepBK hb12 hcs21 an;have hN1 := hN1.keepBK hb12 hcs21 an;have hN2 := hN2.keepBK hb12 hcs21 an;have hb12 := hb12_;refine zz (kr27 ?_);refine ⟨rfl, ⟨m1, m2, q2, x2, ?_, hm1, hm2, hT, ?_⟩, hN1, hN2, hch, (by first | ((repeat (first | exact Subs.refl | refine Subs.drop1 (by rfl) ?_)); done) | ((repeat (first | exact Subs.nil | refine Subs.cons rfl ?_)); done))⟩
   · unfold rdE; rw [if_pos (decide_eq_true hsm), hR1]; dsimp only; rw [hR2]
   exact hb12
  have hsm : ¬ s.na < s.al := by simpa using hc3
  refine zkk ?_;refine ⟨rfl, ⟨0, 0, p8, d8, ?_, by decide, by decide, hT, hb12⟩, hN1, hN2, hch, (by first | ((repeat (first | exact Subs.refl | refine Subs.drop1 (by rfl) ?_)); done) | ((repeat (first | exact Subs.nil | refine Subs.cons rfl ?_)); done))⟩;unfold rdE; rw [if_neg (by simpa using hsm)]
 rintro _ s' wJ ⟨rfl, ⟨lo, hi, q, bd, hE, hlo64, hhi64, hT, hb12⟩, hN1, hN2, hch, hsub⟩;refine CW.sub hsub ?_;have hD2 : decS bs = decE bs s (ng1, ws1, e1, p7, d7) (ng2, ws2, e2, p8, d8) (lo, hi, q, bd) := by rw [hD1, ← hE]; rfl
 have hd8 : bd = false → d8 = false := fun z => rdE_mono hE z;have hd7 : bd = false → d7 = false := fun z => rdD_mono hRQ (hd8 z);refine zc fun _ kh28 => ?_;refine CW.seqMC 117 (decide (bd = true ∨ 0 < bs.length - q ∨ ¬ sumsP (shOf s (ng1, ws1, e1, p7, d7) (ng2, ws2, e2, p8, d8) lo hi) ∨ ((shOf s (ng1, ws1, e1, p7, d7) (ng2, ws2, e2, p8, d8) lo hi).some ∧ ¬ endsP (shOf s (ng1, ws1, e1, p7, d7) (ng2, ws2, e2, p8, d8) lo hi)))) ?_ ?_
 ·intro hcM;obtain ⟨at13, ct13, hbt, hrt, -⟩ := id hT;refine zS fun _ kr29 => zm rfl (zP rfl (zf rfl ?_));refine WL.ev (Ev.load (v := .bool bd) rfl rfl (hbt.at_ rfl)) rfl ?_;refine zm rfl ?_;refine zb ?_ ?_<;>intro hg4<;>try simp only [qs] at hg4
  ·refine zv rfl (zv rfl (zv rfl (zv rfl (zv rfl (zv rfl (zt rfl rfl (zm rfl (zv rfl (zv rfl (zv rfl (zt rfl rfl (zm rfl (zv rfl (zv rfl (zv rfl (zu rfl (zu rfl (zu rfl (zv rfl (zt rfl rfl (zz (kr29 ?_))))))))))))))))))))));refine ⟨rfl, hcM, Subs.consB rfl ?_ ?_⟩
   ·first | (refine (decide_eq_true ?_).symm; simp_all; done) | (refine (decide_eq_false ?_).symm; simp_all; done) | (refine (decide_eq_true (.inr (.inl ?_))).symm; omega) | (by_cases he : endsP (shOf s (ng1, ws1, e1, p7, d7) (ng2, ws2, e2, p8, d8) lo hi) <;> simp_all [Sh.some, shOf]; done) | (refine decide_eq_decide.2 ?_; simp_all; done)
   exact SMg
  refine zw rfl (zm rfl (zw rfl (zP rfl (zw rfl (zf rfl (zw rfl ?_))))));refine WL.ev (Ev.load (v := .slice at13 (bs.length - q) ct13) rfl rfl (hbt.at_ rfl)) rfl ?_;refine zw rfl (zn rfl (zw rfl (zG rfl rfl (ze rfl rfl (zm rfl ?_)))));refine zb ?_ ?_<;>intro hg5<;>try simp only [qs] at hg5
  ·refine zv rfl (zv rfl (zv rfl (zt rfl rfl (zm rfl (zv rfl (zv rfl (zv rfl (zu rfl (zu rfl (zu rfl (zv rfl (zt rfl rfl (zz (kr29 ?_))))))))))))));refine ⟨rfl, hcM, Subs.consB rfl ?_ ?_⟩
   ·first | (refine (decide_eq_true ?_).symm; simp_all; done) | (refine (decide_eq_false ?_).symm; simp_all; done) | (refine (decide_eq_true (.inr (.inl ?_))).symm; omega) | (by_cases he : endsP (shOf s (ng1, ws1, e1, p7, d7) (ng2, ws2, e2, p8, d8) lo hi) <;> simp_all [Sh.some, shOf]; done) | (refine decide_eq_decide.2 ?_; simp_all; done)
   exact SMg
  refine zw rfl (zm rfl (zw rfl ?_));refine WL.call hasF89 rfl rfl (sums_spec21 b12 (shOf s (ng1, ws1, e1, p7, d7) (ng2, ws2, e2, p8, d8) lo hi) _ ⟨sl1, sl2, hb12, (by rw [show (shOf s (ng1, ws1, e1, p7, d7) (ng2, ws2, e2, p8, d8) lo hi).V.m = val ws1 from rfl, (hV (hd7 (by assumption))).1]; exact hN1), (by rw [show (shOf s (ng1, ws1, e1, p7, d7) (ng2, ws2, e2, p8, d8) lo hi).Q.m = val ws2 from rfl, (hQ (hd8 (by assumption))).1]; exact hN2)⟩ hsle (hV (hd7 (by assumption))).2 (hQ (hd8 (by assumption))).2 (hg0.keep0 hch)) fun v w8 h' => ?_;obtain ⟨rfl, hC⟩ := h';have hcM := hcM.ta hC;have hb12 := hb12.keep0 hC;have hN1 := hN1.keep0 hC;have hN2 := hN2.keep0 hC;refine zw rfl (zT rfl (ze rfl rfl (zm rfl ?_)));refine zb ?_ ?_<;>intro hg6<;>try simp only [qs] at hg6
  ·refine zv rfl (zv rfl (zv rfl (zu rfl (zu rfl (zu rfl (zv rfl (zt rfl rfl (zz (kr29 ?_)))))))));refine ⟨rfl, hcM, Subs.consB rfl ?_ ?_⟩
   ·first | (refine (decide_eq_true ?_).symm; simp_all; done) | (refine (decide_eq_false ?_).symm; simp_all; done) | (refine (decide_eq_true (.inr (.inl ?_))).symm; omega) | (by_cases he : endsP (shOf s (ng1, ws1, e1, p7, d7) (ng2, ws2, e2, p8, d8) lo hi) <;> simp_all [Sh.some, shOf]; done) | (refine decide_eq_decide.2 ?_; simp_all; done)
   exact SMg
  refine zw rfl (zm rfl (zw rfl ?_));refine WL.call hasF64 rfl rfl (someB_spec b12 s _ _ _ _ _ _ _ _ _ hb12 hsle) fun v w9 h' => ?_;obtain ⟨rfl, hC⟩ := h';have hcM := hcM.ta hC;have hb12 := hb12.keep0 hC;have hN1 := hN1.keep0 hC;have hN2 := hN2.keep0 hC;refine zw rfl (zm rfl ?_);refine zb ?_ ?_<;>intro hg7<;>try simp only [qs] at hg7
  ·refine zw rfl (zm rfl (zw rfl ?_));refine WL.call hasF90 rfl rfl (ends_spec21 b12 (shOf s (ng1, ws1, e1, p7, d7) (ng2, ws2, e2, p8, d8) lo hi) _ ⟨sl1, sl2, hb12, (by rw [show (shOf s (ng1, ws1, e1, p7, d7) (ng2, ws2, e2, p8, d8) lo hi).V.m = val ws1 from rfl, (hV (hd7 (by assumption))).1]; exact hN1), (by rw [show (shOf s (ng1, ws1, e1, p7, d7) (ng2, ws2, e2, p8, d8) lo hi).Q.m = val ws2 from rfl, (hQ (hd8 (by assumption))).1]; exact hN2)⟩ hsle hlo64 hhi64) fun v w10 h' => ?_
   obtain ⟨rfl, hC⟩ := h';have hcM := hcM.ta hC;refine zw rfl (zT rfl (zw rfl (zt rfl rfl (ze rfl rfl (zz (kr29 ?_))))));refine ⟨rfl, hcM, Subs.consB rfl ?_ ?_⟩
   ·first | (refine (decide_eq_true ?_).symm; simp_all; done) | (refine (decide_eq_false ?_).symm; simp_all; done) | (refine (decide_eq_true (.inr (.inl ?_))).symm; omega) | (by_cases he : endsP (shOf s (ng1, ws1, e1, p7, d7) (ng2, ws2, e2, p8, d8) lo hi) <;> simp_all [Sh.some, shOf]; done) | (refine decide_eq_decide.2 ?_; simp_all; done)
   exact SMg
  refine zv rfl (zv rfl (zv rfl (zw rfl (ze rfl rfl (ze rfl rfl (zz (kr29 ?_)))))));refine ⟨rfl, hcM, Subs.consB rfl ?_ ?_⟩
  ·first | (refine (decide_eq_true ?_).symm; simp_all; done) | (refine (decide_eq_false ?_).symm; simp_all; done) | (refine (decide_eq_true (.inr (.inl ?_))).symm; omega) | (by_cases he : endsP (shOf s (ng1, ws1, e1, p7, d7) (ng2, ws2, e2, p8, d8) lo hi) <;> simp_all [Sh.some, shOf]; done) | (refine decide_eq_decide.2 ?_; simp_all; done)
  exact SMg
 intro wM hcM;have hch := hch.ta hcM;have hb12 := hb12.keep0 hcM;have hN1 := hN1.keep0 hcM;have hN2 := hN2.keep0 hcM;refine zy rfl (fun hc8 => ?_) fun hc8 => ?_
 ·skip;have h3 : bd = true ∨ 0 < bs.length - q ∨ ¬ sumsP (shOf s (ng1, ws1, e1, p7, d7) (ng2, ws2, e2, p8, d8) lo hi) ∨ ((shOf s (ng1, ws1, e1, p7, d7) (ng2, ws2, e2, p8, d8) lo hi).some ∧ ¬ endsP (shOf s (ng1, ws1, e1, p7, d7) (ng2, ws2, e2, p8, d8) lo hi)) := of_decide_eq_true hc8;refine Sr fun _ kh30 => za rfl (za rfl (zz (kh30 ?_)));refine zr (zr2 rfl rfl rfl ?_);refine ⟨.inr ⟨?_, rfl⟩, hch⟩;rw [hD2];exact if_pos h3
 skip;have h3 : ¬ (bd = true ∨ 0 < bs.length - q ∨ ¬ sumsP (shOf s (ng1, ws1, e1, p7, d7) (ng2, ws2, e2, p8, d8) lo hi) ∨ ((shOf s (ng1, ws1, e1, p7, d7) (ng2, ws2, e2, p8, d8) lo hi).some ∧ ¬ endsP (shOf s (ng1, ws1, e1, p7, d7) (ng2, ws2, e2, p8, d8) lo hi))) := of_decide_eq_false hc8;have hbd : bd = false := Bool.eq_false_iff.2 (fun z => h3 (.inl z));refine zkk (kh28 (Sr fun _ kh32 => zm rfl (za rfl (za rfl (zz (kh32 ?_))))));refine zr (zr2 rfl rfl rfl ?_);refine ⟨.inl ⟨(shOf s (ng1, ws1, e1, p7, d7) (ng2, ws2, e2, p8, d8) lo hi), b12, ?_, rfl, ⟨sl1, sl2, hb12, (by rw [show (shOf s (ng1, ws1, e1, p7, d7) (ng2, ws2, e2, p8, d8) lo hi).V.m = val ws1 from rfl, (hV (hd7 hbd)).1]; exact hN1), (by rw [show (shOf s (ng1, ws1, e1, p7, d7) (ng2, ws2, e2, p8, d8) lo hi).Q.m = val ws2 from rfl, (hQ (hd8 hbd)).1]; exact hN2)⟩, by omega, ⟨hsle, (hV (hd7 hbd)).2, (hQ (hd8 hbd)).2, hlo64, hhi64⟩⟩, hch⟩;rw [hD2];exact if_neg h3

end

/- Store: reading a record. No condition. -/
section
open Go Sx Wd Fl

def rdRec (bs : List Nat) : Nat × List Nat × List Nat :=
  if bs.getD 0 0 < 1 ∨ 64 < bs.getD 0 0 then (1, [], []) else if bs.length < 4 + bs.getD 0 0 then (2, [], []) else
  if bs.length < 4 + bs.getD 0 0 + leV ((bs.drop (1 + bs.getD 0 0)).take 3) + 4 then (2, [], []) else
  if (bs.drop (4 + bs.getD 0 0 + leV ((bs.drop (1 + bs.getD 0 0)).take 3))).take 4 ≠ leB (fnv (bs.take (4 + bs.getD 0 0 + leV ((bs.drop (1 + bs.getD 0 0)).take 3)))) 4 then (3, [], []) else
  if decS ((bs.drop (4 + bs.getD 0 0)).take (leV ((bs.drop (1 + bs.getD 0 0)).take 3))) = none then (4, [], []) else (0, (bs.drop 1).take (bs.getD 0 0), (bs.drop (4 + bs.getD 0 0)).take (leV ((bs.drop (1 + bs.getD 0 0)).take 3)))
structure GE (w : World) (ev : Nat → Value) : Prop where
  a : w.cell? ⟨2, 0, none⟩ = some (ev 1)
  b : w.cell? ⟨3, 0, none⟩ = some (ev 2)
  c : w.cell? ⟨4, 0, none⟩ = some (ev 3)
  d : w.cell? ⟨5, 0, none⟩ = some (ev 4)
namespace Sx
section
variable {P : Program} {s : Sl} {w : World} {ty : TypeId} {x : Operand}
section
variable {P : Program} {ops : Array Oper} {K : KK} {fuel : Nat} {listed : Array Bool} {n : Nat} {D : List Deferred} {s : Sl} {w : World} {ty : TypeId} {pos : String} {af : Array Edge}
end
end
end Sx

end

/- A range over a function: its rounds, the calls of yield. No condition. -/
namespace Sx
open Go

abbrev RO (r : Option Nat) : Fence := { Fence.wide with round := r }
def noDef (l : List Oper) : Bool := l.all fun o => match o.op with
  | .defer _ => false
  | _ => true
section
variable {P : Program} {r : Option Nat} {m : Nat}
/-! ### Code in a round's frame -/
def CWI (r : Option Nat) (P : Program) (c : Code) (A : AQ) (n : Nat) (D : List Deferred) (s : Sl) (w : World) : Prop := ∀ a, Fr n D s a → c.wpIn (RO r) 3 P (liftA n A) a w
def WLI (r : Option Nat) (P : Program) (ops : Array Oper) (K : KK) (l : List Oper) (n : Nat) (D : List Deferred) (s : Sl) (w : World) : Prop := ∀ a, Fr n D s a → wpListIn (RO r) 3 P ops (post n K) l a w
variable {A : AQ} {n : Nat} {D : List Deferred} {s : Sl} {w : World} {ops : Array Oper} {K : KK}
/-! ### A call of yield -/
variable {rest : List Oper} {ty : TypeId} {pos : String} {af : Array Edge} {d : Nat}
/-! ### The loop's record -/
structure LoopAt (n : Nat) (s : Sl) (ps : Array Tmp) (assign body : Code) (st : LoopState) (pend : Option Code) (l k : Nat) (w : World) : Prop where
  rec_ : ∃ x : Loop, w.heap[l]? = some (.loop x) ∧ x.state = st ∧ x.pending = pend ∧ x.params = ps ∧ x.assign = assign ∧ x.body = body ∧ Fr n [] s { tmps := x.tmps, defers := [] }
  dfr : w.heap[k]? = some (.deferred (some []))
variable {ps : Array Tmp} {assign body : Code} {st : LoopState} {pend : Option Code} {l k : Nat}
abbrev mk_ (k : Nat) : Deferred := { target := .collected k, args := #[] }
/-! ### A function that holds such a statement -/
def bodyM (P : Program) (fn : Func) (n : Nat) (R : Value → World → Prop) : AQ
  | .normal, D, s, w | .ret, D, s, w => (D = [] ∧ ∃ v, ResS P fn n D s w v ∧ R v w) ∨ (∃ k, D = [mk_ k] ∧ w.heap[k]? = some (.deferred (some [])) ∧ ∀ w', Chg [k] w w' → ∃ v, ResS P fn n D s w' v ∧ R v w')
  | _, _, _, _ => False
end
end Sx

/- Store: walk. No condition. -/
section
open Go Sx Wd Fl

namespace Sx
section
variable {P : Program} {s : Sl} {w : World} {ty : TypeId} {x : Operand}
theorem Ev.makeFunc1 {f : FuncId} {v : Value} (hx : opnd s x = some v) : Ev P s (.makeFunc (.func f) #[] #[x]) ty w (.func (.func f) #[] #[v]) w := fun ρ d' pos af g hρ => by
  have e1 := hρ x _ hx
  simp [execOp, Instr.makeFunc, e1]
end
end Sx
def evV (ea : Nat → Addr) (c : Nat) : Value := .iface 404 (.pointer (some (ea c)))
inductive Wk (bs : List Nat) : List (ByteArray × List Nat) → Nat → Prop
  | nil : Wk bs [] 0
  | step {R : List (ByteArray × List Nat)} {p : Nat} {nm dat : List Nat} : Wk bs R p → p < bs.length → rdRec (bs.drop p) = (0, nm, dat) → Wk bs (R ++ [(bA nm, dat)]) (p + (8 + nm.length + dat.length))
end

/- Store: what Replay needs. No condition. -/
section
open Go Sx Wd Fl

def NoC (w : World) (k : Nat) : Prop := ∀ c e z, w.heap[k]? ≠ some (.cells c e z)
section
variable {w w' : World} {k : Nat}
end
namespace Sx
section
variable {P : Program} {n : Nat} {D : List Deferred} {s : Sl} {w : World} {ty : TypeId} {x : Operand} {fn : Func} {R : Value → World → Prop}
end
end Sx

end

/- Store: Replay of bytes that are whole records. No condition. -/
section
open Go Sx Wd Fl

def tellG (G : List RG) : List (ByteArray × List Nat) := G.map fun g => (g.1, g.2.1)
structure RepJ (w : World) (bl b2 b3 b4 b5 cb m cl : Nat) (al : Option Addr) (LA : LoopState → Option Code → World → Prop) (R : List (ByteArray × List Nat)) (p : Nat) (W : World) : Prop where
  ex : ∃ G, tellG G = R ∧ LgM w.heap.size W bl G ∧ totG G = p
  la : LA .ready none W
  h2 : BK W b2 46 [.pointer none]
  h3 : BK W b3 3 [.int .i64 0]
  h4 : BK W b4 47 [.int .i64 0]
  h5 : BK W b5 46 [.pointer (some ⟨bl, 0, none⟩)]
  hc : BK W cb 35 [.slice al m cl]
  ch : Chg [] w W
structure RepE (lo bl k : Nat) (G : List RG) (w : World) : Prop where
  lg : LgM lo w bl G
  kd : w.heap[k]? = some (.deferred (some []))
end

/- Store: Total. No condition. -/
section
open Go Sx Wd Fl

namespace Sx
theorem Ev.neqStr {P : Program} {s : Sl} {w : World} {ty : TypeId} {x y : Operand} {t t' : TypeId} {a b : ByteArray} (hx : opnd s x = some (.string a)) (hy : opnd s y = some (.string b)) : Ev P s (.binOp .neq t x y t') ty w (.bool (decide (a ≠ b))) w := fun ρ d pos af g hρ => by
  have e1 := hρ x _ hx
  have e2 := hρ y _ hy
  have e3 : (!(a.toList == b.toList)) = decide (a ≠ b) := by
    rw [ByteArray.toList_eq, ByteArray.toList_eq]
    by_cases h : a = b
    · subst h; simp
    · have : a.data.toList ≠ b.data.toList := fun q => h (by cases a; cases b; congr 1; exact Array.ext' q)
      rw [decide_eq_true h, beq_eq_false_iff_ne.2 this]; rfl
  simp [execOp, e1, e2, eqGuard, binOp_string_neq, e3]
end Sx
def totStep (nm : ByteArray) (acc : Except Nat (Sh × Bool)) (g : RG) : Except Nat (Sh × Bool) :=
  match acc with
  | .error e => .error e
  | .ok (S, a) => if g.1 = nm then (match decS g.2.1 with
    | none => .error 210
    | some U => if 1099511627776 < S.s.al + U.s.al then .error 2 else .ok (S.merge U, true)) else .ok (S, a)
def totW (nm : ByteArray) (G : List RG) : Except Nat (Sh × Bool) := G.foldl (totStep nm) (.ok (Sh.zero, false))
end

/- Package steelyardlaw22: one. No condition. -/
section
open Go Sx Wd Fl

end

/- What a shard of some numbers is: by its list. No condition. -/
section
open Go Sx Wd Fl
set_option exponentiation.threshold 9000

def cntK (j : Nat) (L : List Nat) : Nat := (L.filter fun x => kindP x == j).length
theorem cntK_cons (j : Nat) (L : List Nat) (x : Nat) : cntK j (x :: L) = (if kindP x = j then 1 else 0) + cntK j L := by
  unfold cntK
  by_cases h : kindP x = j
  · simp [h]; omega
  · simp [h]
theorem cntK_pos {j : Nat} {L : List Nat} : 0 < cntK j L ↔ ∃ y ∈ L, kindP y = j := by
  unfold cntK
  rw [List.length_pos_iff_exists_mem]
  constructor
  · rintro ⟨y, hy⟩
    rw [List.mem_filter] at hy
    exact ⟨y, hy.1, by simpa using hy.2⟩
  · rintro ⟨y, hy, hk⟩
    exact ⟨y, List.mem_filter.2 ⟨hy, by simpa using hk⟩⟩
theorem cntK_sum (L : List Nat) : cntK 0 L + cntK 1 L + cntK 2 L + cntK 3 L + cntK 4 L + cntK 5 L = L.length := by
  induction L with
  | nil => rfl
  | cons x L ih =>
    rw [cntK_cons, cntK_cons, cntK_cons, cntK_cons, cntK_cons, cntK_cons, List.length_cons]
    have := kindP_le5 x
    have h : kindP x = 0 ∨ kindP x = 1 ∨ kindP x = 2 ∨ kindP x = 3 ∨ kindP x = 4 ∨ kindP x = 5 := by omega
    rcases h with h | h | h | h | h | h <;> rw [h] <;> simp <;> omega
theorem nan_kind {x : Nat} (hx : x < 18446744073709551616) : isNaN x = true ↔ kindP x = 5 := by
  rw [kindP_bits hx]
  unfold isNaN
  rw [decide_eq_true_eq]
  constructor
  · intro h; rw [if_pos h]
  · intro h
    apply Classical.byContradiction
    intro q
    rw [if_neg q] at h
    split at h
    · omega
    split at h
    · omega
    split at h
    · omega
    split at h <;> omega
theorem fv_kind {x : Nat} (hx : x < 18446744073709551616) : fvI x ≠ 0 ↔ kindP x = 0 := by
  have hb := kindP_bits hx
  by_cases hc : (splitP x).cls ≤ 2
  · rw [ne_eq, fvI_nought hc hx]
    have hk := kind_cls.2 hc
    rw [hb] at hk ⊢
    by_cases a : 9218868437227405312 < x % 9223372036854775808
    · rw [if_pos a] at hk; omega
    rw [if_neg a] at hk ⊢
    by_cases b : x % 9223372036854775808 = 9218868437227405312 ∧ x / 9223372036854775808 = 1
    · rw [if_pos b] at hk; omega
    rw [if_neg b] at hk ⊢
    by_cases c : x % 9223372036854775808 = 9218868437227405312
    · rw [if_pos c] at hk; omega
    rw [if_neg c]
    by_cases d : x % 9223372036854775808 = 0
    · rw [if_pos d]
      split <;> simp [d]
    · rw [if_neg (fun q => d q.1), if_neg d]; simp [d]
  · have hk : ¬ kindP x ≤ 2 := fun q => hc (kind_cls.1 q)
    rw [fvI_zero (fun q => hc (by omega))]
    constructor
    · intro h; exact absurd rfl h
    · intro h; omega
def sqI (x : Nat) : Int := if kindP x = 0 then thv (prodP x x) else 0
theorem k0_cls {x : Nat} (h : kindP x = 0) : (splitP x).cls ≤ 2 := kind_cls.1 (by omega)
theorem sq_mul {x : Nat} (hx : x < 18446744073709551616) : sqI x * (2 ^ 2148 : Nat) = fvI x * fvI x := by
  unfold sqI
  by_cases h : kindP x = 0
  · rw [if_pos h]; exact thv_prod (k0_cls h) (k0_cls h)
  · have h0 : fvI x = 0 := Classical.byContradiction fun q => h ((fv_kind hx).1 q)
    rw [if_neg h, h0, Int.zero_mul, Int.zero_mul]
theorem mul_self_nonneg (a : Int) : 0 ≤ a * a := by
  rcases Int.le_total 0 a with h | h
  · exact Int.mul_nonneg h h
  · exact Int.mul_nonneg_of_nonpos_of_nonpos h h
theorem sq_pos {x : Nat} (hx : x < 18446744073709551616) : 0 ≤ sqI x ∧ (kindP x = 0 → 0 < sqI x) := by
  have h := sq_mul hx
  have hn := mul_self_nonneg (fvI x)
  have hp : (0 : Int) < ((2 ^ 2148 : Nat) : Int) := by have := Nat.two_pow_pos 2148; omega
  constructor
  · apply Classical.byContradiction
    intro q
    have := Int.mul_neg_of_neg_of_pos (show sqI x < 0 by omega) hp
    omega
  · intro hk
    apply Classical.byContradiction
    intro q
    have h0 := (fv_kind hx).2 hk
    have hne : fvI x * fvI x ≠ 0 := fun e => by rcases Int.mul_eq_zero.1 e with e | e <;> exact h0 e
    rcases Int.lt_or_eq_of_le (show sqI x ≤ 0 by omega) with e | e
    · have := Int.mul_neg_of_neg_of_pos e hp
      omega
    · rw [e, Int.zero_mul] at h; exact hne h.symm
theorem sq_lt {x : Nat} (hx : x < 18446744073709551616) : sqI x < ((2 ^ 4196 : Nat) : Int) := by
  have hp := Nat.two_pow_pos 4196
  unfold sqI
  by_cases h : kindP x = 0
  · rw [if_pos h]
    have := thv_prod_lt (k0_cls h) (k0_cls h)
    omega
  · rw [if_neg h]; omega
def sqS (L : List Nat) : Int := (L.map sqI).sum
theorem sqS_snoc (L : List Nat) (x : Nat) : sqS (L ++ [x]) = sqS L + sqI x := by
  unfold sqS; rw [List.map_append, List.map_cons, List.map_nil, sum_snoc]
theorem sumI_snoc (L : List Nat) (x : Nat) : sumI (L ++ [x]) = sumI L + fvI x := by
  unfold sumI; rw [List.map_append, List.map_cons, List.map_nil, sum_snoc]
theorem sq_bounds {L : List Nat} (hw : ∀ x ∈ L, x < 18446744073709551616) : 0 ≤ sqS L ∧ (0 < cntK 0 L → 0 < sqS L) ∧ (cntK 0 L = 0 → sqS L = 0 ∧ sumI L = 0) ∧ (0 < cntK 0 L → sqS L < (cntK 0 L : Int) * ((2 ^ 4196 : Nat) : Int)) ∧ sumI L * sumI L ≤ (cntK 0 L : Int) * (sqS L * ((2 ^ 2148 : Nat) : Int)) := by
  induction L with
  | nil => exact ⟨Int.le_refl _, fun h => absurd h (by decide), fun _ => ⟨rfl, rfl⟩, fun h => absurd h (by decide), by simp [sumI, sqS, cntK]⟩
  | cons x L ih =>
    obtain ⟨i1, i2, i3, i4, i5⟩ := ih fun y hy => hw y (List.mem_cons_of_mem _ hy)
    have hx := hw x (List.mem_cons_self ..)
    obtain ⟨p1, p2⟩ := sq_pos hx
    have hlt := sq_lt hx
    have hm := sq_mul hx
    have eS : sqS (x :: L) = sqI x + sqS L := by simp [sqS]
    have eA : sumI (x :: L) = fvI x + sumI L := by simp [sumI]
    rw [eS, eA, cntK_cons]
    generalize hM : ((2 ^ 4196 : Nat) : Int) = M at *
    generalize hT : ((2 ^ 2148 : Nat) : Int) = T at *
    generalize hA : sumI L = A at *
    generalize hQ : sqS L = Q at *
    generalize ha : fvI x = a at *
    generalize hq : sqI x = q at *
    by_cases hk : kindP x = 0
    · rw [if_pos hk]
      have hq0 := p2 hk
      refine ⟨by omega, fun _ => by omega, fun h => by omega, fun _ => ?_, ?_⟩
      · push_cast
        rw [Int.add_mul, Int.one_mul]
        by_cases hc : cntK 0 L = 0
        · have := (i3 hc).1
          rw [hc]; simp; omega
        · have := i4 (by omega)
          omega
      · -- (a + A)^2 <= (1 + k)(q + Q)T, with A^2 <= k Q T and q T = a^2
        push_cast
        generalize hkk : ((cntK 0 L : Nat) : Int) = k at *
        have hk0 : 0 ≤ k := by omega
        have hQT : 0 ≤ Q * T := Int.mul_nonneg i1 (by rw [← hT]; omega)
        generalize hz : Q * T = Z at *
        have hqz : (q + Q) * T = a * a + Z := by rw [Int.add_mul, hm, hz]
        rw [hqz]
        by_cases hk1 : k = 0
        · rw [hk1, Int.zero_mul] at i5
          have hA0 : A = 0 := Classical.byContradiction fun hne => by
            have : 0 < A * A := by
              have h1 := mul_self_nonneg A
              rcases Int.lt_or_eq_of_le h1 with h | h
              · exact h
              · rcases Int.mul_eq_zero.1 h.symm with h | h <;> exact absurd h hne
            omega
          rw [hA0, hk1]
          simp only [Int.add_zero, Int.one_mul]
          omega
        · have hs := mul_self_nonneg (k * a - A)
          have e1 : (k * a - A) * (k * a - A) = k * (k * (a * a)) - 2 * (k * (a * A)) + A * A := by
            rw [Int.sub_mul, Int.mul_sub, Int.mul_sub]
            have q1 : k * a * (k * a) = k * (k * (a * a)) := by rw [Int.mul_assoc, Int.mul_left_comm a k a]
            have q2 : A * (k * a) = k * (a * A) := by rw [Int.mul_left_comm, Int.mul_comm A a]
            have q3 : k * a * A = k * (a * A) := Int.mul_assoc ..
            rw [q1, q2, q3]; omega
          rw [e1] at hs
          have e2 : 0 ≤ k * (k * (a * a) - 2 * (a * A) + Z) := by
            have : k * (k * (a * a) - 2 * (a * A) + Z) = k * (k * (a * a)) - 2 * (k * (a * A)) + k * Z := by
              rw [Int.mul_add, Int.mul_sub, Int.mul_left_comm k 2]
            rw [this]; omega
          have e3 : 0 ≤ k * (a * a) - 2 * (a * A) + Z := by
            apply Classical.byContradiction
            intro hneg
            have := Int.mul_neg_of_pos_of_neg (show 0 < k by omega) (show k * (a * a) - 2 * (a * A) + Z < 0 by omega)
            omega
          have e4 : (a + A) * (a + A) = a * a + 2 * (a * A) + A * A := by
            rw [Int.add_mul, Int.mul_add, Int.mul_add, Int.mul_comm A a]; omega
          have e5 : (1 + k) * (a * a + Z) = a * a + Z + (k * (a * a) + k * Z) := by rw [Int.add_mul, Int.one_mul, Int.mul_add]
          rw [e4, e5]
          omega
    · rw [if_neg hk]
      have hf0 : a = 0 := Classical.byContradiction fun h => hk ((fv_kind hx).1 (by rw [ha]; exact h))
      have hq0 : q = 0 := by rw [← hq]; unfold sqI; rw [if_neg hk]
      rw [hf0, hq0, Nat.zero_add, Int.zero_add, Int.zero_add]
      exact ⟨i1, i2, i3, i4, i5⟩
theorem pow4236 : ∀ a, a = 4196 → (2 : Nat) ^ (a + 42) = 4398046511104 * 2 ^ a := by
  intro a _; rw [Nat.pow_add, Nat.mul_comm]
theorem sq_in {L : List Nat} (hw : ∀ x ∈ L, x < 18446744073709551616) (hn : L.length ≤ 1099511627776) : InB (sqS L) := by
  obtain ⟨i1, i2, i3, i4, i5⟩ := sq_bounds hw
  have hk : cntK 0 L ≤ L.length := by have := cntK_sum L; omega
  have hp := pow4236 4196 rfl
  have hb : ((16384 * BB : Nat) : Int) = 4398046511104 * ((2 ^ 4196 : Nat) : Int) := by
    have h1 : (16384 * BB : Nat) = 4398046511104 * 2 ^ 4196 := by rw [BB_pow] <;> exact hp
    rw [h1, Int.natCast_mul] <;> rfl
  have h0 : (0 : Int) < ((2 ^ 4196 : Nat) : Int) := by have := Nat.two_pow_pos 4196; omega
  unfold InB
  rw [hb]
  generalize ((2 ^ 4196 : Nat) : Int) = M at *
  refine ⟨by omega, ?_⟩
  by_cases hc : cntK 0 L = 0
  · rw [(i3 hc).1]; omega
  · have h1 := i4 (by omega)
    have h2 : ((cntK 0 L : Nat) : Int) * M ≤ 1099511627776 * M := Int.mul_le_mul_of_nonneg_right (by omega) (by omega)
    omega
end

/- A shard of some numbers is one that its bytes give back. No condition. -/
section
open Go Sx Wd Fl

theorem cntK_app (j : Nat) (L K : List Nat) : cntK j (L ++ K) = cntK j L + cntK j K := by
  unfold cntK; rw [List.filter_append, List.length_append]
theorem sqS_app (L K : List Nat) : sqS (L ++ K) = sqS L + sqS K := by
  induction L with
  | nil => simp [sqS]
  | cons x L ih =>
    show sqI x + sqS (L ++ K) = sqI x + sqS L + sqS K
    rw [ih]; omega
theorem sumI_app (L K : List Nat) : sumI (L ++ K) = sumI L + sumI K := by
  induction L with
  | nil => simp [sumI]
  | cons x L ih =>
    have e : ∀ M, sumI (x :: M) = fvI x + sumI M := fun M => by simp [sumI]
    rw [List.cons_append, e, e, ih]; omega
structure Mk (S : Sh) (L : List Nat) : Prop where
  w : ∀ x ∈ L, x < 18446744073709551616
  n : L.length ≤ 1099511627776
  s : S.s = ⟨cntK 5 L, cntK 3 L, cntK 4 L, cntK 1 L, cntK 2 L, L.length⟩
  V : S.V = sumD (sumI L)
  Q : S.Q = sumD (sqS L)
  e : cntK 5 L = L.length ∨ (S.lo ∈ L ∧ kindP S.lo ≠ 5 ∧ S.hi ∈ L ∧ kindP S.hi ≠ 5 ∧ ∀ y ∈ L, kindP y ≠ 5 → key S.lo ≤ key y ∧ key y ≤ key S.hi)
theorem cntK_le (j : Nat) (L : List Nat) : cntK j L ≤ L.length := List.length_filter_le ..
theorem Mk.some_iff {S : Sh} {L : List Nat} (h : Mk S L) : S.some ↔ cntK 5 L < L.length := by
  unfold Sh.some; rw [h.s]
theorem Mk.zero : Mk Sh.zero [] := ⟨fun x hx => (by cases hx), (by decide), rfl, rfl, rfl, .inl rfl⟩
theorem Mk.one {x : Nat} (hx : x < 18446744073709551616) : Mk (Sh.one x) [x] := by
  refine ⟨fun y hy => by rw [List.mem_singleton.1 hy]; exact hx, by simp, ?_, ?_, ?_, ?_⟩
  · show countP SP.zero (kindP x) = _
    have e : ∀ j, cntK j [x] = if kindP x = j then 1 else 0 := fun j => by rw [cntK_cons]; rfl
    rw [e, e, e, e, e]
    unfold countP SP.zero
    simp
  · show fdy x = _
    have e : sumI [x] = fvI x := by simp [sumI]
    rw [e]
    unfold fdy
    split
    · rfl
    · rename_i hc; rw [fvI_zero (fun q => hc (by omega))]; rfl
  · show (mulD (fdy x) (fdy x)).getD Dy.zero = _
    have e : sqS [x] = sqI x := by simp [sqS]
    rw [e]
    unfold sqI fdy
    by_cases hk : kindP x = 0
    · have hc := k0_cls hk
      rw [if_pos hc, if_pos hk, mulD_sum hc hc]; rfl
    · have h0 : fvI x = 0 := Classical.byContradiction fun q => hk ((fv_kind hx).1 q)
      rw [if_neg hk, h0]
      have : ∀ d, d = Dy.zero → (mulD d d).getD Dy.zero = sumD 0 := fun d hd => by subst hd; unfold mulD; rw [show Dy.zero.m * Dy.zero.m = 0 from rfl, formD_zero]; split <;> rfl
      refine this _ ?_
      split <;> rfl
  · by_cases hk : kindP x = 5
    · exact .inl (by rw [cntK_cons, if_pos hk]; rfl)
    · exact .inr ⟨List.mem_singleton.2 rfl, hk, List.mem_singleton.2 rfl, hk, fun y hy _ => by rw [List.mem_singleton.1 hy]; exact ⟨Int.le_refl _, Int.le_refl _⟩⟩
theorem all_nan {L : List Nat} (h : cntK 5 L = L.length) : ∀ y ∈ L, kindP y = 5 := by
  intro y hy
  apply Classical.byContradiction
  intro q
  have h1 := cntK_sum L
  have h2 := kindP_le5 y
  have h3 : 0 < cntK (kindP y) L := cntK_pos.2 ⟨y, hy, rfl⟩
  have h4 : kindP y = 0 ∨ kindP y = 1 ∨ kindP y = 2 ∨ kindP y = 3 ∨ kindP y = 4 := by omega
  rcases h4 with e | e | e | e | e <;> rw [e] at h3 <;> omega
theorem Mk.merge {S U : Sh} {L K : List Nat} (h : Mk S L) (g : Mk U K) (hn : L.length + K.length ≤ 1099511627776) : Mk (S.merge U) (L ++ K) := by
  have hw : ∀ x ∈ L ++ K, x < 18446744073709551616 := fun x hx => by
    rcases List.mem_append.1 hx with q | q
    · exact h.w x q
    · exact g.w x q
  have hl : (L ++ K).length ≤ 1099511627776 := by rw [List.length_append]; omega
  refine ⟨hw, hl, ?_, ?_, ?_, ?_⟩
  · show S.s.add U.s = _
    rw [h.s, g.s]
    unfold SP.add
    rw [cntK_app, cntK_app, cntK_app, cntK_app, cntK_app, List.length_append]
  · show (addD S.V U.V).getD Dy.zero = _
    rw [h.V, g.V, addD_sum (sumI_in h.n) (sumI_in g.n) (by rw [← sumI_app]; exact sumI_in hl), sumI_app]; rfl
  · show (addD S.Q U.Q).getD Dy.zero = _
    rw [h.Q, g.Q, addD_sum (sq_in h.w h.n) (sq_in g.w g.n) (by rw [← sqS_app]; exact sq_in hw hl), sqS_app]; rfl
  · have hs := h.some_iff
    have gs := g.some_iff
    have c1 := cntK_le 5 L
    have c2 := cntK_le 5 K
    rcases h.e with he | ⟨a1, a2, a3, a4, a5⟩
    · have nS : ¬ S.some := fun q => by have := hs.1 q; omega
      rcases g.e with ge | ⟨b1, b2, b3, b4, b5⟩
      · exact .inl (by rw [cntK_app, List.length_append]; omega)
      · have hU : U.some := gs.2 (by
          apply Classical.byContradiction
          intro q
          exact b2 (all_nan (by omega) _ b1))
        have e1 : (S.merge U).lo = U.lo := if_pos ⟨hU, .inl nS⟩
        have e2 : (S.merge U).hi = U.hi := if_pos ⟨hU, .inl nS⟩
        rw [e1, e2]
        refine .inr ⟨List.mem_append_right _ b1, b2, List.mem_append_right _ b3, b4, fun y hy hk => ?_⟩
        rcases List.mem_append.1 hy with q | q
        · exact absurd (all_nan he y q) hk
        · exact b5 y q hk
    · have hS : S.some := hs.2 (by
        apply Classical.byContradiction
        intro q
        exact a2 (all_nan (by omega) _ a1))
      rcases g.e with ge | ⟨b1, b2, b3, b4, b5⟩
      · have nU : ¬ U.some := fun q => by have := gs.1 q; omega
        have e1 : (S.merge U).lo = S.lo := if_neg fun q => nU q.1
        have e2 : (S.merge U).hi = S.hi := if_neg fun q => nU q.1
        rw [e1, e2]
        refine .inr ⟨List.mem_append_left _ a1, a2, List.mem_append_left _ a3, a4, fun y hy hk => ?_⟩
        rcases List.mem_append.1 hy with q | q
        · exact a5 y q hk
        · exact absurd (all_nan ge y q) hk
      · have hU : U.some := gs.2 (by
          apply Classical.byContradiction
          intro q
          exact b2 (all_nan (by omega) _ b1))
        have e1 : (S.merge U).lo = if key U.lo < key S.lo then U.lo else S.lo := by
          show (if U.some ∧ (¬ S.some ∨ key U.lo < key S.lo) then U.lo else S.lo) = _
          by_cases q : key U.lo < key S.lo
          · rw [if_pos ⟨hU, .inr q⟩, if_pos q]
          · rw [if_neg (fun z => z.2.elim (fun z => z hS) q), if_neg q]
        have e2 : (S.merge U).hi = if key S.hi < key U.hi then U.hi else S.hi := by
          show (if U.some ∧ (¬ S.some ∨ key S.hi < key U.hi) then U.hi else S.hi) = _
          by_cases q : key S.hi < key U.hi
          · rw [if_pos ⟨hU, .inr q⟩, if_pos q]
          · rw [if_neg (fun z => z.2.elim (fun z => z hS) q), if_neg q]
        rw [e1, e2]
        refine .inr ⟨?_, ?_, ?_, ?_, fun y hy hk => ?_⟩
        · split
          · exact List.mem_append_right _ b1
          · exact List.mem_append_left _ a1
        · split
          · exact b2
          · exact a2
        · split
          · exact List.mem_append_right _ b3
          · exact List.mem_append_left _ a3
        · split
          · exact b4
          · exact a4
        · rcases List.mem_append.1 hy with q | q
          · have := a5 y q hk
            constructor <;> split <;> omega
          · have := b5 y q hk
            constructor <;> split <;> omega
def Sh.noE (S : Sh) : Prop := ¬ S.some → S.lo = 0 ∧ S.hi = 0
theorem Mk.noE {S U : Sh} {L K : List Nat} (h : Mk S L) (g : Mk U K) (hS : S.noE) : (S.merge U).noE := by
  intro q
  have c1 := cntK_le 5 L
  have c2 := cntK_le 5 K
  have q2 : ¬ (S.s.na + U.s.na < S.s.al + U.s.al) := q
  rw [h.s, g.s] at q2
  dsimp only at q2
  have nS : ¬ S.some := fun z => by have := h.some_iff.1 z; omega
  have nU : ¬ U.some := fun z => by have := g.some_iff.1 z; omega
  have e1 : (S.merge U).lo = S.lo := if_neg fun z => nU z.1
  have e2 : (S.merge U).hi = S.hi := if_neg fun z => nU z.1
  rw [e1, e2]; exact hS nS
end

/- A shard of some numbers: its bytes give it back. No condition. -/
section
open Go Sx Wd Fl
set_option exponentiation.threshold 9000

theorem kd {x : Nat} (hx : x < 18446744073709551616) : (kindP x = 5 ↔ 9218868437227405312 < x % 9223372036854775808) ∧ (kindP x = 4 ↔ x = 18442240474082181120) ∧ (kindP x = 3 ↔ x = 9218868437227405312) ∧ (kindP x = 1 ↔ x = 9223372036854775808) ∧ (kindP x = 2 ↔ x = 0) := by
  rw [kindP_bits hx]
  refine ⟨?_, ?_, ?_, ?_, ?_⟩ <;> (repeat' split) <;> constructor <;> intro h <;> omega
theorem key5 {x : Nat} (hx : x < 18446744073709551616) (h : kindP x ≠ 5) : isNaN x = false ∧ x % 9223372036854775808 ≤ 9218868437227405312 ∧ key x = if 9223372036854775808 ≤ x then -1 - ((x : Int) - 9223372036854775808) else x := by
  have hn : isNaN x = false := by
    cases q : isNaN x with
    | false => rfl
    | true => exact absurd ((nan_kind hx).1 q) h
  refine ⟨hn, ?_, ?_⟩
  · have := (kd hx).1
    omega
  · unfold key; rw [hn]; simp
theorem mulD_comm (x y : Dy) : mulD x y = mulD y x := by
  unfold mulD
  rw [Nat.mul_comm x.m y.m, Int.add_comm x.e y.e]
  have : (x.neg != y.neg) = (y.neg != x.neg) := by cases x.neg <;> cases y.neg <;> rfl
  rw [this]
theorem wlenB {n k : Nat} (h : ∀ c, c = 32 * k → n < 2 ^ c) : (wd n).length ≤ k := wd_length_le.2 (h _ rfl)
theorem mulD_odd {x y : Dy} (hx : x.m % 2 = 1) (hy : y.m % 2 = 1) (h1 : x.m < 2 ^ 4300) (h2 : y.m < 2 ^ 4300) (h3 : -100000 ≤ x.e ∧ x.e ≤ 100000) (h4 : -100000 ≤ y.e ∧ y.e ≤ 100000) : mulD x y = some ⟨x.neg != y.neg, x.m * y.m, x.e + y.e⟩ := by
  have ho : x.m * y.m % 2 = 1 := by rw [Nat.mul_mod, hx, hy]
  have h0 : x.m * y.m ≠ 0 := fun e => by rw [e] at ho; cases ho
  have ht := tz_odd ho
  have hlen : (wd (x.m * y.m)).length ≤ 8192 := wlenB fun c hc => by
    have a : x.m * y.m < 2 ^ 4300 * 2 ^ 4300 := Nat.mul_lt_mul'' h1 h2
    rw [← Nat.pow_add] at a
    exact Nat.lt_of_lt_of_le a (Nat.pow_le_pow_right (by omega) (by omega))
  unfold mulD
  rw [if_neg (by omega), formD_some h0 (by rw [ht]; rw [Nat.pow_zero, Nat.div_one]; omega), ht, Nat.pow_zero, Nat.div_one]
  simp
theorem sgn_le0 {a b : Nat} (h : a ≤ b) : sgn a b ≤ 0 := by
  unfold sgn
  repeat' split
  all_goals omega
theorem sumD_in {S : Int} (h : InB S) (h0 : S ≠ 0) : ∃ a : Nat, S.natAbs = (sumD S).m * 2 ^ a ∧ (sumD S).e = -2148 + (a : Int) ∧ (sumD S).neg = decide (S < 0) ∧ (sumD S).m % 2 = 1 ∧ (sumD S).m < 2 ^ 4238 ∧ a < 4238 := by
  obtain ⟨a, h1, h2, h3⟩ := sumD_up h h0
  have hok := rsumD_ok h
  have hm : (sumD S).m ≠ 0 := fun e => h0 ((rsumD_m0 h).1 e)
  have hl := h.lt
  have hp := Nat.two_pow_pos a
  have hle : (sumD S).m ≤ S.natAbs := by rw [h1]; exact Nat.le_mul_of_pos_right _ hp
  refine ⟨a, h1, h2, h3, hok.odd hm, Nat.lt_of_le_of_lt hle hl, ?_⟩
  have h5 : 2 ^ a ≤ S.natAbs := by rw [h1]; exact Nat.le_mul_of_pos_left _ (by omega)
  exact (Nat.pow_lt_pow_iff_right (by omega)).1 (Nat.lt_of_le_of_lt h5 hl)
theorem Mk.fin {S : Sh} {L : List Nat} (h : Mk S L) : S.fin = (cntK 0 L : Int) + cntK 1 L + cntK 2 L ∧ S.pln = cntK 0 L := by
  have hc := cntK_sum L
  unfold Sh.pln Sh.fin
  rw [h.s]
  dsimp only
  omega
theorem Mk.wf {S : Sh} {L : List Nat} (h : Mk S L) (hn : S.noE) : S.wf := by
  have c0 := cntK_sum L
  have hl := h.n
  refine ⟨?_, ?_, ?_, ?_, ?_⟩
  · rw [h.s]; refine ⟨?_, ?_, ?_, ?_, ?_, ?_⟩ <;> dsimp only <;> omega
  · rw [h.V]; exact rsumD_ok (sumI_in h.n)
  · rw [h.Q]; exact rsumD_ok (sq_in h.w h.n)
  · rcases h.e with q | q
    · rw [(hn (fun z => by have := h.some_iff.1 z; omega)).1]; omega
    · exact h.w _ q.1
  · rcases h.e with q | q
    · rw [(hn (fun z => by have := h.some_iff.1 z; omega)).2]; omega
    · exact h.w _ q.2.2.1
theorem ex_of {S : Int} (h : InB S) : (-4096 ≤ (sumD S).e ∧ (sumD S).e ≤ 61439) ∧ (wd (sumD S).m).length ≤ 160 := by
  by_cases h0 : S = 0
  · subst h0
    rw [sumD_zero]
    exact ⟨by decide, by show (wd 0).length ≤ 160; rw [wd_zero]; decide⟩
  · obtain ⟨a, h1, h2, h3, h4, h5, h6⟩ := sumD_in h h0
    refine ⟨by omega, wd_length_le.2 (Nat.lt_of_lt_of_le h5 (Nat.pow_le_pow_right (by omega) (by omega)))⟩
theorem Mk.ex {S : Sh} {L : List Nat} (h : Mk S L) : S.ex := by
  have h1 := ex_of (sumI_in h.n)
  have h2 := ex_of (sq_in h.w h.n)
  rw [← h.V] at h1
  rw [← h.Q] at h2
  exact ⟨h1.1, h2.1, h1.2, h2.2⟩
theorem lo_end {lo n c0 c1 c2 c3 c4 c5 : Nat} {hi : Int} (lw : lo < 18446744073709551616) (l2 : lo % 9223372036854775808 ≤ 9218868437227405312) (l3 : key lo = if 9223372036854775808 ≤ lo then -1 - ((lo : Int) - 9223372036854775808) else lo)
    (lk : (kindP lo = 5 ↔ 9218868437227405312 < lo % 9223372036854775808) ∧ (kindP lo = 4 ↔ lo = 18442240474082181120) ∧ (kindP lo = 3 ↔ lo = 9218868437227405312) ∧ (kindP lo = 1 ↔ lo = 9223372036854775808) ∧ (kindP lo = 2 ↔ lo = 0)) (l5 : kindP lo ≤ 5) (a2 : kindP lo ≠ 5)
    (k0 : kindP lo = 0 → 0 < c0) (k1 : kindP lo = 1 → 0 < c1) (k2 : kindP lo = 2 → 0 < c2) (k3 : kindP lo = 3 → 0 < c3) (k4 : kindP lo = 4 → 0 < c4) (hc : c0 + c1 + c2 + c3 + c4 + c5 = n)
    (g1 : 0 < c1 → ∃ y, kindP y = 1 ∧ y < 18446744073709551616 ∧ y % 9223372036854775808 ≤ 9218868437227405312 ∧ key lo ≤ key y ∧ key y ≤ hi ∧ key y = (if 9223372036854775808 ≤ y then -1 - ((y : Int) - 9223372036854775808) else y)) (g4 : 0 < c4 → ∃ y, kindP y = 4 ∧ y < 18446744073709551616 ∧ y % 9223372036854775808 ≤ 9218868437227405312 ∧ key lo ≤ key y ∧ key y ≤ hi ∧ key y = (if 9223372036854775808 ≤ y then -1 - ((y : Int) - 9223372036854775808) else y))
    (fy : 0 < (c0 : Int) + c1 + c2 → ∃ y, y < 18446744073709551616 ∧ y % 9223372036854775808 < 9218868437227405312 ∧ key lo ≤ key y ∧ key y ≤ hi ∧ key y = (if 9223372036854775808 ≤ y then -1 - ((y : Int) - 9223372036854775808) else y)) :
    if 0 < c4 then isInfP lo (-1) else if (c0 : Int) + c1 + c2 = 0 then 0 < c3 ∧ isInfP lo (- -1) else if isInfP lo 0 then False else if (0 : Int) < c0 then True else lo % 9223372036854775808 = 0 ∧ (9223372036854775808 ≤ lo ↔ ((-1 : Int) < 0 ↔ 0 < c1)) := by
  rw [l3] at g1 g4 fy
  generalize kindP lo = kl at *
  clear l3
  by_cases q4 : 0 < c4
  · rw [if_pos q4]
    obtain ⟨y, y1, y2, y3, y4, y5, y6⟩ := g4 q4
    have yk := (kd y2).2.1.1 y1
    unfold isInfP
    rw [if_neg (by omega), if_pos (by omega)]
    rw [y6, yk] at y4
    simp at y4
    split at y4 <;> omega
  · rw [if_neg q4]
    by_cases qf : (c0 : Int) + c1 + c2 = 0
    · rw [if_pos qf]
      have l3' : kl = 3 := by omega
      refine ⟨k3 l3', ?_⟩
      unfold isInfP
      rw [if_neg (by omega), if_neg (by omega)]
      omega
    · rw [if_neg qf]
      obtain ⟨y, y2, y3, y4, y5, y6⟩ := fy (by omega)
      have ninf : ¬ lo % 9223372036854775808 = 9218868437227405312 := by
        intro q
        rw [y6] at y4
        split at y4 <;> split at y4 <;> omega
      have ninf' : ¬ isInfP lo 0 := by unfold isInfP; rw [if_pos rfl]; exact ninf
      rw [if_neg ninf']
      by_cases qp : (0 : Int) < c0
      · rw [if_pos qp]; trivial
      · rw [if_neg qp]
        by_cases q1 : 0 < c1
        · obtain ⟨z, z1, z2, z3, z4, z5, z6⟩ := g1 q1
          have zk := (kd z2).2.2.2.1.1 z1
          rw [z6, zk] at z4
          simp at z4
          have hl : 9223372036854775808 ≤ lo := by
            split at z4 <;> omega
          refine ⟨by omega, ?_⟩
          simp [q1, hl]
        · have lo0 : lo = 0 := by omega
          rw [lo0]
          simp [q1]
theorem hi_end {hi n c0 c1 c2 c3 c4 c5 : Nat} {lo : Int} (lw : hi < 18446744073709551616) (l2 : hi % 9223372036854775808 ≤ 9218868437227405312) (l3 : key hi = if 9223372036854775808 ≤ hi then -1 - ((hi : Int) - 9223372036854775808) else hi)
    (lk : (kindP hi = 5 ↔ 9218868437227405312 < hi % 9223372036854775808) ∧ (kindP hi = 4 ↔ hi = 18442240474082181120) ∧ (kindP hi = 3 ↔ hi = 9218868437227405312) ∧ (kindP hi = 1 ↔ hi = 9223372036854775808) ∧ (kindP hi = 2 ↔ hi = 0)) (l5 : kindP hi ≤ 5) (a2 : kindP hi ≠ 5)
    (k0 : kindP hi = 0 → 0 < c0) (k1 : kindP hi = 1 → 0 < c1) (k2 : kindP hi = 2 → 0 < c2) (k3 : kindP hi = 3 → 0 < c3) (k4 : kindP hi = 4 → 0 < c4) (hc : c0 + c1 + c2 + c3 + c4 + c5 = n)
    (g2 : 0 < c2 → ∃ y, kindP y = 2 ∧ y < 18446744073709551616 ∧ y % 9223372036854775808 ≤ 9218868437227405312 ∧ lo ≤ key y ∧ key y ≤ key hi ∧ key y = (if 9223372036854775808 ≤ y then -1 - ((y : Int) - 9223372036854775808) else y)) (g3 : 0 < c3 → ∃ y, kindP y = 3 ∧ y < 18446744073709551616 ∧ y % 9223372036854775808 ≤ 9218868437227405312 ∧ lo ≤ key y ∧ key y ≤ key hi ∧ key y = (if 9223372036854775808 ≤ y then -1 - ((y : Int) - 9223372036854775808) else y))
    (fy : 0 < (c0 : Int) + c1 + c2 → ∃ y, y < 18446744073709551616 ∧ y % 9223372036854775808 < 9218868437227405312 ∧ lo ≤ key y ∧ key y ≤ key hi ∧ key y = (if 9223372036854775808 ≤ y then -1 - ((y : Int) - 9223372036854775808) else y)) :
    if 0 < c3 then isInfP hi 1 else if (c0 : Int) + c1 + c2 = 0 then 0 < c4 ∧ isInfP hi (-1) else if isInfP hi 0 then False else if (0 : Int) < c0 then True else hi % 9223372036854775808 = 0 ∧ (9223372036854775808 ≤ hi ↔ ((1 : Int) < 0 ↔ 0 < c2)) := by
  rw [l3] at g2 g3 fy
  generalize kindP hi = kl at *
  clear l3
  by_cases q4 : 0 < c3
  · rw [if_pos q4]
    obtain ⟨y, y1, y2, y3, y4, y5, y6⟩ := g3 q4
    have yk := (kd y2).2.2.1.1 y1
    unfold isInfP
    rw [if_neg (by omega), if_neg (by omega)]
    rw [y6, yk] at y5
    simp at y5
    split at y5 <;> omega
  · rw [if_neg q4]
    by_cases qf : (c0 : Int) + c1 + c2 = 0
    · rw [if_pos qf]
      have l3' : kl = 4 := by omega
      refine ⟨k4 l3', ?_⟩
      unfold isInfP
      rw [if_neg (by omega), if_pos (by omega)]
      omega
    · rw [if_neg qf]
      obtain ⟨y, y2, y3, y4, y5, y6⟩ := fy (by omega)
      have ninf : ¬ hi % 9223372036854775808 = 9218868437227405312 := by
        intro q
        rw [y6] at y5
        split at y5 <;> split at y5 <;> omega
      have ninf' : ¬ isInfP hi 0 := by unfold isInfP; rw [if_pos rfl]; exact ninf
      rw [if_neg ninf']
      by_cases qp : (0 : Int) < c0
      · rw [if_pos qp]; trivial
      · rw [if_neg qp]
        by_cases q1 : 0 < c2
        · obtain ⟨z, z1, z2, z3, z4, z5, z6⟩ := g2 q1
          have zk := (kd z2).2.2.2.2.1 z1
          rw [z6, zk] at z5
          simp at z5
          have hl : ¬ 9223372036854775808 ≤ hi := by
            split at z5 <;> omega
          refine ⟨by omega, ?_⟩
          simp [q1, hl]
        · have lo0 : hi = 9223372036854775808 := by omega
          rw [lo0]
          simp [q1]
theorem Mk.ends {S : Sh} {L : List Nat} (h : Mk S L) (hs : S.some) : endsP S := by
  have hc := cntK_sum L
  have hsm := h.some_iff.1 hs
  obtain ⟨f1, f2⟩ := h.fin
  rcases h.e with he | ⟨a1, a2, a3, a4, a5⟩
  · omega
  obtain ⟨l1, l2, l3⟩ := key5 (h.w _ a1) a2
  obtain ⟨u1, u2, u3⟩ := key5 (h.w _ a3) a4
  have lk := kd (h.w _ a1)
  have uk := kd (h.w _ a3)
  have lw := h.w _ a1
  have uw := h.w _ a3
  have lu := a5 _ a3 a4
  have hex : ∀ j, 0 < cntK j L → ∃ y ∈ L, kindP y = j := fun j => cntK_pos.1
  have hin : ∀ y ∈ L, 0 < cntK (kindP y) L := fun y hy => cntK_pos.2 ⟨y, hy, rfl⟩
  have il := hin _ a1
  have iu := hin _ a3
  have l5 := kindP_le5 S.lo
  have u5 := kindP_le5 S.hi
  have of_kind : ∀ j, j ≠ 5 → 0 < cntK j L → ∃ y, kindP y = j ∧ y < 18446744073709551616 ∧ y % 9223372036854775808 ≤ 9218868437227405312 ∧ key S.lo ≤ key y ∧ key y ≤ key S.hi ∧ key y = (if 9223372036854775808 ≤ y then -1 - ((y : Int) - 9223372036854775808) else y) := fun j hj hp => by
    obtain ⟨y, hy, hk⟩ := hex j hp
    have hk5 : kindP y ≠ 5 := by rw [hk]; exact hj
    obtain ⟨b1, b2, b3⟩ := key5 (h.w _ hy) hk5
    exact ⟨y, hk, h.w _ hy, b2, (a5 y hy hk5).1, (a5 y hy hk5).2, b3⟩
  have fin_y : 0 < S.fin → ∃ y, y < 18446744073709551616 ∧ y % 9223372036854775808 < 9218868437227405312 ∧ key S.lo ≤ key y ∧ key y ≤ key S.hi ∧ key y = (if 9223372036854775808 ≤ y then -1 - ((y : Int) - 9223372036854775808) else y) := fun hf => by
    have : ∃ j, j ≤ 2 ∧ 0 < cntK j L := by
      by_cases q0 : 0 < cntK 0 L
      · exact ⟨0, by omega, q0⟩
      by_cases q1 : 0 < cntK 1 L
      · exact ⟨1, by omega, q1⟩
      · exact ⟨2, by omega, by omega⟩
    obtain ⟨j, hj, hp⟩ := this
    obtain ⟨y, y1, y2, y3, y4, y5, y6⟩ := of_kind j (by omega) hp
    have yk := kd y2
    exact ⟨y, y2, by omega, y4, y5, y6⟩
  have g1 := of_kind 1 (by omega)
  have g2 := of_kind 2 (by omega)
  have g3 := of_kind 3 (by omega)
  have g4 := of_kind 4 (by omega)
  have lk' : ∀ j, kindP S.lo = j → 0 < cntK j L := fun j e => by rw [← e]; exact il
  have uk' : ∀ j, kindP S.hi = j → 0 < cntK j L := fun j e => by rw [← e]; exact iu
  have lk0 := lk' 0
  have lk1 := lk' 1
  have lk2 := lk' 2
  have lk3 := lk' 3
  have lk4 := lk' 4
  have uk0 := uk' 0
  have uk1 := uk' 1
  have uk2 := uk' 2
  have uk3 := uk' 3
  have uk4 := uk' 4
  clear lk' uk' il iu of_kind hin hex
  refine ⟨?_, ?_, ?_⟩
  · rw [l1, u1]
    simp
    omega
  · unfold endP
    rw [f1, f2, h.s]
    dsimp only
    rw [f1] at fin_y
    exact lo_end lw l2 l3 lk l5 a2 lk0 lk1 lk2 lk3 lk4 hc g1 g4 fin_y
  · unfold endP
    rw [f1, f2, h.s]
    dsimp only
    rw [f1] at fin_y
    exact hi_end uw u2 u3 uk u5 a4 uk0 uk1 uk2 uk3 uk4 hc g2 g3 fin_y
end

/- A sum told two ways: what is counted, one answer only. No condition. -/
section
open Go Sx Wd

theorem cnt1_kind (s : SP) (x : Nat) : cnt1 s (splitP x).cls (splitP x).neg = countP s (kindP x) := by
  unfold cnt1 kindP countP
  generalize (splitP x).cls = c
  generalize (splitP x).neg = g
  by_cases h4 : c = 4
  · subst h4; simp
  · by_cases h3 : c = 3
    · subst h3; cases g <;> simp
    · by_cases h0 : c = 0
      · subst h0; cases g <;> simp
      · simp [h4, h3, h0]
theorem cntP_fold : ∀ (l : List Nat) (s : SP), l.foldl (fun s x => countP s (kindP x)) s = ⟨s.na + cntK 5 l, s.up + cntK 3 l, s.dn + cntK 4 l, s.mi + cntK 1 l, s.pl + cntK 2 l, s.al + l.length⟩
  | [], s => rfl
  | x :: l, s => by
    rw [List.foldl_cons, cntP_fold l]
    simp only [cntK_cons, countP, List.length_cons, SP.mk.injEq, Nat.add_assoc, true_and]
    omega
theorem cntP_cnt (l : List Nat) : cntP l = ⟨cntK 5 l, cntK 3 l, cntK 4 l, cntK 1 l, cntK 2 l, l.length⟩ := by
  unfold cntP
  rw [cntP_fold]
  simp [SP.zero]
theorem round_unique {x : Option Dy} {mode : Int} {b b' : Nat} {e e' : Int} (h : RoundR x mode b e) (h' : RoundR x mode b' e') : b = b' ∧ e = e' := by
  rcases h with ⟨a, b1, e1⟩ | ⟨a, h⟩ <;> rcases h' with ⟨a', b2, e2⟩ | ⟨a', h'⟩
  · exact ⟨b1.trans b2.symm, e1.trans e2.symm⟩
  · exact absurd a' a
  · exact absurd a a'
  · rcases h with ⟨n, b1, e1⟩ | ⟨d, r, hd, N, _, b1, e1⟩ <;> rcases h' with ⟨n', b2, e2⟩ | ⟨d', r', hd', N', _, b2, e2⟩
    · exact ⟨b1.trans b2.symm, e1.trans e2.symm⟩
    · rw [n] at hd'; cases hd'
    · rw [n'] at hd; cases hd
    · rw [hd] at hd'; cases hd'
      have := N.unique (dyB_pos _) N'
      subst this
      exact ⟨b1.trans b2.symm, e1.trans e2.symm⟩
theorem sumSh_unique {S T : Sh} (hs : S.s = T.s) (hV : S.V = T.V) {mode pn pi : Int} {b b' : Nat} {e e' : Int} (h : sumShR S mode pn pi b e) (h' : sumShR T mode pn pi b' e') : b = b' ∧ e = e' := by
  unfold sumShR at h h'
  rw [← hs, ← hV] at h'
  rcases h with ⟨a, b1, e1⟩ | ⟨a, h⟩ <;> rcases h' with ⟨a', b2, e2⟩ | ⟨a', h'⟩
  · exact ⟨b1.trans b2.symm, e1.trans e2.symm⟩
  · exact absurd a' a
  · exact absurd a a'
  · rcases h with ⟨x, v, b1, e1⟩ | ⟨v, h⟩ <;> rcases h' with ⟨x', v', b2, e2⟩ | ⟨v', h'⟩
    · rw [v] at v'; cases v'; exact ⟨b1.trans b2.symm, e1.trans e2.symm⟩
    · rw [v] at v'; cases v'
    · rw [v] at v'; cases v'
    · rcases h with ⟨m, b1, e1⟩ | ⟨m, h⟩ <;> rcases h' with ⟨m', b2, e2⟩ | ⟨m', h'⟩
      · exact ⟨b1.trans b2.symm, e1.trans e2.symm⟩
      · exact absurd m m'
      · exact absurd m' m
      · exact round_unique h h'
theorem tv_eq0 : ∀ {L : List Nat}, tv L = 0 → ∀ x ∈ L, x = 0
  | [], _ => fun x hx => by cases hx
  | y :: L, h => by
    rw [tv] at h
    intro x hx
    rcases List.mem_cons.1 hx with e | hx
    · omega
    · exact tv_eq0 (by omega) x hx
theorem Rep.nought {L : List Nat} {S : Int} (hr : Rep L S) (h1 : -((16384 * BB : Nat) : Int) < S) (h2 : S < (16384 * BB : Nat)) : S = 0 ↔ ∀ x ∈ L, x = 0 := by
  constructor
  · intro h
    obtain ⟨_, h9⟩ := hr.pos (by omega) h2
    exact tv_eq0 (by omega)
  · intro h
    have hl : L = List.replicate 67 0 := List.eq_replicate_iff.2 ⟨hr.len, h⟩
    have ht : tv L = 0 := by rw [hl, tv_zero]
    apply Classical.byContradiction
    intro h0
    rcases Int.lt_or_gt_of_ne h0 with q | q
    · obtain ⟨_, _, h9⟩ := hr.neg q h1
      have hw := hr.neg q h1
      have hg : L.getD 66 0 = 0 := by rw [hl]; rfl
      have := hw.1
      omega
    · obtain ⟨_, h9⟩ := hr.pos (by omega) h2
      omega
end

/- What moment.Var says of a list: plain. No condition. -/
section
open Go Sx Wd
set_option exponentiation.threshold 300000

theorem wd_1 : wd 1 = [1] := by decide +kernel
theorem ok_1 : (Dy.mk false 1 0).ok := ⟨fun h => absurd h (by decide), fun _ => by decide, by show (wd 1).length ≤ 8192; rw [wd_1]; decide, by decide⟩
theorem intD_1 : intD 1 = ⟨false, 1, 0⟩ := by
  show (formD false 1 0).getD Dy.zero = _
  rw [formD_self ok_1]
  rfl
theorem mulD_one {d : Dy} (h : d.ok) : mulD (intD 1) d = some d := by
  rw [intD_1]
  unfold mulD
  simp only [Nat.one_mul, Int.zero_add]
  rw [if_neg (by have := h.len; omega)]
  have : (false != d.neg) = d.neg := by cases d.neg <;> rfl
  rw [this]
  exact formD_self h
theorem timD_eq {x y : Dy} (h : x.ok) : timD x y = (mulD x y).getD Dy.zero := by
  show (mulD ((mulD (intD 1) x).getD Dy.zero) y).getD Dy.zero = _
  rw [mulD_one h]
  rfl
theorem fdy_sum {x : Nat} : fdy x = sumD (fvI x) := by
  unfold fdy
  split
  · rfl
  · rename_i hc; rw [fvI_zero (fun q => hc (by omega))]; rfl
def addG (o d : Dy) : Dy := (addD o d).getD Dy.zero
def totD (ds : List Dy) : Dy := ds.foldl addG Dy.zero
theorem InB.ofI {l : List Nat} (h : l.length ≤ 1099511627776) : InB (sumI l) := sumI_in h
theorem sqS_cons (x : Nat) (l : List Nat) : sqS (x :: l) = sqI x + sqS l := by simp [sqS]
theorem tot_f_ : ∀ (l k : List Nat), (k ++ l).length ≤ 1099511627776 → (l.map fdy).foldl addG (sumD (sumI k)) = sumD (sumI (k ++ l))
  | [], k, _ => by rw [List.append_nil]; rfl
  | x :: l, k, h => by
    have h1 : (k ++ [x]).length ≤ 1099511627776 := by simp at h ⊢; omega
    have h2 : k.length ≤ 1099511627776 := by simp at h; omega
    have e : addG (sumD (sumI k)) (fdy x) = sumD (sumI (k ++ [x])) := by
      unfold addG
      have hx : InB (fvI x) := by
        have := InB.ofI (l := [x]) (by simp)
        simpa [sumI] using this
      have hs := InB.ofI h1
      rw [sumI_snoc] at hs
      rw [fdy_sum, addD_sum (InB.ofI h2) hx hs, sumI_snoc]
      rfl
    rw [List.map_cons, List.foldl_cons, e, tot_f_ l (k ++ [x]) (by simpa using h)]
    simp
theorem tot_f {l : List Nat} (h : l.length ≤ 1099511627776) : totD (l.map fdy) = sumD (sumI l) := tot_f_ l [] (by simpa using h)
theorem sq_dy {x : Nat} (hx : x < 18446744073709551616) : timD (fdy x) (fdy x) = sumD (sqI x) := by
  have h := (Mk.one hx).Q
  rw [timD_eq (fdy_ok x)]
  have e : sqS [x] = sqI x := by simp [sqS]
  rw [← e, ← h]
  rfl
theorem tot_q_ : ∀ (l k : List Nat), (∀ x ∈ k ++ l, x < 18446744073709551616) → (k ++ l).length ≤ 1099511627776 → (l.map fun x => timD (fdy x) (fdy x)).foldl addG (sumD (sqS k)) = sumD (sqS (k ++ l))
  | [], k, _, _ => by rw [List.append_nil]; rfl
  | x :: l, k, hw, h => by
    have h1 : (k ++ [x]).length ≤ 1099511627776 := by simp at h ⊢; omega
    have h2 : k.length ≤ 1099511627776 := by simp at h; omega
    have hx : x < 18446744073709551616 := hw x (by simp)
    have w1 : ∀ y ∈ k ++ [x], y < 18446744073709551616 := fun y hy => hw y (by simp at hy ⊢; rcases hy with q | q; exact .inl q; exact .inr (.inl q))
    have w2 : ∀ y ∈ k, y < 18446744073709551616 := fun y hy => hw y (by simp [hy])
    have e : addG (sumD (sqS k)) (timD (fdy x) (fdy x)) = sumD (sqS (k ++ [x])) := by
      unfold addG
      have hq : InB (sqI x) := by
        have := sq_in (L := [x]) (fun y hy => by rw [List.mem_singleton.1 hy]; exact hx) (by simp)
        simpa [sqS] using this
      have hs := sq_in w1 h1
      rw [sqS_snoc] at hs
      rw [sq_dy hx, addD_sum (sq_in w2 h2) hq hs, sqS_snoc]
      rfl
    rw [List.map_cons, List.foldl_cons, e, tot_q_ l (k ++ [x]) (by simpa using hw) (by simpa using h)]
    simp
theorem tot_q {l : List Nat} (hw : ∀ x ∈ l, x < 18446744073709551616) (h : l.length ≤ 1099511627776) : totD (l.map fun x => timD (fdy x) (fdy x)) = sumD (sqS l) := tot_q_ l [] (by simpa using hw) (by simpa using h)
def comD (k : List Nat) : Dy := (subD (timD (intD k.length) (totD (k.map fun x => timD (fdy x) (fdy x)))) (timD (totD (k.map fdy)) (totD (k.map fdy)))).getD Dy.zero
def varR (l : List Nat) (less mode pn pi : Int) (b : Nat) (e : Int) : Prop :=
  (¬ (((0 ≤ mode ∧ mode ≤ 4) ∧ (less = 0 ∨ less = 1)) ∧ mayQ pn pi) ∧ b = 0 ∧ e = 1) ∨ ((((0 ≤ mode ∧ mode ≤ 4) ∧ (less = 0 ∨ less = 1)) ∧ mayQ pn pi) ∧
    ((siftE l pn pi ≠ 0 ∧ b = 0 ∧ e = siftE l pn pi) ∨ (siftE l pn pi = 0 ∧
      ((carSh (cntP l) pn pi ∧ b = 9221120237041090560 ∧ e = 0) ∨ (¬ carSh (cntP l) pn pi ∧ ((((filP l).length : Int) ≤ less ∧ b = 0 ∧ e = 3) ∨ (less < (filP l).length ∧
        QuotP (comD (filP l)).neg (timD (intD (filP l).length) (intD ((filP l).length - less))).neg (comD (filP l)).m (timD (intD (filP l).length) (intD ((filP l).length - less))).m (comD (filP l)).e (timD (intD (filP l).length) (intD ((filP l).length - less))).e mode b e)))))))
theorem formD_small {neg : Bool} {n : Nat} {e : Int} (hn : ∀ c, c = 200000 → n < 2 ^ c) (he : -500000 ≤ e ∧ e ≤ 500000) : ∃ d, formD neg n e = some d := by
  by_cases h0 : n = 0
  · subst h0; exact ⟨_, formD_zero _ _⟩
  · have h1 := tz_lt_bl h0
    have h2 : bl n ≤ 200000 := bl_le.2 (hn _ rfl)
    have h3 : (wd (n / 2 ^ tz n)).length ≤ 8192 := wlenB fun c hc => Nat.lt_of_le_of_lt (Nat.div_le_self _ _) (Nat.lt_of_lt_of_le (hn _ rfl) (Nat.pow_le_pow_right (by decide) (by omega)))
    exact ⟨_, formD_some h0 (by omega)⟩
theorem addD_small {x y : Dy} (hx : ∀ c, c = 9000 → x.m < 2 ^ c) (hy : ∀ c, c = 9000 → y.m < 2 ^ c) (ex : -10000 ≤ x.e ∧ x.e ≤ 10000) (ey : -10000 ≤ y.e ∧ y.e ≤ 10000) : ∃ d, addD x y = some d := by
  have hp : ∀ {m : Nat} {k : Nat}, (∀ c, c = 9000 → m < 2 ^ c) → k ≤ 20000 → ∀ c, c = 199999 → m * 2 ^ k < 2 ^ c := fun {m k} hm hk c hc => by
    have h1 : m * 2 ^ k < 2 ^ 9000 * 2 ^ k := Nat.mul_lt_mul_of_pos_right (hm _ rfl) (Nat.two_pow_pos _)
    rw [← Nat.pow_add] at h1
    exact Nat.lt_of_lt_of_le h1 (Nat.pow_le_pow_right (by decide) (by omega))
  have hl : ∀ {m : Nat} {k : Nat}, (∀ c, c = 9000 → m < 2 ^ c) → k ≤ 20000 → (wd (m * 2 ^ k)).length ≤ 8192 := fun {m k} hm hk => wlenB fun c hc => Nat.lt_of_lt_of_le (hp hm hk _ rfl) (Nat.pow_le_pow_right (by decide) (by omega))
  have k1 : (x.e - min x.e y.e).toNat ≤ 20000 := by omega
  have k2 : (y.e - min x.e y.e).toNat ≤ 20000 := by omega
  have hm : -500000 ≤ min x.e y.e ∧ min x.e y.e ≤ 500000 := by omega
  have p1 := hp hx k1
  have p2 := hp hy k2
  have dbl : ∀ c : Nat, c = 200000 → ∀ d, d = 199999 → (2 : Nat) ^ d + 2 ^ d ≤ 2 ^ c := fun c hc d hd => by
    have : c = d + 1 := by omega
    rw [this, Nat.pow_succ]; omega
  have up : ∀ c : Nat, c = 200000 → ∀ d, d = 199999 → (2 : Nat) ^ d ≤ 2 ^ c := fun c hc d hd => Nat.pow_le_pow_right (by decide) (by omega)
  unfold addD
  split
  · exact ⟨_, rfl⟩
  split
  · exact ⟨_, rfl⟩
  rw [if_neg (by have := hl hx k1; have := hl hy k2; omega)]
  split
  · exact formD_small (fun c hc => Nat.lt_of_lt_of_le (Nat.add_lt_add (p1 _ rfl) (p2 _ rfl)) (dbl c hc _ rfl)) hm
  split
  · exact formD_small (fun c hc => Nat.lt_of_le_of_lt (Nat.sub_le _ _) (Nat.lt_of_lt_of_le (p2 _ rfl) (up c hc _ rfl))) hm
  · exact formD_small (fun c hc => Nat.lt_of_le_of_lt (Nat.sub_le _ _) (Nat.lt_of_lt_of_le (p1 _ rfl) (up c hc _ rfl))) hm
structure Sm1 (d : Dy) : Prop where
  ok : d.ok
  m : ∀ c, c = 4300 → d.m < 2 ^ c
  e : -2500 ≤ d.e ∧ d.e ≤ 4300
theorem mulD_small {x y : Dy} (hx : Sm1 x) (hy : Sm1 y) : ∃ z, mulD x y = some z ∧ z.ok ∧ (∀ c, c = 9000 → z.m < 2 ^ c) ∧ -10000 ≤ z.e ∧ z.e ≤ 10000 := by
  by_cases h0 : x.m = 0 ∨ y.m = 0
  · have e : mulD x y = some Dy.zero := by
      unfold mulD
      have : x.m * y.m = 0 := by rcases h0 with q | q <;> simp [q]
      rw [this, if_neg (by rw [wd_zero]; decide), formD_zero]
    exact ⟨_, e, ok_zero, fun c hc => Nat.two_pow_pos _, by decide, by decide⟩
  · have hx0 : x.m ≠ 0 := fun q => h0 (.inl q)
    have hy0 : y.m ≠ 0 := fun q => h0 (.inr q)
    have ex := hx.e
    have ey := hy.e
    have e := mulD_odd (hx.ok.odd hx0) (hy.ok.odd hy0) (hx.m _ rfl) (hy.m _ rfl) (by omega) (by omega)
    refine ⟨_, e, mulD_ok e, fun c hc => ?_, by dsimp only; omega, by dsimp only; omega⟩
    have a : x.m * y.m < 2 ^ 4300 * 2 ^ 4300 := Nat.mul_lt_mul'' (hx.m _ rfl) (hy.m _ rfl)
    rw [← Nat.pow_add] at a
    exact Nat.lt_of_lt_of_le a (Nat.pow_le_pow_right (by omega) (by omega))
theorem subD_small {x y : Dy} (ox : x.ok) (oy : y.ok) (hx : ∀ c, c = 9000 → x.m < 2 ^ c) (hy : ∀ c, c = 9000 → y.m < 2 ^ c) (ex : -10000 ≤ x.e ∧ x.e ≤ 10000) (ey : -10000 ≤ y.e ∧ y.e ≤ 10000) : ∃ d, subD x y = some d := by
  unfold subD
  by_cases h0 : y.m = 0
  · rw [h0, formD_zero]
    exact addD_small hx (fun c hc => Nat.two_pow_pos _) ex (by decide)
  · have ht := tz_odd (oy.odd h0)
    have hl := oy.len
    rw [formD_some h0 (by rw [ht]; simp; omega), ht]
    simp only [Nat.pow_zero, Nat.div_one]
    exact addD_small hx hy ex (by dsimp only; omega)
theorem Sm1.sum {S : Int} (h : InB S) : Sm1 (sumD S) := by
  by_cases h0 : S = 0
  · subst h0; exact ⟨ok_zero, fun c hc => Nat.two_pow_pos _, by decide⟩
  · obtain ⟨a, h1, h2, h3, h4, h5, h6⟩ := sumD_in h h0
    exact ⟨rsumD_ok h, fun c hc => Nat.lt_of_lt_of_le h5 (Nat.pow_le_pow_right (by decide) (by omega)), by omega⟩
theorem Sm1.int {n : Int} (h : n.natAbs ≤ 1099511627776) : Sm1 (intD n) := by
  have e := intD_eq (n := n) (by omega)
  by_cases h0 : n.natAbs = 0
  · rw [h0, formD_zero] at e
    rw [← Option.some.inj e]
    exact ⟨ok_zero, fun c hc => Nat.two_pow_pos _, by decide⟩
  · have h1 := tz_lt_bl h0
    have h2 : bl n.natAbs ≤ 64 := bl_le.2 (by omega)
    have hok := formD_ok e
    unfold formD at e
    rw [if_neg h0] at e
    split at e
    · cases e
    · rw [← Option.some.inj e]
      rw [← Option.some.inj e] at hok
      refine ⟨hok, fun c hc => Nat.lt_of_le_of_lt (Nat.div_le_self _ _) (Nat.lt_of_lt_of_le (by omega : n.natAbs < 2 ^ 64) (Nat.pow_le_pow_right (by decide) (by omega))), by dsimp only; omega⟩
theorem var_some {V Q : Int} (hV : InB V) (hQ : InB Q) {n : Int} (hn : n.natAbs ≤ 1099511627776) : ∃ x y v, mulD (intD n) (sumD Q) = some x ∧ mulD (sumD V) (sumD V) = some y ∧ subD x y = some v := by
  obtain ⟨x, h1, a1, a2, a3, a4⟩ := mulD_small (Sm1.int hn) (Sm1.sum hQ)
  obtain ⟨y, h2, b1, b2, b3, b4⟩ := mulD_small (Sm1.sum hV) (Sm1.sum hV)
  obtain ⟨v, h3⟩ := subD_small a1 b1 a2 b2 ⟨a3, a4⟩ ⟨b3, b4⟩
  exact ⟨x, y, v, h1, h2, h3⟩
theorem fil_len (l : List Nat) : ((filP l).length : Int) = (cntK 0 l : Int) + cntK 1 l + cntK 2 l := by
  have h := cnt_n l
  rw [cntP_cnt] at h
  have := cntK_sum l
  dsimp only at h
  omega
theorem sqS_fil : ∀ l : List Nat, sqS (filP l) = sqS l
  | [] => rfl
  | x :: l => by
    have e : filP (x :: l) = if kindP x ≤ 2 then x :: filP l else filP l := by
      unfold filP
      rw [List.filter_cons]
      by_cases h : kindP x ≤ 2 <;> simp [h, finP]
    rw [e, sqS_cons]
    split
    · rw [sqS_cons, sqS_fil l]
    · rename_i h
      have : sqI x = 0 := by unfold sqI; rw [if_neg (by omega)]
      rw [sqS_fil l, this, Int.zero_add]
theorem fil_w {l : List Nat} (hw : ∀ x ∈ l, x < 18446744073709551616) : ∀ x ∈ filP l, x < 18446744073709551616 := fun x hx => hw x ((List.mem_filter.1 hx).1)
theorem com_eq {S : Sh} {l : List Nat} (h : Mk S l) : comD (filP l) = (subD ((mulD (intD (filP l).length) S.Q).getD Dy.zero) ((mulD S.V S.V).getD Dy.zero)).getD Dy.zero := by
  have hn := h.n
  have hl := filP_le l
  unfold comD
  rw [tot_f (by omega), tot_q (fil_w h.w) (by omega), sumI_fil, sqS_fil, ← h.V, ← h.Q, timD_eq (intD_ok (by omega)), timD_eq]
  rw [h.V]
  exact (Sm1.sum (InB.ofI hn)).ok
theorem var_same {S : Sh} {l : List Nat} (h : Mk S l) (hlen : l.length ≤ 65536) {less mode pn pi : Int} {b b' : Nat} {e e' : Int} (h1 : varShR S less mode pn pi b e) (h2 : varR l less mode pn pi b' e') : b = b' ∧ e = e' := by
  have hs : cntP l = S.s := by rw [cntP_cnt, h.s]
  have hf : S.fin = ((filP l).length : Int) := by rw [fil_len, h.fin.1]
  have hn := h.n
  have hl := filP_le l
  have hE : ∀ hm : 0 ≤ mode ∧ mode ≤ 4, mayQ pn pi → siftE l pn pi = shE S.s mode pn pi := fun hm hq => by
    unfold siftE shE refE
    rw [if_neg (show ¬ ¬ mayQ pn pi from fun z => z hq), if_neg (show ¬ 65536 < l.length by omega), hs, if_neg (show ¬ ¬ ((0 ≤ mode ∧ mode ≤ 4) ∧ mayQ pn pi) from fun z => z ⟨hm, hq⟩)]
  rcases h1 with ⟨a, b1, e1⟩ | ⟨a, h1⟩
  · rcases h2 with ⟨_, b2, e2⟩ | ⟨c, _⟩
    · exact ⟨b1.trans b2.symm, e1.trans e2.symm⟩
    · exact absurd c.1.2 a
  · by_cases hq : (0 ≤ mode ∧ mode ≤ 4) ∧ mayQ pn pi
    · have hEE := hE hq.1 hq.2
      rcases h2 with ⟨c, _⟩ | ⟨_, h2⟩
      · exact absurd ⟨⟨hq.1, a⟩, hq.2⟩ c
      rw [hEE, hs] at h2
      rcases h1 with ⟨s, b1, e1⟩ | ⟨s, h1⟩ <;> rcases h2 with ⟨s', b2, e2⟩ | ⟨s', h2⟩
      · exact ⟨b1.trans b2.symm, e1.trans e2.symm⟩
      · exact absurd s' s
      · exact absurd s s'
      rcases h1 with ⟨c, b1, e1⟩ | ⟨c, h1⟩ <;> rcases h2 with ⟨c', b2, e2⟩ | ⟨c', h2⟩
      · exact ⟨b1.trans b2.symm, e1.trans e2.symm⟩
      · exact absurd c c'
      · exact absurd c' c
      rw [← hf] at h2
      rcases h1 with ⟨f, b1, e1⟩ | ⟨f, h1⟩ <;> rcases h2 with ⟨f', b2, e2⟩ | ⟨f', h2⟩
      · exact ⟨b1.trans b2.symm, e1.trans e2.symm⟩
      · omega
      · omega
      obtain ⟨x, y, v, g1, g2, g3⟩ := var_some (InB.ofI hn) (sq_in h.w hn) (n := S.fin) (by omega)
      rw [← h.Q] at g1
      rw [← h.V] at g2
      have hcom : comD (filP l) = v := by rw [com_eq h, ← hf, g1, g2]; show (subD x y).getD _ = v; rw [g3]; rfl
      rw [hcom] at h2
      rcases h1 with ⟨z, _⟩ | ⟨_, ⟨z, _⟩ | ⟨x', y', i1, i2, ⟨z, _⟩ | ⟨v', i3, ⟨z, _⟩ | ⟨_, h1⟩⟩⟩⟩
      · exact absurd ⟨hq.1, a, by omega, by omega⟩ z
      · rcases z with z | z
        · rw [g1] at z; cases z
        · rw [g2] at z; cases z
      · rw [g1] at i1; cases i1; rw [g2] at i2; cases i2; rw [g3] at z; cases z
      · omega
      · rw [g1] at i1; cases i1; rw [g2] at i2; cases i2; rw [g3] at i3; cases i3
        exact quot_unique h1 h2
    · have h0 : shE S.s mode pn pi = 1 := if_pos hq
      rcases h2 with ⟨_, b2, e2⟩ | ⟨c, _⟩
      · rcases h1 with ⟨_, b1, e1⟩ | ⟨s, _⟩
        · rw [h0] at e1; exact ⟨b1.trans b2.symm, e1.trans e2.symm⟩
        · rw [h0] at s; cases s
      · exact absurd ⟨c.1.1, c.2⟩ hq
theorem mean_same {S : Sh} {l : List Nat} (h : Mk S l) (hlen : l.length ≤ 65536) {mode pn pi : Int} {b b' : Nat} {e e' : Int} (h1 : meanShR S mode pn pi b e) (h2 : meanR l mode pn pi b' e') : b = b' ∧ e = e' := by
  have hs : cntP l = S.s := by rw [cntP_cnt, h.s]
  have hf : S.fin = ((filP l).length : Int) := by rw [fil_len, h.fin.1]
  have hV : S.V = sumD (sumI (filP l)) := by rw [sumI_fil, h.V]
  by_cases hq : (0 ≤ mode ∧ mode ≤ 4) ∧ mayQ pn pi
  · have hEE : siftE l pn pi = shE S.s mode pn pi := by
      unfold siftE shE refE
      rw [if_neg (show ¬ ¬ mayQ pn pi from fun z => z hq.2), if_neg (show ¬ 65536 < l.length by omega), hs, if_neg (show ¬ ¬ ((0 ≤ mode ∧ mode ≤ 4) ∧ mayQ pn pi) from fun z => z hq)]
    rcases h2 with ⟨c, _⟩ | ⟨_, h2⟩
    · exact absurd hq.1 c
    rw [hEE, hs] at h2
    rcases h1 with ⟨s, b1, e1⟩ | ⟨s, h1⟩ <;> rcases h2 with ⟨s', b2, e2⟩ | ⟨s', h2⟩
    · exact ⟨b1.trans b2.symm, e1.trans e2.symm⟩
    · exact absurd s' s
    · exact absurd s s'
    rcases h1 with ⟨x, v, b1, e1⟩ | ⟨v, h1⟩ <;> rcases h2 with ⟨v', e2⟩ | ⟨v', h2⟩
    · rw [v] at v'; cases v'; exact ⟨b1, e1.trans e2.symm⟩
    · rw [v] at v'; cases v'
    · rw [v] at v'; cases v'
    rcases h1 with ⟨f, b1, e1⟩ | ⟨f, h1⟩ <;> rcases h2 with ⟨f', b2, e2⟩ | ⟨f', h2⟩
    · exact ⟨b1.trans b2.symm, e1.trans e2.symm⟩
    · exact absurd (List.length_eq_zero_iff.1 (by omega)) f'
    · rw [f'] at hf; exact absurd hf f
    rw [hf, hV] at h1
    exact told_unique h1 h2
  · have h0 : shE S.s mode pn pi = 1 := if_pos hq
    rcases h1 with ⟨_, b1, e1⟩ | ⟨s, _⟩
    · rw [h0] at e1
      by_cases hm : 0 ≤ mode ∧ mode ≤ 4
      · have hn : ¬ mayQ pn pi := fun z => hq ⟨hm, z⟩
        have h9 : siftE l pn pi = 1 := by unfold siftE; rw [if_pos hn]
        rcases h2 with ⟨c, _⟩ | ⟨_, ⟨_, b2, e2⟩ | ⟨c, _⟩⟩
        · exact absurd hm c
        · rw [h9] at e2; exact ⟨b1.trans b2.symm, e1.trans e2.symm⟩
        · rw [h9] at c; cases c
      · rcases h2 with ⟨_, b2, e2⟩ | ⟨c, _⟩
        · exact ⟨b1.trans b2.symm, e1.trans e2.symm⟩
        · exact absurd c hm
    · rw [h0] at s; cases s
end

/- A shard of some numbers: its sums may be. No condition. -/
section
open Go Sx Wd Fl
set_option exponentiation.threshold 9000

theorem sumI_dvd {L : List Nat} (hw : ∀ x ∈ L, x < 18446744073709551616) : ∀ a, a = 1074 → ∃ z : Int, sumI L = z * ((2 ^ a : Nat) : Int) := by
  intro a ha
  induction L with
  | nil => exact ⟨0, by simp [sumI]⟩
  | cons x L ih =>
    obtain ⟨z, hz⟩ := ih fun y hy => hw y (List.mem_cons_of_mem _ hy)
    have hx := hw x (List.mem_cons_self ..)
    have e : sumI (x :: L) = fvI x + sumI L := by simp [sumI]
    obtain ⟨q, hq⟩ : ∃ q : Int, fvI x = q * ((2 ^ a : Nat) : Int) := by
      by_cases hc : (splitP x).cls ≤ 2
      · rw [fvI_nz hc hx, ha]
        split
        · exact ⟨-(nz (x % 9223372036854775808) : Int), by rw [Int.natCast_mul, Int.neg_mul]⟩
        · exact ⟨(nz (x % 9223372036854775808) : Int), by rw [Int.natCast_mul]⟩
      · exact ⟨0, by rw [fvI_zero (fun q => hc (by omega)), Int.zero_mul]⟩
    exact ⟨q + z, by rw [e, hz, hq, Int.add_mul]⟩
theorem odd_dvd {m a b : Nat} {z : Nat} (h : m * 2 ^ a = z * 2 ^ b) (hm : m % 2 = 1) (hz : z ≠ 0) : b ≤ a := by
  apply Classical.byContradiction
  intro q
  have e : 2 ^ b = 2 ^ (b - a) * 2 ^ a := by rw [← Nat.pow_add]; congr 1; omega
  rw [e, ← Nat.mul_assoc] at h
  have h1 := Nat.eq_of_mul_eq_mul_right (Nat.two_pow_pos a) h
  rw [h1, show b - a = (b - a - 1) + 1 by omega, Nat.pow_succ, ← Nat.mul_assoc, Nat.mul_mod_left] at hm
  cases hm
theorem sumD_low {S : Int} (h : InB S) (h0 : S ≠ 0) (hd : ∀ a, a = 1074 → ∃ z : Int, S = z * ((2 ^ a : Nat) : Int)) : -1074 ≤ (sumD S).e := by
  obtain ⟨a, h1, h2, h3, h4, h5, h6⟩ := sumD_in h h0
  obtain ⟨z, hz⟩ := hd 1074 rfl
  have hz' : S.natAbs = z.natAbs * 2 ^ 1074 := by rw [hz, Int.natAbs_mul, Int.natAbs_natCast]
  have := odd_dvd (h1.symm.trans hz') h4 (by
    intro e
    have : z = 0 := by omega
    rw [this, Int.zero_mul] at hz
    exact h0 hz)
  omega
theorem cmpY_sum {S T : Int} (hS : InB S) (hT : InB T) : cmpY (sumD S) (sumD T) = if S < T then -1 else if T < S then 1 else 0 := cmpD_sum hS hT
theorem topD_sum : ∀ a, a = 4196 → topD = sumD ((2 ^ a : Nat) : Int) := by
  intro a ha
  have hp : (0 : Int) < ((2 ^ a : Nat) : Int) := by have := Nat.two_pow_pos a; omega
  have hin : InB ((2 ^ a : Nat) : Int) := by
    subst ha
    have h : 2 ^ 4196 < 16384 * BB := by rw [BB_pow]; exact Nat.pow_lt_pow_right (by decide) (by decide)
    unfold InB
    omega
  rw [sumD_val hin (by omega), Int.natAbs_natCast]
  have ht : tz (2 ^ a) = a := by have := tz_mul 1 a rfl; rwa [Nat.one_mul] at this
  rw [ht, Nat.div_self (Nat.two_pow_pos a), decide_eq_false (by omega)]
  subst ha
  rfl
theorem cmpV_le {a b A B c : Nat} {e f : Int} (he : e = (A : Int) - c) (hf : f = (B : Int) - c) (h : a * 2 ^ A ≤ b * 2 ^ B) : cmpV a e b f ≤ 0 := by
  unfold cmpV
  apply sgn_le0
  have hm : min e f + c = ((min A B : Nat) : Int) := by omega
  have e1 : (e - min e f).toNat = A - min A B := by omega
  have e2 : (f - min e f).toNat = B - min A B := by omega
  rw [e1, e2]
  have hp := Nat.two_pow_pos (min A B)
  refine Nat.le_of_mul_le_mul_right (c := 2 ^ min A B) ?_ hp
  rw [Nat.mul_assoc, Nat.mul_assoc, ← Nat.pow_add, ← Nat.pow_add, show A - min A B + min A B = A by omega, show B - min A B + min A B = B by omega]
  exact h
theorem sh2 (km qm t b c : Nat) : km * 2 ^ t * (qm * 2 ^ b * 2 ^ c) = km * qm * 2 ^ (t + b + c) := by rw [Nat.pow_add, Nat.pow_add]; ac_rfl
theorem Mk.sums {S : Sh} {L : List Nat} (h : Mk S L) : sumsP S := by
  obtain ⟨f1, f2⟩ := h.fin
  obtain ⟨i1, i2, i3, i4, i5⟩ := sq_bounds h.w
  have hV := sumI_in h.n
  have hV' : InB (sumI L) := hV
  have hQ := sq_in h.w h.n
  have hk : cntK 0 L ≤ L.length := cntK_le 0 L
  have hn := h.n
  unfold sumsP
  rw [f2, h.V, h.Q]
  by_cases h0 : ((cntK 0 L : Nat) : Int) = 0
  · rw [if_pos h0]
    obtain ⟨e1, e2⟩ := i3 (by omega)
    rw [e1, e2]
    exact ⟨rfl, rfl⟩
  · rw [if_neg h0]
    have hk0 : 0 < cntK 0 L := by omega
    have q0 := i2 hk0
    obtain ⟨b, b1, b2, b3, b4, b5, b6⟩ := sumD_in hQ (by omega)
    have hqneg : (sumD (sqS L)).neg = false := by rw [b3]; exact decide_eq_false (by omega)
    have hsgQ : sgD (sumD (sqS L)).neg (sumD (sqS L)).m = 1 := by
      unfold sgD
      rw [if_neg (fun e => by rw [e] at b4; cases b4), hqneg]; rfl
    refine ⟨?_, ?_, ?_⟩
    · rw [hsgQ]
      rintro (q | q | ⟨q1, q2⟩)
      · omega
      · omega
      · have hne : sumI L ≠ 0 := fun e => q1 (by rw [e]; rfl)
        have := sumD_low hV' hne (sumI_dvd h.w)
        omega
    · have hp := pow4236 4196 rfl
      have hb : ((16384 * BB : Nat) : Int) = 4398046511104 * ((2 ^ 4196 : Nat) : Int) := by
        have h1 : (16384 * BB : Nat) = 4398046511104 * 2 ^ 4196 := by rw [BB_pow] <;> exact hp
        rw [h1, Int.natCast_mul] <;> rfl
      have ht := topD_sum 4196 rfl
      have hlt := i4 hk0
      have hM : (0 : Int) < ((2 ^ 4196 : Nat) : Int) := by have := Nat.two_pow_pos 4196; omega
      generalize ((2 ^ 4196 : Nat) : Int) = M at *
      have h2 : M * ((cntK 0 L : Nat) : Int) ≤ M * 1099511627776 := Int.mul_le_mul_of_nonneg_left (by omega) (by omega)
      have h3 : 0 ≤ M * ((cntK 0 L : Nat) : Int) := Int.mul_nonneg (by omega) (by omega)
      have hMin : InB M := by unfold InB; rw [hb]; omega
      have hPin : InB (M * ((cntK 0 L : Nat) : Int)) := by unfold InB; rw [hb]; omega
      rw [ht, mulD_comm, mulD_int hMin (by omega) (by omega) hPin, Option.getD_some, cmpY_sum hQ hPin, if_pos (by rw [Int.mul_comm]; exact hlt)]
      decide
    · obtain ⟨t, t1, t2, t3⟩ := intD_form (n := cntK 0 L) (by omega) (by omega)
      have hok := intD_ok (n := ((cntK 0 L : Nat) : Int)) (by omega)
      have hkm : (intD ((cntK 0 L : Nat) : Int)).m ≠ 0 := fun e => by rw [e, Nat.zero_mul] at t1; omega
      have hko := hok.odd hkm
      have hpt := Nat.two_pow_pos t
      have hkle : (intD ((cntK 0 L : Nat) : Int)).m ≤ cntK 0 L := by
        conv => rhs; rw [t1]
        exact Nat.le_mul_of_pos_right _ hpt
      have htle : 2 ^ t ≤ cntK 0 L := by
        conv => rhs; rw [t1]
        exact Nat.le_mul_of_pos_left _ (by omega)
      have ht41 : t < 41 := by
        have h41 : cntK 0 L < 2 ^ 41 := by omega
        exact (Nat.pow_lt_pow_iff_right (by omega : 1 < 2)).1 (Nat.lt_of_le_of_lt htle h41)
      have hbig : ∀ c, c = 4300 → 2 ^ 4238 < 2 ^ c ∧ cntK 0 L < 2 ^ c := by
        intro c hc
        subst hc
        have h42 : cntK 0 L < 2 ^ 42 := by omega
        exact ⟨Nat.pow_lt_pow_right (by omega) (by omega), Nat.lt_trans h42 (Nat.pow_lt_pow_right (by omega) (by omega))⟩
      obtain ⟨g1, g2⟩ := hbig 4300 rfl
      rw [mulD_odd hko b4 (Nat.lt_of_le_of_lt hkle g2) (Nat.lt_trans b5 g1) (by omega) (by omega), Option.getD_some, t3, hqneg]
      by_cases hA : sumI L = 0
      · rw [hA, sumD_zero]
        have e : (mulD Dy.zero Dy.zero).getD Dy.zero = Dy.zero := by unfold mulD; rw [show Dy.zero.m * Dy.zero.m = 0 from rfl, formD_zero]; split <;> rfl
        rw [e]
        unfold cmpY cmpD
        have e1 : sgD Dy.zero.neg Dy.zero.m = 0 := rfl
        have e2 : sgD (false != false) ((intD ((cntK 0 L : Nat) : Int)).m * (sumD (sqS L)).m) = 1 := by
          unfold sgD
          rw [if_neg (Nat.mul_ne_zero hkm (fun e => by rw [e] at b4; cases b4))]; rfl
        dsimp only
        rw [e1, e2, if_pos (by decide)]
        decide
      · obtain ⟨a, a1, a2, a3, a4, a5, a6⟩ := sumD_in hV' hA
        rw [mulD_odd a4 a4 (Nat.lt_trans a5 g1) (Nat.lt_trans a5 g1) (by omega) (by omega), Option.getD_some]
        have hvm : (sumD (sumI L)).m ≠ 0 := fun e => by rw [e] at a4; cases a4
        have hneg : ((sumD (sumI L)).neg != (sumD (sumI L)).neg) = false := by cases (sumD (sumI L)).neg <;> rfl
        unfold cmpY cmpD
        dsimp only
        rw [hneg]
        have e1 : sgD false ((sumD (sumI L)).m * (sumD (sumI L)).m) = 1 := by
          unfold sgD
          rw [if_neg (Nat.mul_ne_zero hvm hvm)]; rfl
        have e2 : sgD (false != false) ((intD ((cntK 0 L : Nat) : Int)).m * (sumD (sqS L)).m) = 1 := by
          unfold sgD
          rw [if_neg (Nat.mul_ne_zero hkm (fun e => by rw [e] at b4; cases b4))]; rfl
        rw [e1, e2, if_neg (by decide), if_neg (by decide), if_neg (by decide), Int.one_mul]
        refine cmpV_le (c := 4296) (A := a + a) (B := t + b + 2148) (by omega) (by omega) ?_
        -- from the bound on the squares
        have hsq : (sumI L).natAbs * (sumI L).natAbs ≤ cntK 0 L * ((sqS L).natAbs * 2 ^ 2148) := by
          have w1 : (((sumI L).natAbs * (sumI L).natAbs : Nat) : Int) = sumI L * sumI L := by rw [Int.natCast_mul, Int.natAbs_mul_self']
          have w2 : (((sqS L).natAbs : Nat) : Int) = sqS L := by omega
          have w3 : ((cntK 0 L * ((sqS L).natAbs * 2 ^ 2148) : Nat) : Int) = (cntK 0 L : Int) * (sqS L * ((2 ^ 2148 : Nat) : Int)) := by rw [Int.natCast_mul, Int.natCast_mul, w2]
          have := i5
          rw [← w1, ← w3] at this
          exact Int.ofNat_le.1 this
        rw [a1, b1] at hsq
        generalize hvM : (sumD (sumI L)).m = vm at *
        generalize hqM : (sumD (sqS L)).m = qm at *
        generalize hkM : (intD ((cntK 0 L : Nat) : Int)).m = km at *
        have r1 : vm * 2 ^ a * (vm * 2 ^ a) = vm * vm * 2 ^ (a + a) := by rw [Nat.pow_add]; ac_rfl
        have r2 := sh2 km qm t b 2148
        rw [r1] at hsq
        rw [← r2, ← t1]
        exact hsq
theorem Mk.back {S : Sh} {L : List Nat} (h : Mk S L) (hn : S.noE) : S.back := by
  refine ⟨h.wf hn, h.ex, hn, ?_, h.sums, h.ends⟩
  rw [h.fin.1, h.s]
  dsimp only
  omega
theorem Mk.dec {S : Sh} {L : List Nat} (h : Mk S L) (hn : S.noE) : decS (encS S) = some S := decS_encS (h.back hn)
end

/- A log's bytes, read again, are its records. No condition. -/
section
open Go Sx Wd Fl

structure GoodG (G : List RG) : Prop where
  g : ∀ g ∈ G, 1 ≤ (sB g.1).length ∧ (sB g.1).length ≤ 64 ∧ B8 g.2.1 ∧ decS g.2.1 ≠ none
  tot : totG G ≤ 1048576
end

/- Package steelyardlaw22: live. No condition. -/
section
open Go Sx Wd Fl

def l12 : List Nat := [4607182418800017408, 4611686018427387904]
theorem ex0 : Sh.zero.ex := ⟨by decide, by decide, by show (wd 0).length ≤ 160; rw [wd_zero]; decide, by show (wd 0).length ≤ 160; rw [wd_zero]; decide⟩
theorem w12 : ∀ x ∈ l12, x < 18446744073709551616 := by decide
end

/- Sorting in place by keys: the plain law (ranges that are sorted, rows that are turned). No condition. -/
section
namespace Ss

def So (K : Nat → Int) (l : List Nat) (a b : Nat) : Prop := ∀ i j, a ≤ i → i < j → j < b → K (l.getD i 0) ≤ K (l.getD j 0)
structure Sm (l l' : List Nat) (a b : Nat) : Prop where
  p : l'.Perm l
  o : ∀ i, i < a ∨ b ≤ i → l'.getD i 0 = l.getD i 0
theorem Sm.refl (l : List Nat) (a b : Nat) : Sm l l a b := ⟨.refl _, fun _ _ => rfl⟩
theorem Sm.len {l l' : List Nat} {a b : Nat} (h : Sm l l' a b) : l'.length = l.length := h.p.length_eq
theorem Sm.trans {l l' l'' : List Nat} {a b : Nat} (h : Sm l l' a b) (g : Sm l' l'' a b) : Sm l l'' a b := ⟨g.p.trans h.p, fun i hi => (g.o i hi).trans (h.o i hi)⟩
theorem Sm.mono {l l' : List Nat} {a b c d : Nat} (h : Sm l l' a b) (h1 : c ≤ a) (h2 : b ≤ d) : Sm l l' c d := ⟨h.p, fun i hi => h.o i (by omega)⟩
theorem ext_getD {l l' : List Nat} (hl : l.length = l'.length) (h : ∀ i, l.getD i 0 = l'.getD i 0) : l = l' := by
  apply List.ext_getElem hl
  intro i h1 h2
  have := h i
  rwa [List.getD_eq_getElem?_getD, List.getD_eq_getElem?_getD, List.getElem?_eq_getElem h1, List.getElem?_eq_getElem h2] at this
theorem getD_take (l : List Nat) (n i : Nat) : (l.take n).getD i 0 = if i < n then l.getD i 0 else 0 := by
  rw [List.getD_eq_getElem?_getD, List.getElem?_take]
  split
  · rw [List.getD_eq_getElem?_getD]
  · rfl
theorem getD_drop (l : List Nat) (n i : Nat) : (l.drop n).getD i 0 = l.getD (n + i) 0 := by
  rw [List.getD_eq_getElem?_getD, List.getElem?_drop, List.getD_eq_getElem?_getD]
theorem split3 (l : List Nat) {a b : Nat} (h : a ≤ b) : l = l.take a ++ ((l.drop a).take (b - a) ++ l.drop b) := by
  rw [show l.drop b = (l.drop a).drop (b - a) by rw [List.drop_drop, show a + (b - a) = b by omega], List.take_append_drop, List.take_append_drop]
theorem Sm.mid {l l' : List Nat} {a b : Nat} (h : Sm l l' a b) (hab : a ≤ b) : ((l'.drop a).take (b - a)).Perm ((l.drop a).take (b - a)) := by
  have h1 : l'.take a = l.take a := ext_getD (by simp [h.len]) fun i => by
    rw [getD_take, getD_take]
    split
    · exact h.o i (.inl (by assumption))
    · rfl
  have h2 : l'.drop b = l.drop b := ext_getD (by simp [h.len]) fun i => by
    rw [getD_drop, getD_drop]
    exact h.o _ (.inr (by omega))
  have hp := h.p
  rw [split3 l hab, split3 l' hab, h1, h2] at hp
  have hp := (List.perm_append_left_iff _).1 hp
  exact (List.perm_append_right_iff _).1 hp
theorem mem_mid {l : List Nat} {a b x : Nat} (hb : b ≤ l.length) : x ∈ (l.drop a).take (b - a) ↔ ∃ j, a ≤ j ∧ j < b ∧ x = l.getD j 0 := by
  constructor
  · intro h
    obtain ⟨i, hi, e⟩ := List.mem_iff_getElem.1 h
    rw [List.length_take, List.length_drop] at hi
    refine ⟨a + i, by omega, by omega, ?_⟩
    rw [← e, List.getElem_take, List.getElem_drop, List.getD_eq_getElem?_getD, List.getElem?_eq_getElem (by omega)]
    rfl
  · rintro ⟨j, h1, h2, rfl⟩
    refine List.mem_iff_getElem.2 ⟨j - a, by rw [List.length_take, List.length_drop]; omega, ?_⟩
    rw [List.getElem_take, List.getElem_drop, List.getD_eq_getElem?_getD, List.getElem?_eq_getElem (by omega)]
    simp only [Option.getD_some]
    congr 1
    omega
theorem Sm.mem {l l' : List Nat} {a b i : Nat} (h : Sm l l' a b) (hb : b ≤ l.length) (h1 : a ≤ i) (h2 : i < b) : ∃ j, a ≤ j ∧ j < b ∧ l'.getD i 0 = l.getD j 0 := by
  have hm := (h.mid (by omega)).mem_iff.1 ((mem_mid (l := l') (x := l'.getD i 0) (by rw [h.len]; exact hb)).2 ⟨i, h1, h2, rfl⟩)
  exact (mem_mid hb).1 hm
def sw (l : List Nat) (i j : Nat) : List Nat := (l.set i (l.getD j 0)).set j (l.getD i 0)
theorem getD_set (l : List Nat) (i x k : Nat) (hi : i < l.length) : (l.set i x).getD k 0 = if k = i then x else l.getD k 0 := by
  rw [List.getD_eq_getElem?_getD, List.getElem?_set, List.getD_eq_getElem?_getD]
  by_cases h : i = k
  · subst h; simp [hi]
  · rw [if_neg h, if_neg (fun e => h e.symm)]
theorem sw_getD {l : List Nat} {i j : Nat} (hi : i < l.length) (hj : j < l.length) (k : Nat) : (sw l i j).getD k 0 = if k = j then l.getD i 0 else if k = i then l.getD j 0 else l.getD k 0 := by
  unfold sw
  rw [getD_set _ _ _ _ (by simpa using hj), getD_set _ _ _ _ hi]
theorem count_set' (l : List Nat) (i x y : Nat) (hi : i < l.length) : (l.set i x).count y + (if l.getD i 0 = y then 1 else 0) = l.count y + (if x = y then 1 else 0) := by
  induction l generalizing i with
  | nil => simp at hi
  | cons z l ih =>
    cases i with
    | zero =>
      simp only [List.set_cons_zero, List.count_cons, List.getD_cons_zero, beq_iff_eq]
      omega
    | succ i =>
      have := ih i (by simpa using hi)
      simp only [List.set_cons_succ, List.count_cons, List.getD_cons_succ, beq_iff_eq]
      omega
theorem sw_perm {l : List Nat} {i j : Nat} (hi : i < l.length) (hj : j < l.length) (hne : i ≠ j) : (sw l i j).Perm l := by
  rw [List.perm_iff_count]
  intro y
  unfold sw
  have h1 := count_set' (l.set i (l.getD j 0)) j (l.getD i 0) y (by simpa using hj)
  have h2 := count_set' l i (l.getD j 0) y hi
  rw [getD_set _ _ _ _ hi, if_neg (show ¬ j = i from fun e => hne e.symm)] at h1
  omega
theorem sw_Sm {l : List Nat} {a b i j : Nat} (hi : i < l.length) (hj : j < l.length) (hne : i ≠ j) (h1 : a ≤ i) (h2 : i < b) (h3 : a ≤ j) (h4 : j < b) : Sm l (sw l i j) a b := ⟨sw_perm hi hj hne, fun k hk => by
  rw [sw_getD hi hj, if_neg (by omega), if_neg (by omega)]⟩
/-! ### Insertion -/
def So1 (K : Nat → Int) (l : List Nat) (a i j : Nat) : Prop := (∀ p q, a ≤ p → p < q → q ≤ i → p ≠ j → q ≠ j → K (l.getD p 0) ≤ K (l.getD q 0)) ∧ ∀ q, j < q → q ≤ i → K (l.getD j 0) ≤ K (l.getD q 0)
theorem So1.start {K : Nat → Int} {l : List Nat} {a i : Nat} (h : So K l a i) : So1 K l a i i := ⟨fun p q h1 h2 h3 h4 h5 => h p q h1 h2 (by omega), fun q h1 h2 => by omega⟩
theorem So1.stop {K : Nat → Int} {l : List Nat} {a i j : Nat} (h : So1 K l a i j) (hj : j ≤ i) (he : j = a ∨ a < j ∧ ¬ K (l.getD j 0) < K (l.getD (j - 1) 0)) : So K l a (i + 1) := by
  intro p q h1 h2 h3
  by_cases hp : p = j
  · subst hp; exact h.2 q h2 (by omega)
  · by_cases hq : q = j
    · subst hq
      rcases he with e | ⟨e1, e2⟩
      · omega
      · have e3 : K (l.getD (q - 1) 0) ≤ K (l.getD q 0) := by omega
        by_cases hpq : p = q - 1
        · rw [hpq]; exact e3
        · have := h.1 p (q - 1) h1 (by omega) (by omega) hp (by omega)
          omega
    · exact h.1 p q h1 h2 (by omega) hp hq
theorem So1.step {K : Nat → Int} {l : List Nat} {a i j : Nat} (h : So1 K l a i j) (hj : j ≤ i) (hi : i < l.length) (ha : a < j) (hlt : K (l.getD j 0) < K (l.getD (j - 1) 0)) : So1 K (sw l j (j - 1)) a i (j - 1) := by
  have hg := fun k => sw_getD (l := l) (i := j) (j := j - 1) (by omega) (by omega) k
  constructor
  · intro p q h1 h2 h3 h4 h5
    rw [hg, hg, if_neg h4, if_neg h5]
    by_cases hp : p = j
    · rw [if_pos hp, if_neg (by omega)]
      exact h.1 (j - 1) q (by omega) (by omega) h3 (by omega) (by omega)
    · rw [if_neg hp]
      by_cases hq : q = j
      · rw [if_pos hq]
        exact h.1 p (j - 1) h1 (by omega) (by omega) hp (by omega)
      · rw [if_neg hq]
        exact h.1 p q h1 h2 h3 hp hq
  · intro q h1 h2
    rw [hg, hg, if_pos rfl, if_neg (by omega)]
    by_cases hq : q = j
    · rw [if_pos hq]; omega
    · rw [if_neg hq]
      exact h.2 q (by omega) h2
/-! ### Ranges turned -/
def swI (a b n k : Nat) : Nat := if a ≤ k ∧ k < a + n then k - a + b else if b ≤ k ∧ k < b + n then k - b + a else k
structure SwR (l l' : List Nat) (a b n : Nat) : Prop where
  p : l'.Perm l
  g : ∀ k, l'.getD k 0 = l.getD (swI a b n k) 0
theorem SwR.zero (l : List Nat) (a b : Nat) : SwR l l a b 0 := ⟨.refl _, fun k => by unfold swI; rw [if_neg (by omega), if_neg (by omega)]⟩
theorem SwR.step {l l' : List Nat} {a b n : Nat} (h : SwR l l' a b n) (h1 : a + n < b) (h2 : b + n < l.length) : SwR l (sw l' (a + n) (b + n)) a b (n + 1) := by
  have hl : l'.length = l.length := h.p.length_eq
  refine ⟨(sw_perm (by omega) (by omega) (by omega)).trans h.p, fun k => ?_⟩
  rw [sw_getD (by omega) (by omega), h.g, h.g, h.g]
  unfold swI
  by_cases e1 : k = b + n
  · subst e1
    rw [if_pos rfl]
    congr 1
    repeat' split
    all_goals omega
  · rw [if_neg e1]
    by_cases e2 : k = a + n
    · subst e2
      rw [if_pos rfl]
      congr 1
      repeat' split
      all_goals omega
    · rw [if_neg e2]
      congr 1
      repeat' split
      all_goals omega
def rtI (a m b k : Nat) : Nat := if k < a ∨ b ≤ k then k else if k < a + (b - m) then k - a + m else k - (b - m)
structure RtJ (l : List Nat) (a m b : Nat) (i j : Nat) (l' : List Nat) : Prop where
  i0 : 0 < i
  j0 : 0 < j
  i1 : a + i ≤ m
  j1 : m + j ≤ b
  p : l'.Perm l
  g : ∀ k, l.getD (rtI a m b k) 0 = l'.getD (rtI (m - i) m (m + j) k) 0
theorem RtJ.start {l : List Nat} {a m b : Nat} (h1 : a < m) (h2 : m < b) : RtJ l a m b (m - a) (b - m) l := ⟨by omega, by omega, by omega, by omega, .refl _, fun k => by
  rw [show m - (m - a) = a by omega, show m + (b - m) = b by omega]⟩
theorem RtJ.gt {l l' l'' : List Nat} {a m b i j : Nat} (h : RtJ l a m b i j l') (hij : j < i) (hs : SwR l' l'' (m - i) m j) : RtJ l a m b (i - j) j l'' := by
  obtain ⟨h1, h2, h3, h4, h5, h6⟩ := h
  refine ⟨by omega, h2, by omega, h4, hs.p.trans h5, fun k => ?_⟩
  rw [h6 k, hs.g]
  congr 1
  unfold rtI swI
  repeat' split
  all_goals omega
theorem RtJ.lt {l l' l'' : List Nat} {a m b i j : Nat} (h : RtJ l a m b i j l') (hij : i < j) (hs : SwR l' l'' (m - i) (m + j - i) i) : RtJ l a m b i (j - i) l'' := by
  obtain ⟨h1, h2, h3, h4, h5, h6⟩ := h
  refine ⟨h1, by omega, h3, by omega, hs.p.trans h5, fun k => ?_⟩
  rw [h6 k, hs.g]
  congr 1
  unfold rtI swI
  repeat' split
  all_goals omega
structure RtR (l l' : List Nat) (a m b : Nat) : Prop where
  p : l'.Perm l
  g : ∀ k, l'.getD k 0 = l.getD (rtI a m b k) 0
theorem RtJ.eq {l l' l'' : List Nat} {a m b i : Nat} (h : RtJ l a m b i i l') (hs : SwR l' l'' (m - i) m i) : RtR l l'' a m b := by
  obtain ⟨h1, h2, h3, h4, h5, h6⟩ := h
  refine ⟨hs.p.trans h5, fun k => ?_⟩
  rw [h6 k, hs.g]
  congr 1
  unfold rtI swI
  repeat' split
  all_goals omega
/-! ### Merging -/
structure Up1 (l : List Nat) (a k : Nat) (l' : List Nat) : Prop where
  p : l'.Perm l
  g : ∀ q, l'.getD q 0 = if a ≤ q ∧ q < k then l.getD (q + 1) 0 else if q = k then l.getD a 0 else l.getD q 0
theorem Up1.start (l : List Nat) (a : Nat) : Up1 l a a l := ⟨.refl _, fun q => by
  by_cases e : q = a
  · subst e; rw [if_neg (by omega), if_pos rfl]
  · rw [if_neg (by omega), if_neg e]⟩
theorem Up1.step {l l' : List Nat} {a k : Nat} (h : Up1 l a k l') (ha : a ≤ k) (hk : k + 1 < l.length) : Up1 l a (k + 1) (sw l' k (k + 1)) := by
  have hl : l'.length = l.length := h.p.length_eq
  refine ⟨(sw_perm (by omega) (by omega) (by omega)).trans h.p, fun q => ?_⟩
  rw [sw_getD (by omega) (by omega), h.g, h.g, h.g]
  repeat' split
  all_goals first | rfl | omega | (congr 1; omega)
theorem Up1.sm {l l' : List Nat} {a k b : Nat} (h : Up1 l a k l') (hk : k < b) (ha : a ≤ k) : Sm l l' a b := ⟨h.p, fun i hi => by rw [h.g, if_neg (by omega), if_neg (by omega)]⟩
theorem Up1.so {K : Nat → Int} {l l' : List Nat} {a b i : Nat} (h : Up1 l a (i - 1) l') (hs : So K l (a + 1) b) (h1 : a + 1 ≤ i) (h2 : i ≤ b) (hlo : ∀ q, a + 1 ≤ q → q < i → K (l.getD q 0) < K (l.getD a 0)) (hhi : ∀ q, i ≤ q → q < b → ¬ K (l.getD q 0) < K (l.getD a 0)) : So K l' a b := by
  intro p q g1 g2 g3
  rw [h.g, h.g]
  by_cases p1 : p < i - 1
  · rw [if_pos ⟨g1, p1⟩]
    by_cases q1 : q < i - 1
    · rw [if_pos ⟨by omega, q1⟩]; exact hs _ _ (by omega) (by omega) (by omega)
    · rw [if_neg (by omega)]
      by_cases q2 : q = i - 1
      · rw [if_pos q2]; exact Int.le_of_lt (hlo _ (by omega) (by omega))
      · rw [if_neg q2]; exact hs _ _ (by omega) (by omega) g3
  · rw [if_neg (by omega), if_neg (by omega : ¬ (a ≤ q ∧ q < i - 1)), if_neg (by omega : ¬ q = i - 1)]
    by_cases p2 : p = i - 1
    · rw [if_pos p2]; have := hhi q (by omega) g3; omega
    · rw [if_neg p2]; exact hs _ _ (by omega) g2 g3
structure Dn1 (l : List Nat) (m k : Nat) (l' : List Nat) : Prop where
  p : l'.Perm l
  g : ∀ q, l'.getD q 0 = if k < q ∧ q ≤ m then l.getD (q - 1) 0 else if q = k then l.getD m 0 else l.getD q 0
theorem Dn1.start (l : List Nat) (m : Nat) : Dn1 l m m l := ⟨.refl _, fun q => by
  by_cases e : q = m
  · subst e; rw [if_neg (by omega), if_pos rfl]
  · rw [if_neg (by omega), if_neg e]⟩
theorem Dn1.step {l l' : List Nat} {m k : Nat} (h : Dn1 l m k l') (hk : k ≤ m) (h0 : 0 < k) (hm : m < l.length) : Dn1 l m (k - 1) (sw l' k (k - 1)) := by
  have hl : l'.length = l.length := h.p.length_eq
  refine ⟨(sw_perm (by omega) (by omega) (by omega)).trans h.p, fun q => ?_⟩
  rw [sw_getD (by omega) (by omega), h.g, h.g, h.g]
  repeat' split
  all_goals first | rfl | omega | (congr 1; omega)
theorem Dn1.sm {l l' : List Nat} {a m k b : Nat} (h : Dn1 l m k l') (hk : a ≤ k) (hkm : k ≤ m) (hm : m < b) : Sm l l' a b := ⟨h.p, fun i hi => by rw [h.g, if_neg (by omega), if_neg (by omega)]⟩
theorem Dn1.so {K : Nat → Int} {l l' : List Nat} {a m i : Nat} (h : Dn1 l m i l') (hs : So K l a m) (h1 : a ≤ i) (h2 : i ≤ m) (hlo : ∀ q, a ≤ q → q < i → ¬ K (l.getD m 0) < K (l.getD q 0)) (hhi : ∀ q, i ≤ q → q < m → K (l.getD m 0) < K (l.getD q 0)) : So K l' a (m + 1) := by
  intro p q g1 g2 g3
  rw [h.g, h.g]
  by_cases q1 : i < q
  · rw [if_pos (⟨q1, by omega⟩ : i < q ∧ q ≤ m)]
    by_cases p1 : i < p
    · rw [if_pos ⟨p1, by omega⟩]; exact hs _ _ (by omega) (by omega) (by omega)
    · rw [if_neg (by omega)]
      by_cases p2 : p = i
      · rw [if_pos p2]; exact Int.le_of_lt (hhi _ (by omega) (by omega))
      · rw [if_neg p2]
        by_cases e : p = q - 1
        · omega
        · exact hs _ _ g1 (by omega) (by omega)
  · rw [if_neg (by omega : ¬ (i < p ∧ p ≤ m)), if_neg (by omega : ¬ p = i), if_neg (by omega)]
    by_cases q2 : q = i
    · rw [if_pos q2]; have := hlo p g1 (by omega); omega
    · rw [if_neg q2]; exact hs _ _ g1 g2 (by omega)
structure Cut (K : Nat → Int) (l : List Nat) (a m b n s r : Nat) : Prop where
  lo : ∀ c, a ≤ c → c < s → c < m → m ≤ n - 1 - c → n - 1 - c < b → ¬ K (l.getD (n - 1 - c) 0) < K (l.getD c 0)
  hi : ∀ c, r ≤ c → a ≤ c → c < m → m ≤ n - 1 - c → n - 1 - c < b → K (l.getD (n - 1 - c) 0) < K (l.getD c 0)
theorem Cut.start1 {K : Nat → Int} {l : List Nat} {a m b d : Nat} (h : 0 < d) : Cut K l a m b (d + m) (d + m - b) d := ⟨fun c h1 h2 h3 h4 h5 => by omega, fun c h1 h2 h3 h4 h5 => by omega⟩
theorem Cut.start2 {K : Nat → Int} {l : List Nat} {a m b n : Nat} : Cut K l a m b n a m := ⟨fun c h1 h2 h3 h4 h5 => by omega, fun c h1 h2 h3 h4 h5 => by omega⟩
theorem So.le {K : Nat → Int} {l : List Nat} {a b i j : Nat} (h : So K l a b) (g1 : a ≤ i) (g2 : i ≤ j) (g3 : j < b) : K (l.getD i 0) ≤ K (l.getD j 0) := by
  rcases Nat.eq_or_lt_of_le g2 with e | e
  · rw [e]; exact Int.le_refl _
  · exact h i j g1 e g3
theorem Cut.stepF {K : Nat → Int} {l : List Nat} {a m b n s r c : Nat} (h : Cut K l a m b n s r) (hs : So K l a m) (ht : So K l m b) (h1 : a ≤ c) (h2 : c < m) (h3 : m ≤ n - 1 - c) (h4 : n - 1 - c < b) (hc : ¬ K (l.getD (n - 1 - c) 0) < K (l.getD c 0)) : Cut K l a m b n (c + 1) r := ⟨fun c' g1 g2 g3 g4 g5 => by
  have q1 := hs.le (i := c') (j := c) g1 (by omega) h2
  have q2 := ht.le (i := n - 1 - c) (j := n - 1 - c') h3 (by omega) g5
  omega, h.hi⟩
theorem Cut.stepT {K : Nat → Int} {l : List Nat} {a m b n s r c : Nat} (h : Cut K l a m b n s r) (hs : So K l a m) (ht : So K l m b) (h1 : a ≤ c) (h2 : c < m) (h3 : m ≤ n - 1 - c) (h4 : n - 1 - c < b) (hc : K (l.getD (n - 1 - c) 0) < K (l.getD c 0)) : Cut K l a m b n s c := ⟨h.lo, fun c' g0 g1 g3 g4 g5 => by
  have q1 := hs.le (i := c) (j := c') h1 g0 g3
  have q2 := ht.le (i := n - 1 - c') (j := n - 1 - c) g4 (by omega) h4
  omega⟩
structure Halves (K : Nat → Int) (l l' : List Nat) (a b s d e : Nat) : Prop where
  sm : Sm l l' a b
  s1 : So K l' a s
  s2 : So K l' s d
  s3 : So K l' d e
  s4 : So K l' e b
  le : ∀ i j, a ≤ i → i < d → d ≤ j → j < b → K (l'.getD i 0) ≤ K (l'.getD j 0)
theorem rt_id {a m b : Nat} (h : a = m ∨ m = b) (h1 : a ≤ m) (h2 : m ≤ b) (k : Nat) : rtI a m b k = k := by
  unfold rtI
  repeat' split
  all_goals omega
theorem halves {K : Nat → Int} {l l' : List Nat} {a m b d s e : Nat} (hd : a ≤ d ∧ d < b) (hm : a < m ∧ m < b) (hb : b ≤ l.length) (hs : So K l a m) (ht : So K l m b) (hc : Cut K l a m b (d + m) s s) (h1 : a ≤ s) (h2 : s ≤ m) (h3 : s ≤ d) (he : e + s = d + m) (h4 : m ≤ e) (h5 : e ≤ b) (hp : l'.Perm l) (hg : ∀ k, l'.getD k 0 = l.getD (rtI s m e k) 0) : Halves K l l' a b s d e := by
  have hx : ∀ i, a ≤ i → i < s → rtI s m e i = i := fun i g1 g2 => by unfold rtI; rw [if_pos (by omega)]
  have hy : ∀ i, s ≤ i → i < d → rtI s m e i = i - s + m := fun i g1 g2 => by unfold rtI; rw [if_neg (by omega), if_pos (by omega)]
  have hz : ∀ i, d ≤ i → i < e → rtI s m e i = i - (e - m) := fun i g1 g2 => by unfold rtI; rw [if_neg (by omega), if_neg (by omega)]
  have hw : ∀ i, e ≤ i → rtI s m e i = i := fun i g1 => by unfold rtI; rw [if_pos (by omega)]
  refine ⟨⟨hp, fun i hi => ?_⟩, fun i j g1 g2 g3 => ?_, fun i j g1 g2 g3 => ?_, fun i j g1 g2 g3 => ?_, fun i j g1 g2 g3 => ?_, fun i j g1 g2 g3 g4 => ?_⟩
  · rw [hg]; unfold rtI; rw [if_pos (by omega)]
  · rw [hg, hg, hx i g1 (by omega), hx j (by omega) g3]; exact hs i j g1 g2 (by omega)
  · rw [hg, hg, hy i g1 (by omega), hy j (by omega) g3]; exact ht _ _ (by omega) (by omega) (by omega)
  · rw [hg, hg, hz i g1 (by omega), hz j (by omega) g3]; exact hs _ _ (by omega) (by omega) (by omega)
  · rw [hg, hg, hw i g1, hw j (by omega)]; exact ht i j (by omega) g2 g3
  · rw [hg, hg]
    have le1 : ∀ {i j}, a ≤ i → i ≤ j → j < m → K (l.getD i 0) ≤ K (l.getD j 0) := fun {i j} g1 g2 g3 => by
      rcases Nat.eq_or_lt_of_le g2 with e | e
      · rw [e]; exact Int.le_refl _
      · exact hs i j g1 e g3
    have le2 : ∀ {i j}, m ≤ i → i ≤ j → j < b → K (l.getD i 0) ≤ K (l.getD j 0) := fun {i j} g1 g2 g3 => by
      rcases Nat.eq_or_lt_of_le g2 with e | e
      · rw [e]; exact Int.le_refl _
      · exact ht i j g1 e g3
    by_cases c1 : i < s
    · rw [hx i g1 c1]
      by_cases c2 : j < e
      · rw [hz j g3 c2]; exact le1 g1 (by omega) (by omega)
      · rw [hw j (by omega)]
        have q1 := hc.lo (s - 1) (by omega) (by omega) (by omega) (by omega) (by omega)
        have q2 := le1 (i := i) (j := s - 1) g1 (by omega) (by omega)
        have q3 := le2 (i := d + m - 1 - (s - 1)) (j := j) (by omega) (by omega) g4
        omega
    · rw [hy i (by omega) g2]
      by_cases c2 : j < e
      · rw [hz j g3 c2]
        have q1 := hc.hi s (by omega) h1 (by omega) (by omega) (by omega)
        have q2 := le2 (i := i - s + m) (j := d + m - 1 - s) (by omega) (by omega) (by omega)
        have q3 := le1 (i := s) (j := j - (e - m)) h1 (by omega) (by omega)
        omega
      · rw [hw j (by omega)]; exact le2 (by omega) (by omega) g4
theorem Halves.done {K : Nat → Int} {l l1 l2 l3 : List Nat} {a b s d e : Nat} (h : Halves K l l1 a b s d e) (hb : b ≤ l.length) (had : a ≤ d) (hdb : d ≤ b) (h2 : Sm l1 l2 a d) (g2 : So K l2 a d) (h3 : Sm l2 l3 d b) (g3 : So K l3 d b) : Sm l l3 a b ∧ So K l3 a b := by
  refine ⟨(h.sm.trans (h2.mono (Nat.le_refl _) hdb)).trans (h3.mono had (Nat.le_refl _)), fun i j k1 k2 k3 => ?_⟩
  have hl1 : l1.length = l.length := h.sm.len
  have hl2 : l2.length = l1.length := h2.len
  by_cases c1 : i < d
  · by_cases c2 : j < d
    · rw [h3.o i (.inl c1), h3.o j (.inl c2)]; exact g2 i j k1 k2 c2
    · rw [h3.o i (.inl c1)]
      obtain ⟨i', e1, e2, e3⟩ := h2.mem (i := i) (by omega) k1 c1
      obtain ⟨j', f1, f2, f3⟩ := h3.mem (i := j) (by omega) (by omega) k3
      rw [e3, f3, h2.o j' (.inr f1)]
      exact h.le i' j' e1 e2 f1 f2
  · exact g3 i j (by omega) k2 k3
theorem So.same {K : Nat → Int} {l l' : List Nat} {a b c d : Nat} (h : So K l a b) (g : Sm l l' c d) (hd : b ≤ c ∨ d ≤ a) : So K l' a b := fun i j h1 h2 h3 => by
  rw [g.o i (by omega), g.o j (by omega)]; exact h i j h1 h2 h3
theorem So.le1 {K : Nat → Int} {l : List Nat} {a b : Nat} (h : b ≤ a + 1) : So K l a b := fun i j h1 h2 h3 => by omega
theorem So.sub {K : Nat → Int} {l : List Nat} {a b c d : Nat} (h : So K l a b) (h1 : a ≤ c) (h2 : d ≤ b) : So K l c d := fun i j g1 g2 g3 => h i j (by omega) g2 (by omega)
/-! ### Blocks -/
def Bl (K : Nat → Int) (l : List Nat) (n k a : Nat) : Prop := (∀ c, k ∣ c → a ≤ c → So K l c (min (c + k) n)) ∧ ∀ c, 2 * k ∣ c → c < a → So K l c (min (c + 2 * k) n)
theorem dvd_same {k a c : Nat} (h1 : k ∣ a) (h2 : k ∣ c) (h3 : a ≤ c) (h4 : c < a + k) : c = a := by
  have := Nat.eq_zero_of_dvd_of_lt (Nat.dvd_sub h2 h1) (by omega : c - a < k)
  omega
theorem dvd_below {k a c : Nat} (h1 : k ∣ a) (h2 : k ∣ c) (h3 : c < a) : c + k ≤ a := by
  rcases Nat.lt_or_ge a (c + k) with q | q
  · have := dvd_same h2 h1 (by omega) q
    omega
  · exact q
theorem Bl.start {K : Nat → Int} {l : List Nat} {n k : Nat} (h : ∀ c, k ∣ c → So K l c (min (c + k) n)) : Bl K l n k 0 := ⟨fun c h1 _ => h c h1, fun c _ h2 => by omega⟩
theorem Bl.merge {K : Nat → Int} {l l' : List Nat} {n k a : Nat} (h : Bl K l n k a) (ha : 2 * k ∣ a) (hb : a + 2 * k ≤ n) (g : Sm l l' a (a + 2 * k)) (gs : So K l' a (a + 2 * k)) : Bl K l' n k (a + 2 * k) := by
  refine ⟨fun c h1 h2 => (h.1 c h1 (by omega)).same g (.inr h2), fun c h1 h2 => ?_⟩
  rcases Nat.lt_or_ge c a with q | q
  · have := dvd_below ha h1 q
    exact (h.2 c h1 q).same g (.inl (by omega))
  · have := dvd_same ha h1 q h2
    subst this
    rw [Nat.min_eq_left hb]; exact gs
theorem Bl.last1 {K : Nat → Int} {l l' : List Nat} {n k a : Nat} (h : Bl K l n k a) (ha : 2 * k ∣ a) (hb : n < a + 2 * k) (hm : a + k < n) (g : Sm l l' a n) (gs : So K l' a n) : ∀ c, 2 * k ∣ c → So K l' c (min (c + 2 * k) n) := fun c h1 => by
  rcases Nat.lt_or_ge c a with q | q
  · have := dvd_below ha h1 q
    exact (h.2 c h1 q).same g (.inl (by omega))
  · rcases Nat.lt_or_ge c (a + 2 * k) with r | r
    · have := dvd_same ha h1 q r
      subst this
      rw [Nat.min_eq_right (by omega)]; exact gs
    · exact So.le1 (by omega)
theorem Bl.last2 {K : Nat → Int} {l : List Nat} {n k a : Nat} (h : Bl K l n k a) (ha : 2 * k ∣ a) (hm : n ≤ a + k) : ∀ c, 2 * k ∣ c → So K l c (min (c + 2 * k) n) := fun c h1 => by
  rcases Nat.lt_or_ge c a with q | q
  · exact h.2 c h1 q
  · have hk : k ∣ c := Nat.dvd_trans ⟨2, Nat.mul_comm ..⟩ h1
    exact (h.1 c hk q).sub (Nat.le_refl _) (by omega)
def B1 (K : Nat → Int) (l : List Nat) (a : Nat) : Prop := ∀ c, 20 ∣ c → c < a → So K l c (c + 20)
theorem B1.step {K : Nat → Int} {l l' : List Nat} {a : Nat} (h : B1 K l a) (ha : 20 ∣ a) (g : Sm l l' a (a + 20)) (gs : So K l' a (a + 20)) : B1 K l' (a + 20) := fun c h1 h2 => by
  rcases Nat.lt_or_ge c a with q | q
  · have := dvd_below ha h1 q
    exact (h c h1 q).same g (.inl (by omega))
  · have := dvd_same ha h1 q h2
    subst this; exact gs
theorem B1.last {K : Nat → Int} {l l' : List Nat} {a n : Nat} (h : B1 K l a) (ha : 20 ∣ a) (hb : n < a + 20) (han : a ≤ n) (g : Sm l l' a n) (gs : So K l' a n) : ∀ c, 20 ∣ c → So K l' c (min (c + 20) n) := fun c h1 => by
  rcases Nat.lt_or_ge c a with q | q
  · have := dvd_below ha h1 q
    exact ((h c h1 q).same g (.inl (by omega))).sub (Nat.le_refl _) (by omega)
  · rcases Nat.lt_or_ge c (a + 20) with r | r
    · have := dvd_same ha h1 q r
      subst this
      rw [Nat.min_eq_right (by omega)]; exact gs
    · exact So.le1 (by omega)
end Ss
end

/- Places in memory that are sorted: compare, swapRange, rotate, insertion. No condition. -/
section
open Go Sx Wd Ss Fl

namespace Sx
def i64n (x : Nat) : Value := .int .i64 (x : Int)
def IB (w : World) (b : Nat) (E : TypeId) (l : List Nat) : Prop := w.heap[b]? = some (.cells (l.map i64n).toArray E (0, 0))
section
variable {w : World}
theorem IB.i64 {b : Nat} {E : TypeId} {l : List Nat} {j : Nat} (h : IB w b E l) (hj : j < l.length) : w.cell? ⟨b, j, none⟩ = some (.int .i64 ((l.getD j 0 : Nat) : Int)) := by
  rw [cell_at h]; exact map_at i64n 0 hj
theorem IB.keep {b : Nat} {E : TypeId} {l : List Nat} {T : List Nat} {w' : World} (h : IB w b E l) (hc : Chg T w w') (hT : b ∉ T) : IB w' b E l := hc.heap h hT
theorem IB.keep0 {b : Nat} {E : TypeId} {l : List Nat} {w' : World} (h : IB w b E l) (hc : Chg [] w w') : IB w' b E l := hc.heap h (by simp)
theorem IB.bk {b : Nat} {E : TypeId} {l : List Nat} (h : IB w b E l) : BK w b E (l.map i64n) := h
end
section
variable {P : Program} {n : Nat} {D : List Deferred} {s : Sl} {w : World} {ops : Array Oper} {K : KK} {rest : List Oper} {ty : TypeId} {pos : String} {af : Array Edge} {d : Nat} {x y : Operand} {S : World → Prop} {fuel : Nat} {listed : Array Bool} {zz_ : Nat}
theorem WL.storeI {t : TypeId} {ds : TypeDesc} {by_ : Nat} {z : Value} {b i v : Nat} {l : List Nat} {E : TypeId} [hT : HasT P t ds 1 by_ z] (hx : opnd s x = some (.pointer (some ⟨b, i, none⟩))) (hy : opnd s y = some (.int .i64 (v : Int)))
    (hb : IB w b E l) (hi : i < l.length) (k : ∀ w', IB w' b E (l.set i v) → Chg [b] w w' → WL P ops K rest n D s w') : WL P ops K (⟨none, .store t x y, ty, pos, af, none⟩ :: rest) n D s w :=
  WL.store (l := l.map i64n) (v := i64n v) hx hy rfl hb (by simpa using hi) fun w' hu => k w' (by have := hu.at_; rw [← List.map_set] at this; exact this) hu.chg
theorem WK.storeI (i : Nat) {t : TypeId} {ds : TypeDesc} {by_ : Nat} {z0 : Value} {b o v : Nat} {l : List Nat} {E : TypeId} [hT : HasT P t ds 1 by_ z0] (hi : ops[i]? = some ⟨none, .store t x y, ty, pos, af, none⟩) (hr : Region.ready .any ops listed = [i]) (hlast : (listed.setIfInBounds i true).getD zz_ false = true)
    (hx : opnd s x = some (.pointer (some ⟨b, o, none⟩))) (hy : opnd s y = some (.int .i64 (v : Int)))
    (hb : IB w b E l) (ho : o < l.length) (k : ∀ w', IB w' b E (l.set o v) → Chg [b] w w' → WK P ops K S zz_ fuel (listed.setIfInBounds i true) n D s w') : WK P ops K S zz_ (fuel + 1) listed n D s w :=
  WK.storeLast (l := l.map i64n) (u := i64n v) i hi hr hlast hx hy rfl hb (by simpa using ho) fun w' hu => k w' (by have := hu.at_; rw [← List.map_set] at this; exact this) hu.chg
theorem exec_callB {f : FuncId} {y : Operand} {xs : List Operand} {at_ : Array TypeId} {vs fst cap : List Value} {ρ : Operand → Value} {o : Oper} (hF : HasF P f) (ho : o.op = .call ⟨.value y, xs.toArray, at_⟩) (hy : opnd s y = some (.func (.func f) fst.toArray cap.toArray)) (hx : opnds s xs = some vs)
    (h : ∀ x u, opnd s x = some u → ρ x = u) : (execOp ρ o).run P w = .ok (.enter f (fst ++ vs ++ cap).toArray) w := by
  have e1 : ρ y = .func (.func f) fst.toArray cap.toArray := h _ _ hy
  have e2 := opnds_map h xs vs hx
  unfold execOp
  simp [ho, resolve, e1, Deferred.ofValue, invoke, e2, HasF.run hF]
theorem WL.callB {f : FuncId} {y : Operand} {xs : List Operand} {at_ : Array TypeId} {vs fst cap : List Value} {R : Value → World → Prop} (hF : HasF P f) (hy : opnd s y = some (.func (.func f) fst.toArray cap.toArray)) (hx : opnds s xs = some vs) (hd : Nat.blt d n = true) (h : Ret P f (fst ++ vs ++ cap) w R)
  (k : ∀ v w', R v w' → WL P ops K rest n D ((d, v) :: s) w') : WL P ops K (⟨some d, .call ⟨.value y, xs.toArray, at_⟩, ty, pos, af, none⟩ :: rest) n D s w := fun a ha =>
 wpList_plain rfl fun K' hK => by
  unfold Oper.wp;rw [exec_callB hF rfl hy hx fun x u hx => ha.eval hx];exact Calls.mono h fun e w' ⟨v, he, hR⟩ => by subst he; exact hK _ _ (k v w' hR _ (ha.put hd v))
theorem WH.oneCallB (i : Nat) {f : FuncId} {y : Operand} {xs : List Operand} {at_ : Array TypeId} {vs fst cap : List Value} {R : Value → World → Prop} (hi : ops[i]? = some ⟨some d, .call ⟨.value y, xs.toArray, at_⟩, ty, pos, af, none⟩) (hr : Region.ready .any ops listed = [i]) (hF : HasF P f) (hy : opnd s y = some (.func (.func f) fst.toArray cap.toArray)) (hx : opnds s xs = some vs) (hd : Nat.blt d n = true) (h : Ret P f (fst ++ vs ++ cap) w R)
  (k : ∀ v w', R v w' → S w' ∧ WH P ops K S fuel (listed.setIfInBounds i true) n D ((d, v) :: s) w') : WH P ops K S (fuel + 1) listed n D s w := fun a ha =>
 wpAnyH_all hr (by simp) fun j hj => by
  obtain rfl : j = i := by simpa using hj
  unfold wpOp;simp only [hi];rw [if_pos (by simp [Region.wanted])];refine .inl ?_;unfold Oper.wp;rw [exec_callB hF rfl hy hx fun x u hx => ha.eval hx];exact Calls.mono h fun e w' ⟨v, he, hR⟩ => by subst he; exact ⟨(k v w' hR).1, (k v w' hR).2 _ (ha.put hd v)⟩
theorem WH.oneCallBG (i : Nat) {j : Nat} {b : Bool} {g : Oper} {xb : Bool} {t : Nat} {f : FuncId} {y : Operand} {xs : List Operand} {at_ : Array TypeId} {vs fst cap : List Value} {R : Value → World → Prop} (hi : ops[i]? = some ⟨some d, .call ⟨.value y, xs.toArray, at_⟩, ty, pos, af, some (j, b)⟩) (hr : Region.ready .any ops listed = [i])
    (hg : ops[j]? = some g) (ht : g.dst = some t) (hx0 : look s t = some (.bool xb)) (hb : (xb == b) = true) (hF : HasF P f) (hy : opnd s y = some (.func (.func f) fst.toArray cap.toArray)) (hx : opnds s xs = some vs) (hd : Nat.blt d n = true) (h : Ret P f (fst ++ vs ++ cap) w R)
    (k : ∀ v w', R v w' → S w' ∧ WH P ops K S fuel (listed.setIfInBounds i true) n D ((d, v) :: s) w') : WH P ops K S (fuel + 1) listed n D s w := fun a ha =>
  wpAnyH_all hr (by simp) fun j' hj => by
    obtain rfl : j' = i := by simpa using hj
    unfold wpOp
    simp only [hi]
    rw [if_pos (by rw [yieldedAt ha hg ht hx0]; exact hb)]
    refine .inl ?_
    unfold Oper.wp
    rw [exec_callB hF rfl hy hx fun x u hx => ha.eval hx]
    exact Calls.mono h fun e w' ⟨v, he, hR⟩ => by subst he; exact ⟨(k v w' hR).1, (k v w' hR).2 _ (ha.put hd v)⟩
theorem Ev.makeFuncB {f : FuncId} {v : Value} {x : Operand} (hx : opnd s x = some v) : Ev P s (.makeFunc (.func f) #[x] #[]) ty w (.func (.func f) #[v] #[]) w := fun ρ d' pos af g hρ => by
  have e1 := hρ x _ hx
  simp [execOp, Instr.makeFunc, e1]
end
end Sx
theorem bk_neT {w : World} {b c : Nat} {T T' : TypeId} {cs ds : List Value} (h : BK w b T cs) (h' : BK w c T' ds) (hne : T ≠ T') : b ≠ c := fun e => by
  subst e
  have := h.symm.trans h'
  simp at this
  exact hne this.2
structure RowS (w : World) (rb : Nat) (vL : Value) (L : List Nat) (ba n : Nat) : Prop where
  b : BK w rb 180 [vL, .slice (some ⟨ba, 0, none⟩) n n]
  f : NF w vL L
theorem RowS.keep0 {w w' : World} {rb ba n : Nat} {vL : Value} {L : List Nat} (h : RowS w rb vL L ba n) (hc : Chg [] w w') : RowS w' rb vL L ba n := ⟨h.b.keep0 hc, h.f.keep0 hc⟩
theorem notF_i64 (l : List Nat) : ∀ c ∈ l.map i64n, isF64 c = false := fun c hc => by obtain ⟨x, _, rfl⟩ := List.mem_map.1 hc; rfl
theorem RowS.keepOB {w w' : World} {rb ba n b : Nat} {vL : Value} {L l : List Nat} (h : RowS w rb vL L ba n) (hi : IB w b 3 l) (hc : Chg [b] w w') (_ : True) : RowS w' rb vL L ba n :=
  ⟨h.b.keep hc fun hm => by
    rw [List.mem_singleton] at hm
    exact bk_neT h.b hi.bk (by decide) hm, h.f.keepBK hi.bk hc (notF_i64 l)⟩
def kL (L : List Nat) (i : Nat) : Int := key (L.getD i 0)
def CmpV (rb : Nat) : Value := .func (.func 204) #[.pointer (some ⟨rb, 0, none⟩)] #[]
structure SsM (rb ba n : Nat) (vL : Value) (L : List Nat) (w : World) (l : List Nat) : Prop where
  i : IB w ba 3 l
  r : RowS w rb vL L ba n
  len : l.length = n
  lt : ∀ x ∈ l, x < L.length
theorem SsM.at_ {rb ba n : Nat} {vL : Value} {L : List Nat} {w : World} {l : List Nat} (h : SsM rb ba n vL L w l) {j : Nat} (hj : j < n) : l.getD j 0 < L.length := by
  rw [List.getD_eq_getElem?_getD, List.getElem?_eq_getElem (by rw [h.len]; exact hj)]
  exact h.lt _ (List.getElem_mem _)
theorem SsM.keep0 {rb ba n : Nat} {vL : Value} {L : List Nat} {w w' : World} {l : List Nat} (h : SsM rb ba n vL L w l) (hc : Chg [] w w') : SsM rb ba n vL L w' l := ⟨h.i.keep0 hc, h.r.keep0 hc, h.len, h.lt⟩
theorem SsM.of {rb ba n : Nat} {vL : Value} {L : List Nat} {w w' : World} {l l' : List Nat} (h : SsM rb ba n vL L w l) (hi : IB w' ba 3 l') (hr : RowS w' rb vL L ba n) (hp : l'.Perm l) : SsM rb ba n vL L w' l' := ⟨hi, hr, hp.length_eq.trans h.len, fun x hx => h.lt x (hp.mem_iff.1 hx)⟩

theorem compare_spec (rb ba n i j : Nat) (vL : Value) (L : List Nat) (w : World) (hR : RowS w rb vL L ba n) (hi : i < L.length) (hj : j < L.length) : Ret Tryz.prog 204 [.pointer (some ⟨rb, 0, none⟩), .int .i64 (i : Int), .int .i64 (j : Int)] w fun u w' => u = .int .i64 (cmpI (kL L i) (kL L j)) ∧ Chg [] w w' := by
 obtain ⟨hb, hf⟩ := hR;obtain ⟨⟨al, cl, rfl, hcap, hrl⟩, hWl, hll⟩ := hf;have hch := crf w;refine zE3 Tryz.func204 rfl ?_;refine Sr fun _ kh1 => za rfl (zz (kh1 (zc fun _ kh3 => ?_)));refine CW.regionHC 16 rfl hmix fun kR4 kr4 hS hdr => ?_;have hch := hch.ta hdr;have hb := hb.keep0 hdr;have hch_r := hch;have hb_r := hb;refine wh 0 rfl hS (eM rfl) (wh 1 rfl hS (eP rfl) (wh 2 rfl hS (eF rfl) (wh 3 rfl hS (fun _ hw' => Ev.load rfl rfl ((hb_r.keep0 hw').at_ rfl)) (wh 4 rfl hS (eM rfl) (wh 5 rfl hS (fun _ hw' => Ev.ixR (i) rfl rfl (hrl.keep0 (hch_r.trans hw')) (by omega) (by omega) (by simp; omega)) (wh 6 rfl hS (fun _ hw' => Ev.load rfl rfl ((hrl.keep0 (hch_r.trans hw')).f64 (by first | omega | (simp; omega)))) (wh 7 rfl hS (eM rfl) (wh 8 rfl hS (eP rfl) (wh 9 rfl hS (eF rfl) (wh 10 rfl hS (fun _ hw' => Ev.load rfl rfl ((hb_r.keep0 hw').at_ rfl)) (wh 11 rfl hS (eM rfl) (wh 12 rfl hS (fun _ hw' => Ev.ixR (j) rfl rfl (hrl.keep0 (hch_r.trans hw')) (by omega) (by omega) (by simp; omega)) (wh 13 rfl hS (fun _ hw' => Ev.load rfl rfl ((hrl.keep0 (hch_r.trans hw')).f64 (by first | omega | (simp; omega)))) ?_)))))))))))));refine WH.oneCall 14 rfl (by kernel_rfl) hasF82 rfl rfl (bits_Order_spec (L.getD i 0) (L.getD j 0) (D_getD hWl i) (D_getD hWl j) _) fun v w1 h' => ?_;obtain ⟨rfl, rfl⟩ := h';refine ⟨hS, ?_⟩;refine wh 15 rfl hS (eA rfl) ?_;refine WH.done (by kernel_rfl) (kr4 _ _ _ ?_);refine kh3 ?_;refine zr (zr1 rfl rfl ?_);exact ⟨rfl, hch⟩

structure KSw (rb ba n a b m : Nat) (vL : Value) (L l : List Nat) (w0 : World) (g : Nat × List Nat) (w : World) : Prop where
  hi : g.1 ≤ m
  s : SwR l g.2 a b g.1
  m : SsM rb ba n vL L w g.2
  ch : Chg [ba] w0 w

theorem swapRange_spec (rb ba n : Nat) (vL : Value) (L l : List Nat) (a b m : Nat) (w : World) (hM : SsM rb ba n vL L w l) (hn : n ≤ 70368744177664) (h1 : a + m ≤ b) (h2 : b + m ≤ n) : Ret Tryz.prog 357 [.slice (some ⟨ba, 0, none⟩) n n, .int .i64 (a : Int), .int .i64 (b : Int), .int .i64 (m : Int), CmpV rb] w fun _ w' => (∃ l', SwR l l' a b m ∧ SsM rb ba n vL L w' l') ∧ Chg [ba] w w' := by
 have hch : Chg [ba] w w := Chg.refl _ _;have htt : True := trivial;refine zE5 Tryz.func357 rfl ?_;refine Sr fun _ kh1 => za rfl (zz (kh1 (CW.block ?_)));refine CW.loop (S := fun g : Nat × List Nat => [(0, .slice (some ⟨ba, 0, none⟩) n n), (1, .int .i64 (a : Int)), (2, .int .i64 (b : Int)), (3, .int .i64 (m : Int)), (10, .int .i64 (g.1 : Int))]) (Inv := KSw rb ba n a b m vL L l w) (mu := fun g => m - g.1) ((0, l)) ?_ ?_ ?_
 ·exact ⟨Nat.zero_le _, SwR.zero l a b, hM, hch⟩
 ·exact SLp
 rintro ⟨i, cur⟩ wr ⟨hi, hs, hM2, hch⟩;dsimp only at hi hs hM2
 try dsimp only
 obtain ⟨hi_, hr, hlen, hlt0⟩ := id hM2;have hll := hM.len;refine zc fun _ kh3 => Sr fun _ kh4 => zm rfl (zm rfl (zL rfl rfl (zz (kh4 ?_))));refine zy rfl ?_ ?_<;>intro hc1<;>try simp only [qs] at hc1
 ·refine zkk (kh3 (zc fun _ kh6 => CW.block ?_));refine CW.regionKC 21 24 rfl hmix fun kR7 kr7 hS hdr => ?_
  have hch := hch.ta hdr;have hi_ := hi_.keep0 hdr;have hr := hr.keep0 hdr;have hi__r := hi_;refine wk 0 rfl hS (eM rfl) (wk 1 rfl hS (eM rfl) (wk 2 rfl hS (eM rfl) (wk 3 rfl hS (fun _ _ => Ev.addIn rfl rfl (by omega)) (wt 4 rfl (fun _ => hS) (fun _ => Ev.move rfl) (wt 5 rfl (fun _ => hS) (fun _ => Ev.move rfl) (wt 6 rfl (fun _ => hS) (fun _ => Ev.move rfl) (wt 7 rfl (fun _ => hS) (fun _ => Ev.addIn rfl rfl (by omega)) (wk 8 rfl hS (eM rfl) (wk 9 rfl hS (eM rfl) (wk 10 rfl hS (eM rfl) (wk 11 rfl hS (fun _ _ => Ev.addIn rfl rfl (by omega)) (wk 12 rfl hS (fun _ _ => Ev.ixB ((b + i)) rfl rfl (by omega) (by omega)) (wk 13 rfl hS (fun _ hw' => Ev.load rfl rfl ((hi__r.keep0 hw').i64 (by first | omega | (simp; omega)))) (wt 14 rfl (fun _ => hS) (fun _ => Ev.move rfl) (wt 15 rfl (fun _ => hS) (fun _ => Ev.move rfl) (wt 16 rfl (fun _ => hS) (fun _ => Ev.move rfl) (wt 17 rfl (fun _ => hS) (fun _ => Ev.addIn rfl rfl (by omega)) (wt 18 rfl (fun _ => hS) (fun _ => Ev.ixB ((a + i)) rfl rfl (by omega) (by omega)) (wk 19 rfl hS (fun _ hw' => Ev.load rfl rfl ((hi__r.keep0 hw').i64 (by first | omega | (simp; omega)))) (wk 20 rfl hS (fun _ _ => Ev.ixB ((a + i)) rfl rfl (by omega) (by omega)) ?_))))))))))))))))))));refine WK.storeI 21 rfl (by kernel_rfl) (by kernel_rfl) rfl rfl hi_ (by first | omega | (simp; done) | (simp; omega)) fun ws1 hi__ hcs1 => ?_;have hch := hch.s1 hcs1;have hr := hr.keepOB hi_ hcs1 (by assumption);have hi_ := hi__;refine WK.after 22 rfl (by kernel_rfl) (by kernel_rfl) (Ev.ixB ((b + i)) rfl rfl (by omega) (by omega)) rfl ?_;refine WK.storeI 23 rfl (by kernel_rfl) (by kernel_rfl) rfl rfl hi_ (by first | omega | (simp; done) | (simp; omega)) fun ws2 hi__ hcs2 => ?_;have hch := hch.s1 hcs2;have hr := hr.keepOB hi_ hcs2 (by assumption);have hi_ := hi__;refine WK.done (by kernel_rfl) (kr7 _ _ _ ?_);refine kh6 (zS fun _ kr8 => zm rfl ?_);(first | refine zi rfl rfl ?_ | refine zo rfl rfl ?_);refine za rfl (zz (kr8 ?_));refine ⟨rfl, (i + 1, sw cur (a + i) (b + i)), ?_, ?_, ?_⟩
  ·exact SLp
  ·have hs2 := hs.step (by omega) (by omega);exact ⟨by dsimp only; omega, hs2, hM2.of hi_ hr (sw_perm (by omega) (by omega) (by omega)), hch⟩
  show m - (i + 1) < m - i; omega
 have him : i = m := by omega
 subst him;refine CW.exit ?_;refine bodyA.norm0 rfl ?_;exact ⟨⟨cur, hs, hM2⟩, hch⟩

structure KRo (rb ba n a m b : Nat) (vL : Value) (L l : List Nat) (w0 : World) (g : Nat × Nat × List Nat) (w : World) : Prop where
  j : RtJ l a m b g.1 g.2.1 g.2.2
  m : SsM rb ba n vL L w g.2.2
  ch : Chg [ba] w0 w

theorem rotate_spec (rb ba n : Nat) (vL : Value) (L l : List Nat) (a m b : Nat) (w : World) (hM : SsM rb ba n vL L w l) (hn : n ≤ 70368744177664) (h1 : a < m) (h2 : m < b) (h3 : b ≤ n) : Ret Tryz.prog 350 [.slice (some ⟨ba, 0, none⟩) n n, .int .i64 (a : Int), .int .i64 (m : Int), .int .i64 (b : Int), CmpV rb] w fun _ w' => (∃ l', RtR l l' a m b ∧ SsM rb ba n vL L w' l') ∧ Chg [ba] w w' := by
 have hch : Chg [ba] w w := Chg.refl _ _;refine zE5 Tryz.func350 rfl ?_;refine Sr fun _ kh1 => zm rfl (zm rfl ?_);refine WL.ev (Ev.subIn rfl rfl (by omega)) rfl ?_;rw [show (m : Int) - (a : Int) = ((m - a : Nat) : Int) by omega];refine za rfl (zz (kh1 (Sr fun _ kh3 => zm rfl (zm rfl ?_))));refine WL.ev (Ev.subIn rfl rfl (by omega)) rfl ?_;rw [show (b : Int) - (m : Int) = ((b - m : Nat) : Int) by omega];refine za rfl (zz (kh3 (zc fun _ kh5 => CW.block ?_)));refine CW.loop (S := fun g : Nat × Nat × List Nat => [(0, .slice (some ⟨ba, 0, none⟩) n n), (2, .int .i64 (m : Int)), (4, CmpV rb), (10, .int .i64 (g.1 : Int)), (11, .int .i64 (g.2.1 : Int))]) (Inv := KRo rb ba n a m b vL L l w) (mu := fun g => g.1 + g.2.1) ((m - a, b - m, l)) ?_ ?_ ?_
 ·exact ⟨RtJ.start h1 h2, hM, hch⟩
 ·exact SLp
 rintro ⟨i, j, cur⟩ wr ⟨hj, hM2, hch⟩;dsimp only at hj hM2
 try dsimp only
 obtain ⟨j1, j2, j3, j4, j5, j6⟩ := id hj;have hlc := hM2.len;refine zc fun _ kh6 => Sr fun _ kh7 => zm rfl (zm rfl (zN rfl rfl (zz (kh7 ?_))));refine zy rfl ?_ ?_<;>intro hc1<;>try simp only [qs] at hc1
 ·have hne : i ≠ j := by have := hc1; omega
  refine zkk (kh6 (CW.block (Sr fun _ kh9 => zm rfl (zm rfl (zG rfl rfl (zz (kh9 ?_)))))));refine zy rfl ?_ ?_<;>intro hc2<;>try simp only [qs] at hc2
  ·have hgt : j < i := by have := hc2; omega
   refine Sr fun _ kh11 => zm rfl (zm rfl (zm rfl ?_));refine WL.ev (Ev.subIn rfl rfl (by omega)) rfl ?_;rw [show (m : Int) - (i : Int) = ((m - i : Nat) : Int) by omega];refine zm rfl (zm rfl (zm rfl ?_));refine WL.call hasF357 rfl rfl (swapRange_spec rb ba n vL L cur (m - i) (m) (j) _ hM2 hn (by omega) (by omega)) fun v w1 h' => ?_;obtain ⟨⟨l2, hsw, hM3⟩, hC⟩ := h';have hch := hch.step hC (fun y hy => .inl hy);refine zz (kh11 (zS fun _ kr13 => zm rfl (zm rfl ?_)));refine WL.ev (Ev.subIn rfl rfl (by omega)) rfl ?_;rw [show (i : Int) - (j : Int) = ((i - j : Nat) : Int) by omega];refine za rfl (zz (kr13 ?_));refine ⟨rfl, (i - j, j, l2), ?_, ?_, ?_⟩
   ·exact SLp
   ·exact ⟨hj.gt hgt hsw, hM3, hch⟩
   show i - j + j < i + j; omega
  have hlt : i < j := by have := hc2; omega
  refine Sr fun _ kh14 => zm rfl (zm rfl (zm rfl ?_));refine WL.ev (Ev.subIn rfl rfl (by omega)) rfl ?_;rw [show (m : Int) - (i : Int) = ((m - i : Nat) : Int) by omega];refine zm rfl (zm rfl ?_);(first | refine zi rfl rfl ?_ | refine zo rfl rfl ?_);refine zm rfl ?_;refine WL.ev (Ev.subIn rfl rfl (by omega)) rfl ?_;rw [show (m : Int) + (j : Int) - (i : Int) = ((m + j - i : Nat) : Int) by omega];refine zm rfl (zm rfl ?_);refine WL.call hasF357 rfl rfl (swapRange_spec rb ba n vL L cur (m - i) (m + j - i) (i) _ hM2 hn (by omega) (by omega)) fun v w2 h' => ?_;obtain ⟨⟨l2, hsw, hM3⟩, hC⟩ := h';have hch := hch.step hC (fun y hy => .inl hy);refine zz (kh14 (zS fun _ kr16 => zm rfl (zm rfl ?_)));refine WL.ev (Ev.subIn rfl rfl (by omega)) rfl ?_;rw [show (j : Int) - (i : Int) = ((j - i : Nat) : Int) by omega];refine za rfl (zz (kr16 ?_));refine ⟨rfl, (i, j - i, l2), ?_, ?_, ?_⟩
  ·exact SLp
  ·exact ⟨hj.lt hlt hsw, hM3, hch⟩
  show i + (j - i) < i + j; omega
 have heq : i = j := by have := hc1; omega
 subst heq;refine CW.exit ?_;refine kh5 (zS fun _ kr17 => zm rfl (zm rfl (zm rfl ?_)));refine WL.ev (Ev.subIn rfl rfl (by omega)) rfl ?_;rw [show (m : Int) - (i : Int) = ((m - i : Nat) : Int) by omega];refine zm rfl (zm rfl (zm rfl ?_));refine WL.call hasF357 rfl rfl (swapRange_spec rb ba n vL L cur (m - i) (m) (i) _ hM2 hn (by omega) (by omega)) fun v w3 h' => ?_;obtain ⟨⟨l2, hsw, hM3⟩, hC⟩ := h';have hch := hch.step hC (fun y hy => .inl hy);refine zz (kr17 ?_);refine bodyA.norm0 rfl ?_;exact ⟨⟨l2, hj.eq hsw, hM3⟩, hch⟩

structure KIo (rb ba n a b : Nat) (vL : Value) (L l : List Nat) (w0 : World) (g : Nat × List Nat) (w : World) : Prop where
  h1 : a + 1 ≤ g.1
  h2 : g.1 ≤ b + 1
  s : Sm l g.2 a b
  so : So (kL L) g.2 a g.1
  m : SsM rb ba n vL L w g.2
  ch : Chg [ba] w0 w
structure KIi (rb ba n a b i : Nat) (vL : Value) (L l : List Nat) (w0 : World) (g : Nat × List Nat) (w : World) : Prop where
  h1 : a ≤ g.1
  h2 : g.1 ≤ i
  s : Sm l g.2 a b
  so : So1 (kL L) g.2 a i g.1
  m : SsM rb ba n vL L w g.2
  ch : Chg [ba] w0 w
theorem cmpI_lt {a b : Int} : cmpI a b < 0 ↔ a < b := cmpI_neg

theorem insertion_spec (rb ba n : Nat) (vL : Value) (L l : List Nat) (a b : Nat) (w : World) (hM : SsM rb ba n vL L w l) (hn : n ≤ 70368744177664) (h1 : a ≤ b) (h2 : b ≤ n) : Ret Tryz.prog 322 [.slice (some ⟨ba, 0, none⟩) n n, .int .i64 (a : Int), .int .i64 (b : Int), CmpV rb] w fun _ w' => (∃ l', Sm l l' a b ∧ So (kL L) l' a b ∧ SsM rb ba n vL L w' l') ∧ Chg [ba] w w' := by
 have hch : Chg [ba] w w := Chg.refl _ _;have htt : True := trivial;refine zE4 Tryz.func322 rfl ?_;refine Sr fun _ kh1 => zm rfl ?_;(first | refine zi rfl rfl ?_ | refine zo rfl rfl ?_);refine za rfl (zz (kh1 (CW.block ?_)));refine CW.loop (S := fun g : Nat × List Nat => [(0, .slice (some ⟨ba, 0, none⟩) n n), (1, .int .i64 (a : Int)), (2, .int .i64 (b : Int)), (3, CmpV rb), (8, .int .i64 (g.1 : Int))]) (Inv := KIo rb ba n a b vL L l w) (mu := fun g => b + 1 - g.1) ((a + 1, l)) ?_ ?_ ?_
 ·exact ⟨Nat.le_refl _, by dsimp only; omega, Sm.refl l a b, So.le1 (Nat.le_refl _), hM, hch⟩
 ·exact SLp
 rintro ⟨i, cur0⟩ wr ⟨hi1, hi2, hs0, hso, hM0, hch⟩;dsimp only at hi1 hi2 hs0 hso hM0
 try dsimp only
 refine zc fun _ kh3 => Sr fun _ kh4 => zm rfl (zm rfl (zL rfl rfl (zz (kh4 ?_))));refine zy rfl ?_ ?_<;>intro hc1<;>try simp only [qs] at hc1
 ·refine zkk (kh3 (zc fun _ kh6 => CW.block (Sr fun _ kh7 => zm rfl (za rfl (zz (kh7 (CW.block ?_)))))));refine CW.loop (S := fun g : Nat × List Nat => [(0, .slice (some ⟨ba, 0, none⟩) n n), (1, .int .i64 (a : Int)), (2, .int .i64 (b : Int)), (3, CmpV rb), (8, .int .i64 (i : Int)), (9, .int .i64 (g.1 : Int))]) (Inv := KIi rb ba n a b i vL L l w) (mu := fun g => g.1) ((i, cur0)) ?_ ?_ ?_
  ·exact ⟨by dsimp only; omega, Nat.le_refl _, hs0, So1.start hso, hM0, hch⟩
  ·exact SLp
  rintro ⟨j, cur⟩ wr ⟨hj1, hj2, hs, hso1, hM2, hch⟩;dsimp only at hj1 hj2 hs hso1 hM2
  try dsimp only
  obtain ⟨hi_, hr, hlen, hlt0⟩ := id hM2;have hll := hM.len;have hlt_ : ∀ {x}, x < n → cur.getD x 0 < L.length := fun {x} hx => hM2.at_ hx;refine zc fun _ kh9 => ?_;refine CW.seqMC 34 (decide (a < j ∧ kL L (cur.getD j 0) < kL L (cur.getD (j - 1) 0))) ?_ ?_
  ·intro hcM;refine CW.regionHC 17 rfl hmix fun kR10 kr10 hS hdr => ?_;have hcM := hcM.ta hdr;have hi_ := hi_.keep0 hdr;have hr := hr.keep0 hdr;have hi__r := hi_;refine wh 0 rfl hS (eM rfl) (wh 1 rfl hS (eM rfl) (wh 2 rfl hS (fun _ _ => Ev.gtr rfl rfl) ?_))
   by_cases hja : a < j
   ·rw [decide_eq_true (show (a : Int) < (j : Int) by omega)];refine wh 3 rfl hS (eM rfl) (wg 4 rfl rfl rfl rfl rfl hS (eM rfl) (wg 5 rfl rfl rfl rfl rfl hS (eM rfl) (wg 6 rfl rfl rfl rfl rfl hS (eM rfl) (wg 7 rfl rfl rfl rfl rfl hS (fun _ _ => Ev.ixB (j) rfl rfl (by omega) (by omega)) (wg 8 rfl rfl rfl rfl rfl hS (fun _ hw' => Ev.load rfl rfl ((hi__r.keep0 hw').i64 (by first | omega | (simp; omega)))) (wg 9 rfl rfl rfl rfl rfl hS (eM rfl) (wg 10 rfl rfl rfl rfl rfl hS (eM rfl) (wg 11 rfl rfl rfl rfl rfl hS (fun _ _ => Ev.subIn rfl rfl (by omega)) (wg 12 rfl rfl rfl rfl rfl hS (fun _ _ => Ev.ixB (j - 1) rfl rfl (by omega) (by omega)) (wg 13 rfl rfl rfl rfl rfl hS (fun _ hw' => Ev.load rfl rfl ((hi__r.keep0 hw').i64 (by first | omega | (simp; omega)))) ?_))))))))));refine WH.oneCallBG 14 rfl (by kernel_rfl) rfl rfl rfl rfl hasF204 rfl rfl rfl (compare_spec rb ba n (cur.getD j 0) (cur.getD (j - 1) 0) vL L _ hr (hlt_ (by omega)) (hlt_ (by omega))) fun v w32 h' => ?_;obtain ⟨rfl, hC32⟩ := h';have hS := hS.ta hC32;refine ⟨hS, ?_⟩;have hcM := hcM.trans hC32;refine wg 15 rfl rfl rfl rfl rfl hS (fun _ _ => Ev.lss rfl rfl) (wh 16 rfl hS (fun _ _ => Ev.pickT rfl rfl rfl) ?_);refine WH.done (by kernel_rfl) (kr10 _ _ _ ?_);refine ⟨rfl, hcM, Subs.consB rfl ?_ ?_⟩
    ·first | (simp_all; done) | (refine decide_eq_decide.2 ?_; rw [cmpI_lt]; exact ⟨fun z => ⟨hja, z⟩, fun z => z.2⟩) | (refine (decide_eq_false ?_).symm; exact fun z => hja z.1)
    exact SMg
   rw [decide_eq_false (show ¬ (a : Int) < (j : Int) by omega)];refine wh 3 rfl hS (eM rfl) (wp 4 rfl rfl rfl rfl rfl hS (wp 5 rfl rfl rfl rfl rfl hS (wp 6 rfl rfl rfl rfl rfl hS (wp 7 rfl rfl rfl rfl rfl hS (wp 8 rfl rfl rfl rfl rfl hS (wp 9 rfl rfl rfl rfl rfl hS (wp 10 rfl rfl rfl rfl rfl hS (wp 11 rfl rfl rfl rfl rfl hS (wp 12 rfl rfl rfl rfl rfl hS (wp 13 rfl rfl rfl rfl rfl hS ?_))))))))));refine WH.passG1 14 rfl (by kernel_rfl) rfl rfl rfl rfl hS rfl ?_;refine wp 15 rfl rfl rfl rfl rfl hS (wh 16 rfl hS (fun _ _ => Ev.pickF rfl rfl rfl) ?_);refine WH.done (by kernel_rfl) (kr10 _ _ _ ?_);refine ⟨rfl, hcM, Subs.consB rfl ?_ ?_⟩
   ·first | (simp_all; done) | (refine decide_eq_decide.2 ?_; rw [cmpI_lt]; exact ⟨fun z => ⟨hja, z⟩, fun z => z.2⟩) | (refine (decide_eq_false ?_).symm; exact fun z => hja z.1)
   exact SMg
  intro wM hcM;have hch := hch.ta hcM;have hi_ := hi_.keep0 hcM;have hr := hr.keep0 hcM;refine zy rfl ?_ ?_<;>intro hc2<;>try simp only [qs] at hc2
  ·have hq : a < j ∧ kL L (cur.getD j 0) < kL L (cur.getD (j - 1) 0) := hc2
   have hja := hq.1;refine zkk (kh9 (zc fun _ kh11 => CW.block ?_));refine CW.regionKC 15 18 rfl hmix fun kR12 kr12 hS hdr => ?_;have hch := hch.ta hdr;have hi_ := hi_.keep0 hdr;have hr := hr.keep0 hdr;have hi__r := hi_;refine wk 0 rfl hS (eM rfl) (wk 1 rfl hS (eM rfl) (wt 2 rfl (fun _ => hS) (fun _ => Ev.move rfl) (wt 3 rfl (fun _ => hS) (fun _ => Ev.move rfl) (wt 4 rfl (fun _ => hS) (fun _ => Ev.subIn rfl rfl (by omega)) (wk 5 rfl hS (eM rfl) (wk 6 rfl hS (eM rfl) (wk 7 rfl hS (fun _ _ => Ev.subIn rfl rfl (by omega)) (wk 8 rfl hS (fun _ _ => Ev.ixB (j - 1) rfl rfl (by omega) (by omega)) (wk 9 rfl hS (fun _ hw' => Ev.load rfl rfl ((hi__r.keep0 hw').i64 (by first | omega | (simp; omega)))) (wt 10 rfl (fun _ => hS) (fun _ => Ev.move rfl) (wt 11 rfl (fun _ => hS) (fun _ => Ev.move rfl) (wt 12 rfl (fun _ => hS) (fun _ => Ev.ixB (j) rfl rfl (by omega) (by omega)) (wk 13 rfl hS (fun _ hw' => Ev.load rfl rfl ((hi__r.keep0 hw').i64 (by first | omega | (simp; omega)))) (wk 14 rfl hS (fun _ _ => Ev.ixB (j) rfl rfl (by omega) (by omega)) ?_))))))))))))));refine WK.storeI 15 rfl (by kernel_rfl) (by kernel_rfl) rfl rfl hi_ (by first | omega | (simp; done) | (simp; omega)) fun ws3 hi__ hcs3 => ?_;have hch := hch.s1 hcs3;have hr := hr.keepOB hi_ hcs3 (by assumption);have hi_ := hi__;refine WK.after 16 rfl (by kernel_rfl) (by kernel_rfl) (Ev.ixB (j - 1) rfl rfl (by omega) (by omega)) rfl ?_;refine WK.storeI 17 rfl (by kernel_rfl) (by kernel_rfl) rfl rfl hi_ (by first | omega | (simp; done) | (simp; omega)) fun ws4 hi__ hcs4 => ?_;have hch := hch.s1 hcs4;have hr := hr.keepOB hi_ hcs4 (by assumption);have hi_ := hi__;refine WK.done (by kernel_rfl) (kr12 _ _ _ ?_);refine kh11 (zS fun _ kr13 => zm rfl ?_);refine WL.ev (Ev.subIn rfl rfl (by omega)) rfl ?_;rw [show (j : Int) - 1 = ((j - 1 : Nat) : Int) by omega];refine za rfl (zz (kr13 ?_));refine ⟨rfl, (j - 1, sw cur j (j - 1)), ?_, ?_, ?_⟩
   ·exact SLp
   ·exact ⟨by dsimp only; omega, by dsimp only; omega, hs.trans (sw_Sm (by omega) (by omega) (by omega) (by omega) (by omega) (by omega) (by omega)), hso1.step hj2 (by omega) hq.1 hq.2, hM2.of hi_ hr (sw_perm (by omega) (by omega) (by omega)), hch⟩
   show j - 1 < j; omega
  have hq : ¬ (a < j ∧ kL L (cur.getD j 0) < kL L (cur.getD (j - 1) 0)) := hc2;have hsoN := hso1.stop hj2 (by rcases Nat.eq_or_lt_of_le hj1 with e | e; exact .inl e.symm; exact .inr ⟨e, fun z => hq ⟨e, z⟩⟩);have hM2 := SsM.of hM2 hi_ hr (.refl _);refine CW.exit ?_;refine kh6 (zS fun _ kr14 => zm rfl ?_);(first | refine zi rfl rfl ?_ | refine zo rfl rfl ?_);refine za rfl (zz (kr14 ?_));refine ⟨rfl, (i + 1, cur), ?_, ?_, ?_⟩
  ·exact SLp
  ·exact ⟨by dsimp only; omega, by dsimp only; omega, hs, hsoN, hM2, hch⟩
  show b + 1 - (i + 1) < b + 1 - i; omega
 have hib : b ≤ i := by omega
 refine CW.exit ?_;refine bodyA.norm0 rfl ?_;exact ⟨⟨cur0, hs0, hso.sub (Nat.le_refl _) hib, hM0⟩, hch⟩

end

/- Package moment: of, total and what it adds. No condition. -/
section
open Go Sx Wd Fl

namespace Sx
section
variable {P : Program} {n : Nat} {D : List Deferred} {s : Sl} {w : World} {ops : Array Oper} {K : KK} {rest : List Oper} {ty : TypeId} {pos : String} {af : Array Edge} {d : Nat} {x y : Operand} {S : World → Prop} {fuel : Nat} {listed : Array Bool} {z : Nat}
theorem WK.oneCallB (i : Nat) {f : FuncId} {y : Operand} {xs : List Operand} {at_ : Array TypeId} {vs fst cap : List Value} {R : Value → World → Prop} (hi : ops[i]? = some ⟨some d, .call ⟨.value y, xs.toArray, at_⟩, ty, pos, af, none⟩) (hr : Region.ready .any ops listed = [i]) (hF : HasF P f) (hy : opnd s y = some (.func (.func f) fst.toArray cap.toArray)) (hx : opnds s xs = some vs) (hd : Nat.blt d n = true) (h : Ret P f (fst ++ vs ++ cap) w R)
  (k : ∀ v w', R v w' → S w' ∧ WK P ops K S z fuel (listed.setIfInBounds i true) n D ((d, v) :: s) w') : WK P ops K S z (fuel + 1) listed n D s w := fun a ha => by
 refine ⟨fun h => (by rw [hr] at h; cases h), fun j hj => ?_⟩;rw [hr] at hj;obtain rfl : j = i := by simpa using hj
 unfold wpOp;simp only [hi];rw [if_pos (by simp [Region.wanted])];refine .inl ?_;unfold Oper.wp;rw [exec_callB hF rfl hy hx fun x u hx => ha.eval hx];exact Calls.mono h fun e w' ⟨v, he, hR⟩ => by subst he; exact ⟨fun _ => (k v w' hR).1, (k v w' hR).2 _ (ha.put hd v)⟩
end
end Sx
def totF (D : Nat → Dy) (i : Nat) : Dy := totD ((List.range i).map D)
theorem totF_succ (D : Nat → Dy) (i : Nat) : totF D (i + 1) = addG (totF D i) (D i) := by
  unfold totF totD
  rw [List.range_succ, List.map_append, List.foldl_append]
  rfl
theorem addG_ok {x y : Dy} (hx : x.ok) (hy : y.ok) : (addG x y).ok := getD_ok fun d h => addD_ok hx hy h
theorem totF_ok {D : Nat → Dy} (h : ∀ i, (D i).ok) (i : Nat) : (totF D i).ok := by
  induction i with
  | zero => exact ok_zero
  | succ i ih => rw [totF_succ]; exact addG_ok ih (h i)
structure KTo (D : Nat → Dy) (n b4 b5 : Nat) (w0 : World) (i : Nat) (w : World) : Prop where
  hi : i ≤ n
  h4 : BK w b4 107 [.bool false, .slice none 0 0, .int .i64 0]
  h5 : ∃ r, BK w b5 107 [.bool (totF D i).neg, r, .int .i64 (totF D i).e] ∧ NU w r (wd (totF D i).m)
  ch : Chg [] w0 w

theorem mTotal_spec (fat : FuncId) (cap : List Value) (n : Nat) (Dd : Nat → Dy) (w : World) (hF : HasF Tryz.prog fat) (hat : ∀ (i : Nat) (w' : World), i < n → Chg [] w w' → Ret Tryz.prog fat ([] ++ [.int .i64 (i : Int)] ++ cap) w' fun u w'' => DY w'' u (Dd i) ∧ Chg [] w' w'') (hok : ∀ i, (Dd i).ok) (hnn : n ≤ 65536) (hg : GW w) : Ret Tryz.prog 277 [.int .i64 (n : Int), .func (.func fat) #[] cap.toArray] w fun u w' => DY w' u (totF Dd n) ∧ Chg [] w w' := by
 have hch := crf w;have hg0 := hg;refine zE2 Tryz.func277 rfl ?_;refine Sr fun _ kh1 => ?_;refine zAh rfl rfl hch fun b4 wm4 hb4 hcm4 hge4 hgehch4 hch => ?_;refine zz (kh1 (Sr fun _ kh3 => ?_));refine zAh rfl rfl hch fun b5 wm5 hb5 hcm5 hge5 hgehch5 hch => ?_;have hneb45 := zdd hb4.lt hge5;have hb4 := hb4.k0 hcm5;refine zz (kh3 (zc fun _ kh5 => Sr fun _ kh6 => zm rfl (zm rfl (zz (kh6 (CW.block ?_))))));refine CW.loop (S := fun i : Nat => [(1, .func (.func fat) #[] cap.toArray), (4, .pointer (some ⟨b4, 0, none⟩)), (5, .pointer (some ⟨b5, 0, none⟩)), (7, .int .i64 (n : Int)), (8, .int .i64 (i : Int))]) (Inv := KTo Dd n b4 b5 w) (mu := fun i => n - i) (0) ?_ ?_ ?_
 ·exact ⟨Nat.zero_le _, hb4, ⟨_, hb5, (by rw [show (totF Dd 0).m = 0 from rfl, wd_zero]; exact NU.nil)⟩, hch⟩
 ·exact SLp
 rintro i wr ⟨hi, hb4, ⟨ra, hb5, hNa⟩, hch⟩;have hoka := totF_ok hok i;have hora := hNa.one;refine Sr fun _ kh8 => zL rfl rfl (zz (kh8 (zc fun _ kh10 => ?_)));refine zy rfl ?_ ?_<;>intro hc1<;>try simp only [qs] at hc1
 ·have hin : i < n := by omega
  refine zkk (kh10 (zc fun _ kh11 => CW.block (Sr fun _ kh12 => zm rfl (za rfl (zz (kh12 ?_))))));refine CW.regionKC 8 9 rfl hmix fun kR14 kr14 hS hdr => ?_;have hch := hch.ta hdr;have hb4 := hb4.k0 hdr;have hb5 := hb5.k0 hdr;have hNa := hNa.keep0 hdr;have hb5_r := hb5;refine wk 0 rfl hS (fun _ hw' => Ev.loadA rfl rfl (hb5_r.keep0 hw') rfl) (wk 1 rfl hS (eM rfl) (wk 2 rfl hS (eM rfl) ?_));refine WK.oneCallB (fst := []) 3 rfl (by kernel_rfl) hF rfl rfl rfl (hat i _ hin hch) fun v w15 h' => ?_;obtain ⟨⟨rd, rfl, hNd⟩, hC15⟩ := h';have hS := hS.trans hC15;refine ⟨hS, ?_⟩;have hch := hch.trans hC15;have hb4 := hb4.k0 hC15;have hb5 := hb5.k0 hC15;have hNa := hNa.keep0 hC15;have hod := hNd.one;refine WK.oneCall 4 rfl (by kernel_rfl) hasF83 rfl rfl (Add_dspec _ _ _ _ _ _ _ _ _ hNa hNd (hg0.keep0 hch) (ok_i64 hoka) (ok_i64 (hok i))) fun v w1 h' => ?_;obtain ⟨hD, hC⟩ := h';rw [both_ok hoka (hok i)] at hD;obtain ⟨rs, ks, hve, hNs⟩ := hD.cells;have eT : (addD (totF Dd i) (Dd i)).getD Dy.zero = totF Dd (i + 1) := (totF_succ Dd i).symm;rw [eT] at hve hNs;subst hve;have hos := hNs.one;have hch := hch.ta hC;have hb4 := hb4.k0 hC;have hb5 := hb5.k0 hC;have hS := hS.trans hC;refine ⟨hS, ?_⟩;refine wk 5 rfl hS (eM rfl) (wk 6 rfl hS (eX rfl rfl) (wt 7 rfl (fun _ => hS) (fun _ => Ev.extract rfl rfl) ?_));refine WK.storeB 8 rfl (by kernel_rfl) (by kernel_rfl) rfl rfl rfl ao hb5 (by simp) rfl fun ws1 hb5_ hcs1 => ?_;(try simp only [Sx.splice, qt] at hb5_);have hch := hch.s1 hcs1;have hb4 := hb4.kq hcs1;have hNs := hNs.keepBK hb5 hcs1 an;have hb5 := hb5_;refine WK.done (by kernel_rfl) (kr14 _ _ _ ?_);refine kh11 (zS fun _ kr15 => ?_);(first | refine zi rfl rfl ?_ | refine zo rfl rfl ?_);refine zm rfl (zz (kr15 ?_));refine ⟨rfl, i + 1, ?_, ?_, ?_⟩
  ·exact SLp
  ·exact ⟨by omega, hb4, ⟨_, hb5, hNs⟩, hch⟩
  show n - (i + 1) < n - i; omega
 have hin : i = n := by omega
 subst hin;refine CW.exit ?_;refine kh5 (Sr fun _ kh16 => zg hb5 rfl ?_);refine zss rfl rfl ao hb4 rfl fun ws2 hb4_ hcs2 => ?_;(try simp only [Sx.splice, qt] at hb4_);have hch := hch.s1 hcs2;have hNa := hNa.keepBK hb4 hcs2 an;have hb4 := hb4_;refine zz (kh16 ?_);refine zr (bodyA.retR1 rfl (RVal.cell rfl (hb4.varA rfl rfl)) ?_);exact ⟨⟨_, rfl, hNa⟩, hch⟩

theorem momOf1_spec (x : Nat) (w : World) (hx : x < 18446744073709551616) (hg : GW w) : Ret Tryz.prog 279 [.float .f64 x] w fun u w' => DY w' u (fdy x) ∧ Chg [] w w' := by
 have hch := crf w;have hg0 := hg;refine zE1 Tryz.func279 rfl ?_;refine Sr fun _ kh1 => ?_;refine zAh rfl rfl hch fun b2 wm2 hb2 hcm2 hge2 hgehch2 hch => ?_;refine zz (kh1 (Sr fun _ kh3 => zm rfl ?_));refine WL.call hasF127 rfl rfl (dOf_spec x _ hx (hg0.keep0 hch)) fun v w1 h' => ?_;obtain ⟨hD, hC⟩ := h';obtain ⟨F, hF⟩ : ∃ F, F = fdy x := ⟨_, rfl⟩;obtain ⟨rd, kd, rfl, hNd⟩ : ∃ rd kd, v = .tuple [.agg [.bool F.neg, rd, .int .i64 F.e].toArray, .int .i64 kd].toArray ∧ NU w1 rd (wd F.m) := by
  rw [hF]; unfold fdy;rcases hD with ⟨hc, r, rfl, hN⟩ | ⟨hc, rfl⟩
  · rw [if_pos hc]; exact ⟨r, 0, rfl, hN⟩
  rw [if_neg hc]; exact ⟨_, 30, rfl, by rw [show Dy.zero.m = 0 from rfl, wd_zero]; exact NU.nil⟩
 have hod := hNd.one;have hch := hch.ta hC;have hb2 := hb2.k0 hC;refine zm rfl (zx rfl rfl (zx rfl rfl ?_));refine zAh rfl rfl hch fun b3 wm3 hb3 hcm3 hge3 hgehch3 hch => ?_;have hNd := hNd.keep0 hcm3;have hneb23 := zdd hb2.lt hge3;have hb2 := hb2.k0 hcm3;refine zss rfl rfl ao hb3 rfl fun ws3 hb3_ hcs3 => ?_;(try simp only [Sx.splice, qt] at hb3_);have hch := hch.s1 hcs3;have hb2 := hb2.kq hcs3;have hNd := hNd.keepBK hb3 hcs3 an;have hb3 := hb3_;refine za rfl (zz (kh3 (Sr fun _ kh5 => zg hb3 rfl ?_)));refine zss rfl rfl ao hb2 rfl fun ws4 hb2_ hcs4 => ?_;(try simp only [Sx.splice, qt] at hb2_);have hch := hch.s1 hcs4;have hNd := hNd.keepBK hb2 hcs4 an;have hb2 := hb2_;refine zz (kh5 ?_);refine zr (bodyA.retR1 rfl (RVal.cell rfl (hb2.varA rfl rfl)) ?_);exact ⟨⟨_, by rw [hF], by rw [← hF]; exact hNd⟩, hch⟩

theorem common1_spec (b1 i : Nat) (v : Value) (l : List Nat) (w : World) (h1 : BK w b1 32 [v]) (hv : NF w v l) (hi : i < l.length) (hg : GW w) : Ret Tryz.prog 278 [.int .i64 (i : Int), .pointer (some ⟨b1, 0, none⟩)] w fun u w' => DY w' u (fdy (l.getD i 0)) ∧ Chg [] w w' := by
 have hch := crf w;have hg0 := hg;obtain ⟨⟨al, cl, rfl, hcap, hrl⟩, hWl, hll⟩ := hv;refine zE2 Tryz.func278 rfl ?_;refine Sr fun _ kh1 => ?_;refine zAh rfl rfl hch fun b3 wm3 hb3 hcm3 hge3 hgehch3 hch => ?_;have hneb13 := zdd h1.lt hge3;have h1 := h1.keep0 hcm3;refine zz (kh1 (Sr fun _ kh3 => zl h1 rfl rfl (zm rfl ?_)));refine WL.ev (Ev.ixR (i) rfl rfl (hrl.keep0 hch) (by omega) (by omega) (by simp; omega)) rfl ?_;refine WL.ev (Ev.load rfl rfl ((hrl.keep0 hch).f64 (by first | omega | (simp; omega)))) rfl ?_;refine WL.call hasF279 rfl rfl (momOf1_spec (l.getD i 0) _ (D_getD hWl i) (hg0.keep0 hch)) fun v w1 h' => ?_;obtain ⟨⟨rd, rfl, hNrd⟩, hC⟩ := h';have hord := hNrd.one;have hch := hch.ta hC;have hb3 := hb3.k0 hC;refine zss rfl rfl ao hb3 rfl fun ws5 hb3_ hcs5 => ?_;(try simp only [Sx.splice, qt] at hb3_);have hch := hch.s1 hcs5;have hNrd := hNrd.keepBK hb3 hcs5 an;have hb3 := hb3_;refine zz (kh3 ?_);refine zr (bodyA.retR1 rfl (RVal.cell rfl (hb3.varA rfl rfl)) ?_);exact ⟨⟨_, rfl, hNrd⟩, hch⟩

theorem common2_spec (b1 i : Nat) (v : Value) (l : List Nat) (w : World) (h1 : BK w b1 32 [v]) (hv : NF w v l) (hi : i < l.length) (hg : GW w) : Ret Tryz.prog 280 [.int .i64 (i : Int), .pointer (some ⟨b1, 0, none⟩)] w fun u w' => DY w' u (fdy (l.getD i 0)) ∧ Chg [] w w' := by
 have hch := crf w;have hg0 := hg;obtain ⟨⟨al, cl, rfl, hcap, hrl⟩, hWl, hll⟩ := hv;refine zE2 Tryz.func280 rfl ?_;refine Sr fun _ kh1 => ?_;refine zAh rfl rfl hch fun b3 wm3 hb3 hcm3 hge3 hgehch3 hch => ?_;have hneb13 := zdd h1.lt hge3;have h1 := h1.keep0 hcm3;refine zz (kh1 (Sr fun _ kh3 => zl h1 rfl rfl (zm rfl ?_)));refine WL.ev (Ev.ixR (i) rfl rfl (hrl.keep0 hch) (by omega) (by omega) (by simp; omega)) rfl ?_;refine WL.ev (Ev.load rfl rfl ((hrl.keep0 hch).f64 (by first | omega | (simp; omega)))) rfl ?_;refine WL.call hasF279 rfl rfl (momOf1_spec (l.getD i 0) _ (D_getD hWl i) (hg0.keep0 hch)) fun v w1 h' => ?_;obtain ⟨⟨rd, rfl, hNrd⟩, hC⟩ := h';have hord := hNrd.one;have hch := hch.ta hC;have hb3 := hb3.k0 hC;refine zss rfl rfl ao hb3 rfl fun ws6 hb3_ hcs6 => ?_;(try simp only [Sx.splice, qt] at hb3_);have hch := hch.s1 hcs6;have hNrd := hNrd.keepBK hb3 hcs6 an;have hb3 := hb3_;refine zz (kh3 ?_);refine zr (bodyA.retR1 rfl (RVal.cell rfl (hb3.varA rfl rfl)) ?_);exact ⟨⟨_, rfl, hNrd⟩, hch⟩

theorem common3_spec (b1 b2 i : Nat) (v : Value) (l : List Nat) (w : World) (h1 : BK w b1 32 [v]) (h2 : BK w b2 32 [v]) (hv : NF w v l) (hi : i < l.length) (hg : GW w) : Ret Tryz.prog 281 [.int .i64 (i : Int), .pointer (some ⟨b1, 0, none⟩), .pointer (some ⟨b2, 0, none⟩)] w fun u w' => DY w' u (timD (fdy (l.getD i 0)) (fdy (l.getD i 0))) ∧ Chg [] w w' := by
 have hch := crf w;have hg0 := hg;obtain ⟨⟨al, cl, rfl, hcap, hrl⟩, hWl, hll⟩ := hv;have hokd := fdy_ok (l.getD i 0);refine zE3 Tryz.func281 rfl ?_;refine Sr fun _ kh1 => ?_;refine zAh rfl rfl hch fun b4 wm4 hb4 hcm4 hge4 hgehch4 hch => ?_;have hneb14 := zdd h1.lt hge4;have h1 := h1.keep0 hcm4;have hneb24 := zdd h2.lt hge4;have h2 := h2.keep0 hcm4;refine zz (kh1 (zc fun _ kh3 => ?_));refine CW.regionKC 12 13 rfl hmix fun kR4 kr4 hS hdr => ?_;have hch := hch.ta hdr;have h1 := h1.keep0 hdr;have h2 := h2.keep0 hdr;have hb4 := hb4.k0 hdr;have hch_r := hch;have h1_r := h1;have h2_r := h2;refine wk 0 rfl hS (fun _ hw' => Ev.load rfl rfl ((h1_r.keep0 hw').at_ rfl)) (wk 1 rfl hS (eM rfl) (wk 2 rfl hS (fun _ hw' => Ev.ixR (i) rfl rfl (hrl.keep0 (hch_r.trans hw')) (by omega) (by omega) (by simp; omega)) (wk 3 rfl hS (fun _ hw' => Ev.load rfl rfl ((hrl.keep0 (hch_r.trans hw')).f64 (by first | omega | (simp; omega)))) (wk 5 rfl hS (fun _ hw' => Ev.load rfl rfl ((h2_r.keep0 hw').at_ rfl)) (wk 6 rfl hS (eM rfl) (wk 7 rfl hS (fun _ hw' => Ev.ixR (i) rfl rfl (hrl.keep0 (hch_r.trans hw')) (by omega) (by omega) (by simp; omega)) (wk 8 rfl hS (fun _ hw' => Ev.load rfl rfl ((hrl.keep0 (hch_r.trans hw')).f64 (by first | omega | (simp; omega)))) ?_)))))));refine WK.oneCall 4 rfl (by kernel_rfl) hasF279 rfl rfl (momOf1_spec (l.getD i 0) _ (D_getD hWl i) (hg0.keep0 hch)) fun v w1 h' => ?_;obtain ⟨⟨r1, rfl, hNr1⟩, hC⟩ := h';have hor1 := hNr1.one;have hch := hch.ta hC;have hb4 := hb4.k0 hC;have hS := hS.trans hC;refine ⟨hS, ?_⟩;refine WK.oneCall 9 rfl (by kernel_rfl) hasF279 rfl rfl (momOf1_spec (l.getD i 0) _ (D_getD hWl i) (hg0.keep0 hch)) fun v w2 h' => ?_;obtain ⟨⟨r2, rfl, hNr2⟩, hC⟩ := h';have hor2 := hNr2.one;have hch := hch.ta hC;have hb4 := hb4.k0 hC;have hNr1 := hNr1.keep0 hC;have hS := hS.trans hC;refine ⟨hS, ?_⟩;refine WK.buildSlice 10 (m := 2) (cs := [.bool (fdy (l.getD i 0)).neg, r1, .int .i64 (fdy (l.getD i 0)).e, .bool (fdy (l.getD i 0)).neg, r2, .int .i64 (fdy (l.getD i 0)).e]) rfl (by kernel_rfl) (by decide) (by decide) rfl (by kernel_rfl) rfl fun b15 w15 hn15 => ?_;have hS := hS.trans hn15.chg;refine ⟨hS, ?_⟩;have hb15 := hn15.at_;have hch := hch.trans hn15.chg;have hb4 := hb4.keep0 hn15.chg;have hNr1 := hNr1.keep0 hn15.chg;have hNr2 := hNr2.keep0 hn15.chg;refine WK.oneCall 11 rfl (by kernel_rfl) hasF272 rfl rfl (mtimes_spec b15 _ _ r1 r2 _ hb15 hNr1 hNr2 hokd hokd (hg0.keep0 hch)) fun v w3 h' => ?_;obtain ⟨⟨rt, rfl, hNt⟩, hC⟩ := h';have hot := hNt.one;have hch := hch.ta hC;have hb4 := hb4.k0 hC;have hS := hS.trans hC;refine ⟨hS, ?_⟩;refine WK.storeB 12 rfl (by kernel_rfl) (by kernel_rfl) rfl rfl rfl ao hb4 (by simp) rfl fun ws7 hb4_ hcs7 => ?_;(try simp only [Sx.splice, qt] at hb4_);have hch := hch.s1 hcs7;have hNt := hNt.keepBK hb4 hcs7 an;have hb4 := hb4_;refine WK.done (by kernel_rfl) (kr4 _ _ _ ?_);refine kh3 ?_;refine zr (bodyA.retR1 rfl (RVal.cell rfl (hb4.varA rfl rfl)) ?_);exact ⟨⟨_, rfl, hNt⟩, hch⟩

end

/- Places in memory that are sorted: symMerge. No condition. -/
section
open Go Sx Wd Ss Fl

structure KM1 (rb ba n a m b : Nat) (vL : Value) (L l : List Nat) (w0 : World) (g : Nat × Nat) (w : World) : Prop where
  h1 : m ≤ g.1
  h2 : g.1 ≤ g.2
  h3 : g.2 ≤ b
  lo : ∀ q, m ≤ q → q < g.1 → kL L (l.getD q 0) < kL L (l.getD a 0)
  hi : ∀ q, g.2 ≤ q → q < b → ¬ kL L (l.getD q 0) < kL L (l.getD a 0)
  m : SsM rb ba n vL L w l
  ch : Chg [ba] w0 w
structure KM2 (rb ba n a m b : Nat) (vL : Value) (L l : List Nat) (w0 : World) (g : Nat × Nat) (w : World) : Prop where
  h1 : a ≤ g.1
  h2 : g.1 ≤ g.2
  h3 : g.2 ≤ m
  lo : ∀ q, a ≤ q → q < g.1 → ¬ kL L (l.getD m 0) < kL L (l.getD q 0)
  hi : ∀ q, g.2 ≤ q → q < m → kL L (l.getD m 0) < kL L (l.getD q 0)
  m : SsM rb ba n vL L w l
  ch : Chg [ba] w0 w
structure KU1 (rb ba n a i : Nat) (vL : Value) (L l : List Nat) (w0 : World) (g : Nat × List Nat) (w : World) : Prop where
  h1 : a ≤ g.1
  h2 : g.1 ≤ i - 1
  u : Up1 l a g.1 g.2
  m : SsM rb ba n vL L w g.2
  ch : Chg [ba] w0 w
structure KD1 (rb ba n m i : Nat) (vL : Value) (L l : List Nat) (w0 : World) (g : Nat × List Nat) (w : World) : Prop where
  h1 : i ≤ g.1
  h2 : g.1 ≤ m
  u : Dn1 l m g.1 g.2
  m : SsM rb ba n vL L w g.2
  ch : Chg [ba] w0 w
structure KM3 (rb ba n a m b d : Nat) (vL : Value) (L l : List Nat) (w0 : World) (g : Nat × Nat) (w : World) : Prop where
  h1 : a ≤ g.1
  h2 : g.1 ≤ g.2
  h3 : g.2 ≤ m
  h4 : g.2 ≤ d
  h5 : d + m ≤ b + g.1
  c : Cut (kL L) l a m b (d + m) g.1 g.2
  m : SsM rb ba n vL L w l
  ch : Chg [ba] w0 w

theorem symMerge_step (rb ba n : Nat) (vL : Value) (L l : List Nat) (a m b dd : Nat) (w : World) (hM : SsM rb ba n vL L w l) (hn : n ≤ 70368744177664) (h1 : a < m) (h2 : m < b) (h3 : b ≤ n) (hs : So (kL L) l a m) (ht : So (kL L) l m b) (hdd : dd = b - a) (IH : ∀ (a m b : Nat) (l : List Nat) (w : World), b - a < dd → SsM rb ba n vL L w l → a < m → m < b → b ≤ n → So (kL L) l a m → So (kL L) l m b → Ret Tryz.prog 323 [.slice (some ⟨ba, 0, none⟩) n n, .int .i64 (a : Int), .int .i64 (m : Int), .int .i64 (b : Int), CmpV rb] w fun _ w' => (∃ l', Sm l l' a b ∧ So (kL L) l' a b ∧ SsM rb ba n vL L w' l') ∧ Chg [ba] w w') : Ret Tryz.prog 323 [.slice (some ⟨ba, 0, none⟩) n n, .int .i64 (a : Int), .int .i64 (m : Int), .int .i64 (b : Int), CmpV rb] w fun _ w' => (∃ l', Sm l l' a b ∧ So (kL L) l' a b ∧ SsM rb ba n vL L w' l') ∧ Chg [ba] w w' := by
  have hch : Chg [ba] w w := Chg.refl _ _;have hll := hM.len;refine zE5 Tryz.func323 rfl ?_;refine zc fun _ kh1 => Sr fun _ kh2 => zm rfl (zm rfl ?_)
  first | refine WL.ev (Ev.subIn rfl rfl (by omega)) rfl ?_ | refine WL.ev (Ev.sub rfl rfl) rfl ?_
  refine zq rfl rfl (zz (kh2 ?_));refine zy rfl ?_ ?_<;>intro hc1<;>try simp only [qs] at hc1
  · have hma : m = a + 1 := by have := hc1; omega
    refine Sr fun _ kh4 => zm rfl (za rfl (zz (kh4 (Sr fun _ kh6 => zm rfl (za rfl (zz (kh6 (zc fun _ kh8 => CW.block ?_))))))));refine CW.loop (S := fun g : Nat × Nat => [(0, .slice (some ⟨ba, 0, none⟩) n n), (1, .int .i64 (a : Int)), (2, .int .i64 (m : Int)), (3, .int .i64 (b : Int)), (4, CmpV rb), (10, .int .i64 (g.1 : Int)), (11, .int .i64 (g.2 : Int))]) (Inv := KM1 rb ba n a m b vL L l w) (mu := fun g => g.2 - g.1) ((m, b)) ?_ ?_ ?_
    · exact ⟨Nat.le_refl _, by dsimp only; omega, Nat.le_refl _, fun q g1 g2 => by dsimp only at g2; omega, fun q g1 g2 => by dsimp only at g1; omega, hM, hch⟩
    · exact SLp
    rintro ⟨i, j⟩ wr ⟨k1, k2, k3, klo, khi, hM2, hch⟩;dsimp only at k1 k2 k3 klo khi
    try dsimp only
    obtain ⟨hi_, hr, hlen, hlt0⟩ := id hM2;have htt : True := trivial;have hlt_ : ∀ {x}, x < n → l.getD x 0 < L.length := fun {x} hx => hM.at_ hx;refine zc fun _ kh9 => Sr fun _ kh10 => zm rfl (zm rfl (zL rfl rfl (zz (kh10 ?_))));refine zy rfl ?_ ?_<;>intro hc2<;>try simp only [qs] at hc2
    · have hij : i < j := by omega
      refine zkk (kh9 (CW.block (Sr fun _ kh12 => zm rfl (zm rfl ?_))));(first | refine zi rfl rfl ?_ | refine zo rfl rfl ?_);refine WL.ev (Ev.convIn rfl rfl (in_u64 (by omega))) rfl ?_;refine WL.ev (Ev.shrU (b := 1) rfl rfl (by simp only [IntKind.bits]; omega)) rfl ?_;refine WL.ev (Ev.convIn rfl rfl (in_i64 (by omega))) rfl ?_;obtain ⟨c, hcc⟩ : ∃ c, c = (i + j) / 2 ^ 1 := ⟨_, rfl⟩;rw [← hcc];refine za rfl (zz (kh12 (zc fun _ kh14 => ?_)));refine CW.regionHC 11 rfl hmix fun kR15 kr15 hS hdr => ?_;have hch := hch.ta hdr;have hi_ := hi_.keep0 hdr;have hr := hr.keep0 hdr;have hi__r := hi_;refine wh 0 rfl hS (eM rfl) (wh 1 rfl hS (eM rfl) (wh 2 rfl hS (eM rfl) (wh 3 rfl hS (fun _ _ => Ev.ixB (c) rfl rfl (by omega) (by omega)) (wh 4 rfl hS (fun _ hw' => Ev.load rfl rfl ((hi__r.keep0 hw').i64 (by first | omega | (simp; omega)))) (wh 5 rfl hS (eM rfl) (wh 6 rfl hS (eM rfl) (wh 7 rfl hS (fun _ _ => Ev.ixB (a) rfl rfl (by omega) (by omega)) (wh 8 rfl hS (fun _ hw' => Ev.load rfl rfl ((hi__r.keep0 hw').i64 (by first | omega | (simp; omega)))) ?_))))))));refine WH.oneCallB 9 rfl (by kernel_rfl) hasF204 rfl rfl rfl (compare_spec rb ba n (l.getD c 0) (l.getD a 0) vL L _ hr (hlt_ (by omega)) (hlt_ (by omega))) fun v w49 h' => ?_;obtain ⟨rfl, hC49⟩ := h';have hS := hS.ta hC49;refine ⟨hS, ?_⟩;have hi_ := hi_.keep0 hC49;have hr := hr.keep0 hC49;have hch := hch.ta hC49;refine wh 10 rfl hS (fun _ _ => Ev.lss rfl rfl) ?_;refine WH.done (by kernel_rfl) (kr15 _ _ _ ?_);refine kh14 ?_;refine zy rfl ?_ ?_<;>intro hc3<;>try simp only [qs] at hc3
      · have hq : kL L (l.getD c 0) < kL L (l.getD a 0) := cmpI_lt.1 hc3
        have hM2 := SsM.of hM2 hi_ hr (.refl _);refine zS fun _ kr16 => zm rfl ?_;(first | refine zi rfl rfl ?_ | refine zo rfl rfl ?_);refine za rfl (zz (kr16 ?_));refine ⟨rfl, (c + 1, j), ?_, ?_, ?_⟩
        · exact SLp
        · refine ⟨by dsimp only; omega, by dsimp only; omega, k3, fun q g1 g2 => ?_, khi, hM2, hch⟩;dsimp only at g2;have := ht.le (i := q) (j := c) g1 (by omega) (by omega);omega
        show j - (c + 1) < j - i; omega
      have hq : ¬ kL L (l.getD c 0) < kL L (l.getD a 0) := fun z => by have h9 := cmpI_lt.2 z; omega
      have hM2 := SsM.of hM2 hi_ hr (.refl _);refine zS fun _ kr17 => zm rfl (za rfl (zz (kr17 ?_)));refine ⟨rfl, (i, c), ?_, ?_, ?_⟩
      · exact SLp
      · refine ⟨k1, by dsimp only; omega, by dsimp only; omega, klo, fun q g1 g2 => ?_, hM2, hch⟩;dsimp only at g1;have := ht.le (i := c) (j := q) (by omega) g1 g2;omega
      show c - i < j - i; omega
    have hij : i = j := by omega
    subst hij;refine CW.exit ?_;refine kh8 (zc fun _ kh18 => Sr fun _ kh19 => zm rfl (za rfl (zz (kh19 (CW.block ?_)))));refine CW.loop (S := fun g : Nat × List Nat => [(0, .slice (some ⟨ba, 0, none⟩) n n), (1, .int .i64 (a : Int)), (2, .int .i64 (m : Int)), (3, .int .i64 (b : Int)), (4, CmpV rb), (10, .int .i64 (i : Int)), (13, .int .i64 (g.1 : Int))]) (Inv := KU1 rb ba n a i vL L l w) (mu := fun g => i - g.1) ((a, l)) ?_ ?_ ?_
    · exact ⟨Nat.le_refl _, by dsimp only; omega, Up1.start l a, hM2, hch⟩
    · exact SLp
    rintro ⟨k, cur⟩ wr ⟨k4, k5, hu, hM3, hch⟩;dsimp only at k4 k5 hu hM3
    try dsimp only
    have hlc := hM3.len;obtain ⟨hi_, hr, hlen, hlt0⟩ := id hM3;have htt : True := trivial;refine zc fun _ kh21 => Sr fun _ kh22 => zm rfl (zm rfl ?_);refine WL.ev (Ev.subIn rfl rfl (by omega)) rfl ?_;refine zL rfl rfl (zz (kh22 ?_));refine zy rfl ?_ ?_<;>intro hc4<;>try simp only [qs] at hc4
    · have hki : k < i - 1 := by omega
      refine zkk (kh21 (zc fun _ kh24 => CW.block ?_));refine CW.regionKC 15 18 rfl hmix fun kR25 kr25 hS hdr => ?_;have hch := hch.ta hdr;have hi_ := hi_.keep0 hdr;have hr := hr.keep0 hdr;have hi__r := hi_;refine wk 0 rfl hS (eM rfl) (wk 1 rfl hS (eM rfl) (wt 2 rfl (fun _ => hS) (fun _ => Ev.move rfl) (wt 3 rfl (fun _ => hS) (fun _ => Ev.move rfl) (wt 4 rfl (fun _ => hS) (fun _ => Ev.addIn rfl rfl (by omega)) (wk 5 rfl hS (eM rfl) (wk 6 rfl hS (eM rfl) (wk 7 rfl hS (fun _ _ => Ev.addIn rfl rfl (by omega)) (wk 8 rfl hS (fun _ _ => Ev.ixB ((k + 1)) rfl rfl (by omega) (by omega)) (wk 9 rfl hS (fun _ hw' => Ev.load rfl rfl ((hi__r.keep0 hw').i64 (by first | omega | (simp; omega)))) (wt 10 rfl (fun _ => hS) (fun _ => Ev.move rfl) (wt 11 rfl (fun _ => hS) (fun _ => Ev.move rfl) (wt 12 rfl (fun _ => hS) (fun _ => Ev.ixB (k) rfl rfl (by omega) (by omega)) (wk 13 rfl hS (fun _ hw' => Ev.load rfl rfl ((hi__r.keep0 hw').i64 (by first | omega | (simp; omega)))) (wk 14 rfl hS (fun _ _ => Ev.ixB (k) rfl rfl (by omega) (by omega)) ?_))))))))))))));refine WK.storeI 15 rfl (by kernel_rfl) (by kernel_rfl) rfl rfl hi_ (by first | omega | (simp; done) | (simp; omega)) fun ws5 hi__ hcs5 => ?_;have hch := hch.s1 hcs5;have hr := hr.keepOB hi_ hcs5 (by assumption);have hi_ := hi__;refine WK.after 16 rfl (by kernel_rfl) (by kernel_rfl) (Ev.ixB ((k + 1)) rfl rfl (by omega) (by omega)) rfl ?_;refine WK.storeI 17 rfl (by kernel_rfl) (by kernel_rfl) rfl rfl hi_ (by first | omega | (simp; done) | (simp; omega)) fun ws6 hi__ hcs6 => ?_;have hch := hch.s1 hcs6;have hr := hr.keepOB hi_ hcs6 (by assumption);have hi_ := hi__;refine WK.done (by kernel_rfl) (kr25 _ _ _ ?_);refine kh24 (zS fun _ kr26 => zm rfl ?_);(first | refine zi rfl rfl ?_ | refine zo rfl rfl ?_);refine za rfl (zz (kr26 ?_));refine ⟨rfl, (k + 1, sw cur k (k + 1)), ?_, ?_, ?_⟩
      · exact SLp
      · have hu2 := hu.step k4 (by omega);exact ⟨by dsimp only; omega, by dsimp only; omega, hu2, hM3.of hi_ hr (sw_perm (by omega) (by omega) (by omega)), hch⟩
      show i - (k + 1) < i - k; omega
    have hki : k = i - 1 := by omega
    subst hki;refine CW.exit ?_;refine kh18 ?_;refine zr ?_;refine bodyA.ret0 rfl ?_;exact ⟨⟨cur, hu.sm (by omega) (by omega), hu.so (b := b) (by rw [← hma]; exact ht) (by omega) k3 (by rw [← hma]; exact klo) khi, hM3⟩, hch⟩
  have hma : m ≠ a + 1 := by have := hc1; omega
  refine zkk (kh1 (zc fun _ kh27 => Sr fun _ kh28 => zm rfl (zm rfl ?_)))
  first | refine WL.ev (Ev.subIn rfl rfl (by omega)) rfl ?_ | refine WL.ev (Ev.sub rfl rfl) rfl ?_
  refine zq rfl rfl (zz (kh28 ?_));refine zy rfl ?_ ?_<;>intro hc5<;>try simp only [qs] at hc5
  · have hbm : b = m + 1 := by have := hc5; omega
    refine Sr fun _ kh30 => zm rfl (za rfl (zz (kh30 (Sr fun _ kh32 => zm rfl (za rfl (zz (kh32 (zc fun _ kh34 => CW.block ?_))))))));refine CW.loop (S := fun g : Nat × Nat => [(0, .slice (some ⟨ba, 0, none⟩) n n), (1, .int .i64 (a : Int)), (2, .int .i64 (m : Int)), (3, .int .i64 (b : Int)), (4, CmpV rb), (14, .int .i64 (g.1 : Int)), (15, .int .i64 (g.2 : Int))]) (Inv := KM2 rb ba n a m b vL L l w) (mu := fun g => g.2 - g.1) ((a, m)) ?_ ?_ ?_
    · exact ⟨Nat.le_refl _, by dsimp only; omega, Nat.le_refl _, fun q g1 g2 => by dsimp only at g2; omega, fun q g1 g2 => by dsimp only at g1; omega, hM, hch⟩
    · exact SLp
    rintro ⟨i, j⟩ wr ⟨k1, k2, k3, klo, khi, hM2, hch⟩;dsimp only at k1 k2 k3 klo khi
    try dsimp only
    obtain ⟨hi_, hr, hlen, hlt0⟩ := id hM2;have htt : True := trivial;have hlt_ : ∀ {x}, x < n → l.getD x 0 < L.length := fun {x} hx => hM.at_ hx;refine zc fun _ kh35 => Sr fun _ kh36 => zm rfl (zm rfl (zL rfl rfl (zz (kh36 ?_))));refine zy rfl ?_ ?_<;>intro hc6<;>try simp only [qs] at hc6
    · have hij : i < j := by omega
      refine zkk (kh35 (CW.block (Sr fun _ kh38 => zm rfl (zm rfl ?_))));(first | refine zi rfl rfl ?_ | refine zo rfl rfl ?_);refine WL.ev (Ev.convIn rfl rfl (in_u64 (by omega))) rfl ?_;refine WL.ev (Ev.shrU (b := 1) rfl rfl (by simp only [IntKind.bits]; omega)) rfl ?_;refine WL.ev (Ev.convIn rfl rfl (in_i64 (by omega))) rfl ?_;obtain ⟨c, hcc⟩ : ∃ c, c = (i + j) / 2 ^ 1 := ⟨_, rfl⟩;rw [← hcc];refine za rfl (zz (kh38 (zc fun _ kh40 => ?_)));refine CW.regionHC 12 rfl hmix fun kR41 kr41 hS hdr => ?_;have hch := hch.ta hdr;have hi_ := hi_.keep0 hdr;have hr := hr.keep0 hdr;have hi__r := hi_;refine wh 0 rfl hS (eM rfl) (wh 1 rfl hS (eM rfl) (wh 2 rfl hS (eM rfl) (wh 3 rfl hS (fun _ _ => Ev.ixB (m) rfl rfl (by omega) (by omega)) (wh 4 rfl hS (fun _ hw' => Ev.load rfl rfl ((hi__r.keep0 hw').i64 (by first | omega | (simp; omega)))) (wh 5 rfl hS (eM rfl) (wh 6 rfl hS (eM rfl) (wh 7 rfl hS (fun _ _ => Ev.ixB (c) rfl rfl (by omega) (by omega)) (wh 8 rfl hS (fun _ hw' => Ev.load rfl rfl ((hi__r.keep0 hw').i64 (by first | omega | (simp; omega)))) ?_))))))));refine WH.oneCallB 9 rfl (by kernel_rfl) hasF204 rfl rfl rfl (compare_spec rb ba n (l.getD m 0) (l.getD c 0) vL L _ hr (hlt_ (by omega)) (hlt_ (by omega))) fun v w101 h' => ?_;obtain ⟨rfl, hC101⟩ := h';have hS := hS.ta hC101;refine ⟨hS, ?_⟩;have hi_ := hi_.keep0 hC101;have hr := hr.keep0 hC101;have hch := hch.ta hC101;refine wh 10 rfl hS (fun _ _ => Ev.lss rfl rfl) (wh 11 rfl hS (fun _ _ => Ev.not rfl) ?_);refine WH.done (by kernel_rfl) (kr41 _ _ _ ?_);refine kh40 ?_;refine zy rfl ?_ ?_<;>intro hc7<;>try simp only [qs] at hc7
      · have hq : ¬ kL L (l.getD m 0) < kL L (l.getD c 0) := fun z => by have h9 := cmpI_lt.2 z; have := hc7; simp at this; omega
        have hM2 := SsM.of hM2 hi_ hr (.refl _);refine zS fun _ kr42 => zm rfl ?_;(first | refine zi rfl rfl ?_ | refine zo rfl rfl ?_);refine za rfl (zz (kr42 ?_));refine ⟨rfl, (c + 1, j), ?_, ?_, ?_⟩
        · exact SLp
        · refine ⟨by dsimp only; omega, by dsimp only; omega, k3, fun q g1 g2 => ?_, khi, hM2, hch⟩;dsimp only at g2;have := hs.le (i := q) (j := c) g1 (by omega) (by omega);omega
        show j - (c + 1) < j - i; omega
      have hq : kL L (l.getD m 0) < kL L (l.getD c 0) := cmpI_lt.1 (by have := hc7; simp at this; omega);have hM2 := SsM.of hM2 hi_ hr (.refl _);refine zS fun _ kr43 => zm rfl (za rfl (zz (kr43 ?_)));refine ⟨rfl, (i, c), ?_, ?_, ?_⟩
      · exact SLp
      · refine ⟨k1, by dsimp only; omega, by dsimp only; omega, klo, fun q g1 g2 => ?_, hM2, hch⟩;dsimp only at g1;have := hs.le (i := c) (j := q) (by omega) g1 g2;omega
      show c - i < j - i; omega
    have hij : i = j := by omega
    subst hij;refine CW.exit ?_;refine kh34 (zc fun _ kh44 => Sr fun _ kh45 => zm rfl (za rfl (zz (kh45 (CW.block ?_)))));refine CW.loop (S := fun g : Nat × List Nat => [(0, .slice (some ⟨ba, 0, none⟩) n n), (1, .int .i64 (a : Int)), (2, .int .i64 (m : Int)), (3, .int .i64 (b : Int)), (4, CmpV rb), (14, .int .i64 (i : Int)), (17, .int .i64 (g.1 : Int))]) (Inv := KD1 rb ba n m i vL L l w) (mu := fun g => g.1) ((m, l)) ?_ ?_ ?_
    · exact ⟨by dsimp only; omega, Nat.le_refl _, Dn1.start l m, hM2, hch⟩
    · exact SLp
    rintro ⟨k, cur⟩ wr ⟨k4, k5, hu, hM3, hch⟩;dsimp only at k4 k5 hu hM3
    try dsimp only
    have hlc := hM3.len;obtain ⟨hi_, hr, hlen, hlt0⟩ := id hM3;have htt : True := trivial;refine zc fun _ kh47 => Sr fun _ kh48 => zm rfl (zm rfl (zG rfl rfl (zz (kh48 ?_))));refine zy rfl ?_ ?_<;>intro hc8<;>try simp only [qs] at hc8
    · have hki : i < k := by omega
      refine zkk (kh47 (zc fun _ kh50 => CW.block ?_));refine CW.regionKC 15 18 rfl hmix fun kR51 kr51 hS hdr => ?_;have hch := hch.ta hdr;have hi_ := hi_.keep0 hdr;have hr := hr.keep0 hdr;have hi__r := hi_;refine wk 0 rfl hS (eM rfl) (wk 1 rfl hS (eM rfl) (wt 2 rfl (fun _ => hS) (fun _ => Ev.move rfl) (wt 3 rfl (fun _ => hS) (fun _ => Ev.move rfl) (wt 4 rfl (fun _ => hS) (fun _ => Ev.subIn rfl rfl (by omega)) (wk 5 rfl hS (eM rfl) (wk 6 rfl hS (eM rfl) (wk 7 rfl hS (fun _ _ => Ev.subIn rfl rfl (by omega)) (wk 8 rfl hS (fun _ _ => Ev.ixB (k - 1) rfl rfl (by omega) (by omega)) (wk 9 rfl hS (fun _ hw' => Ev.load rfl rfl ((hi__r.keep0 hw').i64 (by first | omega | (simp; omega)))) (wt 10 rfl (fun _ => hS) (fun _ => Ev.move rfl) (wt 11 rfl (fun _ => hS) (fun _ => Ev.move rfl) (wt 12 rfl (fun _ => hS) (fun _ => Ev.ixB (k) rfl rfl (by omega) (by omega)) (wk 13 rfl hS (fun _ hw' => Ev.load rfl rfl ((hi__r.keep0 hw').i64 (by first | omega | (simp; omega)))) (wk 14 rfl hS (fun _ _ => Ev.ixB (k) rfl rfl (by omega) (by omega)) ?_))))))))))))));refine WK.storeI 15 rfl (by kernel_rfl) (by kernel_rfl) rfl rfl hi_ (by first | omega | (simp; done) | (simp; omega)) fun ws7 hi__ hcs7 => ?_;have hch := hch.s1 hcs7;have hr := hr.keepOB hi_ hcs7 (by assumption);have hi_ := hi__;refine WK.after 16 rfl (by kernel_rfl) (by kernel_rfl) (Ev.ixB (k - 1) rfl rfl (by omega) (by omega)) rfl ?_;refine WK.storeI 17 rfl (by kernel_rfl) (by kernel_rfl) rfl rfl hi_ (by first | omega | (simp; done) | (simp; omega)) fun ws8 hi__ hcs8 => ?_;have hch := hch.s1 hcs8;have hr := hr.keepOB hi_ hcs8 (by assumption);have hi_ := hi__;refine WK.done (by kernel_rfl) (kr51 _ _ _ ?_);refine kh50 (zS fun _ kr52 => zm rfl ?_);refine WL.ev (Ev.subIn rfl rfl (by omega)) rfl ?_;rw [show (k : Int) - 1 = ((k - 1 : Nat) : Int) by omega];refine za rfl (zz (kr52 ?_));refine ⟨rfl, (k - 1, sw cur k (k - 1)), ?_, ?_, ?_⟩
      · exact SLp
      · have hu2 := hu.step k5 (by omega) (by omega);exact ⟨by dsimp only; omega, by dsimp only; omega, hu2, hM3.of hi_ hr (sw_perm (by omega) (by omega) (by omega)), hch⟩
      show k - 1 < k; omega
    have hki : k = i := by omega
    subst hki;refine CW.exit ?_;refine kh44 ?_;refine zr ?_;refine bodyA.ret0 rfl ?_;exact ⟨⟨cur, hu.sm k1 k5 (by omega), by rw [hbm]; exact hu.so hs k1 k5 klo khi, hM3⟩, hch⟩
  have hbm : b ≠ m + 1 := by have := hc5; omega
  refine zkk (kh27 (Sr fun _ kh53 => zm rfl (zm rfl ?_)));(first | refine zi rfl rfl ?_ | refine zo rfl rfl ?_);refine WL.ev (Ev.convIn rfl rfl (in_u64 (by omega))) rfl ?_;refine WL.ev (Ev.shrU (b := 1) rfl rfl (by simp only [IntKind.bits]; omega)) rfl ?_;refine WL.ev (Ev.convIn rfl rfl (in_i64 (by omega))) rfl ?_;obtain ⟨d, hd⟩ : ∃ d, d = (a + b) / 2 ^ 1 := ⟨_, rfl⟩;rw [← hd];have hdab : a < d ∧ d < b ∧ 2 * d ≤ a + b ∧ a + b ≤ 2 * d + 1 := by omega
  refine za rfl (zz (kh53 (Sr fun _ kh55 => zm rfl (zm rfl ?_))));(first | refine zi rfl rfl ?_ | refine zo rfl rfl ?_);refine za rfl (zz (kh55 (Sr fun _ kh57 => za rfl (za rfl (zz (kh57 ?_))))));refine CW.seqJ (fun D s' w' => D = [] ∧ w = w' ∧ ∃ s r : Nat, (a ≤ s ∧ s ≤ r ∧ r ≤ m ∧ r ≤ d ∧ d + m ≤ b + s ∧ Cut (kL L) l a m b (d + m) s r) ∧ Subs [(0, .slice (some ⟨ba, 0, none⟩) n n), (1, .int .i64 (a : Int)), (2, .int .i64 (m : Int)), (3, .int .i64 (b : Int)), (4, CmpV rb), (18, .int .i64 (d : Int)), (19, .int .i64 ((d : Int) + (m : Int))), (20, .int .i64 (s : Int)), (21, .int .i64 (r : Int))] s') ?_ ?_
  · refine Sr fun _ kh60 => zm rfl (zm rfl (zG rfl rfl (zz (kh60 ?_))));refine zy rfl ?_ ?_<;>intro hc9<;>try simp only [qs] at hc9
    · have hmd : d < m := by omega
      refine Sr fun _ kh62 => zm rfl (zm rfl ?_);refine WL.ev (Ev.subIn rfl rfl (by omega)) rfl ?_;rw [show (d : Int) + (m : Int) - (b : Int) = ((d + m - b : Nat) : Int) by omega];refine za rfl (zz (kh62 (zS fun _ kr64 => zm rfl (za rfl (zz (kr64 ?_))))));exact ⟨rfl, rfl, d + m - b, d, ⟨by omega, by omega, by omega, Nat.le_refl _, by omega, Cut.start1 (by omega)⟩, by (repeat (first | exact Subs.nil | refine Subs.cons rfl ?_))⟩
    have hmd : m ≤ d := by omega
    refine Sr fun _ kh65 => zm rfl (za rfl (zz (kh65 (zS fun _ kr67 => zm rfl (za rfl (zz (kr67 ?_)))))));exact ⟨rfl, rfl, a, m, ⟨Nat.le_refl _, by omega, Nat.le_refl _, hmd, by omega, Cut.start2⟩, by (repeat (first | exact Subs.nil | refine Subs.cons rfl ?_))⟩
  rintro _ s' wJ ⟨rfl, rfl, s, r, ⟨k1, k2, k3, k4, k5, hcut⟩, hsub⟩;refine CW.sub hsub ?_;refine Sr fun _ kh68 => zm rfl ?_;refine WL.ev (Ev.subIn rfl rfl (by omega)) rfl ?_;rw [show (d : Int) + (m : Int) - 1 = ((d + m - 1 : Nat) : Int) by omega];refine za rfl (zz (kh68 (zc fun _ kh70 => CW.block ?_)));refine CW.loop (S := fun g : Nat × Nat => [(0, .slice (some ⟨ba, 0, none⟩) n n), (1, .int .i64 (a : Int)), (2, .int .i64 (m : Int)), (3, .int .i64 (b : Int)), (4, CmpV rb), (18, .int .i64 (d : Int)), (19, .int .i64 ((d : Int) + (m : Int))), (20, .int .i64 (g.1 : Int)), (21, .int .i64 (g.2 : Int)), (22, .int .i64 ((d + m - 1 : Nat) : Int))]) (Inv := KM3 rb ba n a m b d vL L l w) (mu := fun g => g.2 - g.1) ((s, r)) ?_ ?_ ?_
  · exact ⟨k1, k2, k3, k4, k5, hcut, hM, hch⟩
  · exact SLp
  rintro ⟨s, r⟩ wr ⟨k1, k2, k3, k4, k5, hcut, hM2, hch⟩;dsimp only at k1 k2 k3 k4 k5 hcut
  try dsimp only
  obtain ⟨hi_, hr, hlen, hlt0⟩ := id hM2;have htt : True := trivial;have hlt_ : ∀ {x}, x < n → l.getD x 0 < L.length := fun {x} hx => hM.at_ hx;refine zc fun _ kh71 => Sr fun _ kh72 => zm rfl (zm rfl (zL rfl rfl (zz (kh72 ?_))));refine zy rfl ?_ ?_<;>intro hc10<;>try simp only [qs] at hc10
  · have hsr : s < r := by omega
    refine zkk (kh71 (CW.block (Sr fun _ kh74 => zm rfl (zm rfl ?_))));(first | refine zi rfl rfl ?_ | refine zo rfl rfl ?_);refine WL.ev (Ev.convIn rfl rfl (in_u64 (by omega))) rfl ?_;refine WL.ev (Ev.shrU (b := 1) rfl rfl (by simp only [IntKind.bits]; omega)) rfl ?_;refine WL.ev (Ev.convIn rfl rfl (in_i64 (by omega))) rfl ?_;obtain ⟨c, hcc⟩ : ∃ c, c = (s + r) / 2 ^ 1 := ⟨_, rfl⟩;rw [← hcc];refine za rfl (zz (kh74 (zc fun _ kh76 => ?_)));refine CW.regionHC 14 rfl hmix fun kR77 kr77 hS hdr => ?_;have hch := hch.ta hdr;have hi_ := hi_.keep0 hdr;have hr := hr.keep0 hdr;have hi__r := hi_;refine wh 0 rfl hS (eM rfl) (wh 1 rfl hS (eM rfl) (wh 2 rfl hS (eM rfl) (wh 3 rfl hS (eM rfl) (wh 4 rfl hS (fun _ _ => Ev.subIn rfl rfl (by omega)) (wh 5 rfl hS (fun _ _ => Ev.ixB (d + m - 1 - c) rfl rfl (by omega) (by omega)) (wh 6 rfl hS (fun _ hw' => Ev.load rfl rfl ((hi__r.keep0 hw').i64 (by first | omega | (simp; omega)))) (wh 7 rfl hS (eM rfl) (wh 8 rfl hS (eM rfl) (wh 9 rfl hS (fun _ _ => Ev.ixB (c) rfl rfl (by omega) (by omega)) (wh 10 rfl hS (fun _ hw' => Ev.load rfl rfl ((hi__r.keep0 hw').i64 (by first | omega | (simp; omega)))) ?_))))))))));refine WH.oneCallB 11 rfl (by kernel_rfl) hasF204 rfl rfl rfl (compare_spec rb ba n (l.getD (d + m - 1 - c) 0) (l.getD c 0) vL L _ hr (hlt_ (by omega)) (hlt_ (by omega))) fun v w169 h' => ?_;obtain ⟨rfl, hC169⟩ := h';have hS := hS.ta hC169;refine ⟨hS, ?_⟩;have hi_ := hi_.keep0 hC169;have hr := hr.keep0 hC169;have hch := hch.ta hC169;refine wh 12 rfl hS (fun _ _ => Ev.lss rfl rfl) (wh 13 rfl hS (fun _ _ => Ev.not rfl) ?_);refine WH.done (by kernel_rfl) (kr77 _ _ _ ?_);refine kh76 ?_;refine zy rfl ?_ ?_<;>intro hc11<;>try simp only [qs] at hc11
    · have hq : ¬ kL L (l.getD (d + m - 1 - c) 0) < kL L (l.getD c 0) := fun z => by have h9 := cmpI_lt.2 z; have := hc11; simp at this; omega
      have hcut2 := hcut.stepF hs ht (c := c) (by omega) (by omega) (by omega) (by omega) hq;have hM2 := SsM.of hM2 hi_ hr (.refl _);refine zS fun _ kr78 => zm rfl ?_;(first | refine zi rfl rfl ?_ | refine zo rfl rfl ?_);refine za rfl (zz (kr78 ?_));refine ⟨rfl, (c + 1, r), ?_, ?_, ?_⟩
      · exact SLp
      · exact ⟨by dsimp only; omega, by dsimp only; omega, k3, k4, by dsimp only; omega, hcut2, hM2, hch⟩
      show r - (c + 1) < r - s; omega
    have hq : kL L (l.getD (d + m - 1 - c) 0) < kL L (l.getD c 0) := cmpI_lt.1 (by have := hc11; simp at this; omega);have hcut2 := hcut.stepT hs ht (c := c) (by omega) (by omega) (by omega) (by omega) hq;have hM2 := SsM.of hM2 hi_ hr (.refl _);refine zS fun _ kr79 => zm rfl (za rfl (zz (kr79 ?_)));refine ⟨rfl, (s, c), ?_, ?_, ?_⟩
    · exact SLp
    · exact ⟨k1, by dsimp only; omega, by dsimp only; omega, by dsimp only; omega, k5, hcut2, hM2, hch⟩
    show c - s < r - s; omega
  have hsr : s = r := by omega
  subst hsr;refine CW.exit ?_;refine kh70 (Sr fun _ kh80 => zm rfl (zm rfl ?_));refine WL.ev (Ev.subIn rfl rfl (by omega)) rfl ?_;obtain ⟨e, he⟩ : ∃ e, e = d + m - s := ⟨_, rfl⟩;rw [show (d : Int) + (m : Int) - (s : Int) = (e : Int) by omega];have hes : e + s = d + m := by omega
  refine za rfl (zz (kh80 ?_));refine CW.seqJ (fun D s' w' => D = [] ∧ (∃ l1, Halves (kL L) l l1 a b s d e ∧ SsM rb ba n vL L w' l1) ∧ Chg [ba] w w' ∧ Subs [(0, .slice (some ⟨ba, 0, none⟩) n n), (1, .int .i64 (a : Int)), (2, .int .i64 (m : Int)), (3, .int .i64 (b : Int)), (4, CmpV rb), (18, .int .i64 (d : Int)), (20, .int .i64 (s : Int)), (24, .int .i64 (e : Int))] s') ?_ ?_
  · refine CW.seqM 185 (decide (s < m ∧ m < e)) ?_ ?_
    · refine zS fun _ kr83 => zm rfl (zm rfl (zL rfl rfl (zm rfl ?_)));refine zb ?_ ?_<;>intro hg12<;>try simp only [qs] at hg12
      · refine zw rfl (zm rfl (zw rfl (zm rfl (zw rfl (zL rfl rfl (zt rfl rfl (zz (kr83 ?_))))))));refine ⟨rfl, rfl, Subs.consB rfl ?_ ?_⟩
        · first | (simp_all; done) | (simp; omega) | (refine decide_eq_decide.2 ?_; omega)
        exact SMg
      refine zv rfl (zv rfl (zv rfl (ze rfl rfl (zz (kr83 ?_)))));refine ⟨rfl, rfl, Subs.consB rfl ?_ ?_⟩
      · first | (simp_all; done) | (simp; omega) | (refine decide_eq_decide.2 ?_; omega)
      exact SMg
    refine zy rfl ?_ ?_<;>intro hc13<;>try simp only [qs] at hc13
    · have hq : s < m ∧ m < e := hc13
      refine zS fun _ kr84 => zm rfl (zm rfl (zm rfl (zm rfl (zm rfl ?_))));refine WL.call hasF350 rfl rfl (rotate_spec rb ba n vL L l s m e _ hM2 hn hq.1 hq.2 (by omega)) fun v w1 h' => ?_;obtain ⟨⟨l1, hrt, hM4⟩, hC⟩ := h';have hch := hch.step hC (fun y hy => .inl hy);refine zz (kr84 ?_);exact ⟨rfl, ⟨l1, halves ⟨by omega, by omega⟩ ⟨h1, h2⟩ (by omega) hs ht hcut k1 k3 k4 hes (by omega) (by omega) hrt.p hrt.g, hM4⟩, hch, by (repeat (first | exact Subs.nil | refine Subs.cons rfl ?_))⟩
    have hq : ¬ (s < m ∧ m < e) := hc13;refine zkk ?_;exact ⟨rfl, ⟨l, halves ⟨by omega, by omega⟩ ⟨h1, h2⟩ (by omega) hs ht hcut k1 k3 k4 hes (by omega) (by omega) (.refl _) (fun k => by rw [rt_id (by omega) (by omega) (by omega)]), hM2⟩, hch, by (repeat (first | exact Subs.nil | refine Subs.cons rfl ?_))⟩
  rintro _ s' wJ ⟨rfl, ⟨l1, hH, hM4⟩, hch, hsub⟩;refine CW.sub hsub ?_;have hl1 := hM4.len;refine CW.seqJ (fun D s' w' => D = [] ∧ (∃ l2, Sm l1 l2 a d ∧ So (kL L) l2 a d ∧ SsM rb ba n vL L w' l2) ∧ Chg [ba] w w' ∧ Subs [(0, .slice (some ⟨ba, 0, none⟩) n n), (1, .int .i64 (a : Int)), (2, .int .i64 (m : Int)), (3, .int .i64 (b : Int)), (4, CmpV rb), (18, .int .i64 (d : Int)), (20, .int .i64 (s : Int)), (24, .int .i64 (e : Int))] s') ?_ ?_
  · refine CW.seqM 199 (decide (a < s ∧ s < d)) ?_ ?_
    · refine zS fun _ kr86 => zm rfl (zm rfl (zL rfl rfl (zm rfl ?_)));refine zb ?_ ?_<;>intro hg14<;>try simp only [qs] at hg14
      · refine zw rfl (zm rfl (zw rfl (zm rfl (zw rfl (zL rfl rfl (zt rfl rfl (zz (kr86 ?_))))))));refine ⟨rfl, rfl, Subs.consB rfl ?_ ?_⟩
        · first | (simp_all; done) | (simp; omega) | (refine decide_eq_decide.2 ?_; omega)
        exact SMg
      refine zv rfl (zv rfl (zv rfl (ze rfl rfl (zz (kr86 ?_)))));refine ⟨rfl, rfl, Subs.consB rfl ?_ ?_⟩
      · first | (simp_all; done) | (simp; omega) | (refine decide_eq_decide.2 ?_; omega)
      exact SMg
    refine zy rfl ?_ ?_<;>intro hc15<;>try simp only [qs] at hc15
    · have hq : a < s ∧ s < d := hc15
      refine zS fun _ kr87 => zm rfl (zm rfl (zm rfl (zm rfl (zm rfl ?_))));refine WL.call hasF323 rfl rfl (IH a s d l1 _ (by omega) hM4 hq.1 hq.2 (by omega) hH.s1 hH.s2) fun v w2 h' => ?_;obtain ⟨⟨l2, hS2, hG2, hM5⟩, hC⟩ := h';have hch := hch.step hC (fun y hy => .inl hy);refine zz (kr87 ?_);exact ⟨rfl, ⟨l2, hS2, hG2, hM5⟩, hch, by (repeat (first | exact Subs.nil | refine Subs.cons rfl ?_))⟩
    have hq : ¬ (a < s ∧ s < d) := hc15;have hG : So (kL L) l1 a d := by
      by_cases z : a < s
      · have : s = d := by omega
        rw [← this]; exact hH.s1
      have : s = a := by omega
      rw [← this]; exact hH.s2
    refine zkk ?_;exact ⟨rfl, ⟨l1, Sm.refl _ _ _, hG, hM4⟩, hch, by (repeat (first | exact Subs.nil | refine Subs.cons rfl ?_))⟩
  rintro _ s' wJ ⟨rfl, ⟨l2, hS2, hG2, hM5⟩, hch, hsub⟩;refine CW.sub hsub ?_;refine CW.seqM 213 (decide (d < e ∧ e < b)) ?_ ?_
  · refine zS fun _ kr88 => zm rfl (zm rfl (zL rfl rfl (zm rfl ?_)));refine zb ?_ ?_<;>intro hg16<;>try simp only [qs] at hg16
    · refine zw rfl (zm rfl (zw rfl (zm rfl (zw rfl (zL rfl rfl (zt rfl rfl (zz (kr88 ?_))))))));refine ⟨rfl, rfl, Subs.consB rfl ?_ ?_⟩
      · first | (simp_all; done) | (simp; omega) | (refine decide_eq_decide.2 ?_; omega)
      exact SMg
    refine zv rfl (zv rfl (zv rfl (ze rfl rfl (zz (kr88 ?_)))));refine ⟨rfl, rfl, Subs.consB rfl ?_ ?_⟩
    · first | (simp_all; done) | (simp; omega) | (refine decide_eq_decide.2 ?_; omega)
    exact SMg
  refine zy rfl ?_ ?_<;>intro hc17<;>try simp only [qs] at hc17
  · have hq : d < e ∧ e < b := hc17
    refine zS fun _ kr89 => zm rfl (zm rfl (zm rfl (zm rfl (zm rfl ?_))));refine WL.call hasF323 rfl rfl (IH d e b l2 _ (by omega) hM5 hq.1 hq.2 h3 (hH.s3.same hS2 (.inr (Nat.le_refl _))) (hH.s4.same hS2 (.inr (by omega)))) fun v w3 h' => ?_;obtain ⟨⟨l3, hS3, hG3, hM6⟩, hC⟩ := h';have hch := hch.step hC (fun y hy => .inl hy);have hfin := hH.done (by omega) (by omega) (by omega) hS2 hG2 hS3 hG3;refine zz (kr89 ?_);refine bodyA.norm0 rfl ?_;exact ⟨⟨l3, hfin.1, hfin.2, hM6⟩, hch⟩
  have hq : ¬ (d < e ∧ e < b) := hc17;have hG : So (kL L) l2 d b := by
    by_cases z : d < e
    · have : e = b := by omega
      rw [← this]; exact hH.s3.same hS2 (.inr (Nat.le_refl _))
    have : e = d := by omega
    rw [← this]; exact hH.s4.same hS2 (.inr (by omega))
  have hfin := hH.done (by omega) (by omega) (by omega) hS2 hG2 (Sm.refl _ _ _) hG;refine zkk ?_;refine bodyA.norm0 rfl ?_;exact ⟨⟨l2, hfin.1, hfin.2, hM5⟩, hch⟩

theorem symMerge_spec (rb ba n : Nat) (vL : Value) (L : List Nat) (hn : n ≤ 70368744177664) (dd : Nat) : ∀ (a m b : Nat) (l : List Nat) (w : World), b - a = dd → SsM rb ba n vL L w l → a < m → m < b → b ≤ n → So (kL L) l a m → So (kL L) l m b → Ret Tryz.prog 323 [.slice (some ⟨ba, 0, none⟩) n n, .int .i64 (a : Int), .int .i64 (m : Int), .int .i64 (b : Int), CmpV rb] w fun _ w' => (∃ l', Sm l l' a b ∧ So (kL L) l' a b ∧ SsM rb ba n vL L w' l') ∧ Chg [ba] w w' := by
  induction dd using Nat.strongRecOn with
  | _ dd ih =>
    intro a m b l w hd hM h1 h2 h3 hs ht
    exact symMerge_step rb ba n vL L l a m b dd w hM hn h1 h2 h3 hs ht hd.symm fun a m b l w hlt hM h1 h2 h3 hs ht => ih (b - a) hlt a m b l w rfl hM h1 h2 h3 hs ht

end

/- Places in memory that are sorted: stable, rank.Sort. No condition. -/
section
open Go Sx Wd Ss Fl

structure KB1 (rb ba n : Nat) (vL : Value) (L l : List Nat) (w0 : World) (g : Nat × List Nat) (w : World) : Prop where
  d : 20 ∣ g.1
  h : g.1 ≤ n
  s : Sm l g.2 0 n
  b : B1 (kL L) g.2 g.1
  m : SsM rb ba n vL L w g.2
  ch : Chg [ba] w0 w
structure KB2 (rb ba n : Nat) (vL : Value) (L l : List Nat) (w0 : World) (g : Nat × List Nat) (w : World) : Prop where
  k : 20 ≤ g.1
  k2 : g.1 ≤ 2 * n + 20
  s : Sm l g.2 0 n
  b : ∀ c, g.1 ∣ c → So (kL L) g.2 c (min (c + g.1) n)
  m : SsM rb ba n vL L w g.2
  ch : Chg [ba] w0 w
structure KB3 (rb ba n k : Nat) (vL : Value) (L l : List Nat) (w0 : World) (g : Nat × List Nat) (w : World) : Prop where
  d : 2 * k ∣ g.1
  h : g.1 ≤ n
  s : Sm l g.2 0 n
  b : Bl (kL L) g.2 n k g.1
  m : SsM rb ba n vL L w g.2
  ch : Chg [ba] w0 w

theorem stable_spec (rb ba n : Nat) (vL : Value) (L l : List Nat) (w : World) (hM : SsM rb ba n vL L w l) (hn : n ≤ 70368744177664) : Ret Tryz.prog 285 [.slice (some ⟨ba, 0, none⟩) n n, .int .i64 (n : Int), CmpV rb] w fun _ w' => (∃ l', Sm l l' 0 n ∧ So (kL L) l' 0 n ∧ SsM rb ba n vL L w' l') ∧ Chg [ba] w w' := by
 have hch : Chg [ba] w w := Chg.refl _ _;refine zE3 Tryz.func285 rfl ?_;refine Sr fun _ kh1 => za rfl (zz (kh1 (Sr fun _ kh3 => zm rfl (za rfl (za rfl (zz (kh3 (zc fun _ kh5 => CW.block ?_))))))));refine CW.loop (S := fun g : Nat × List Nat => [(0, .slice (some ⟨ba, 0, none⟩) n n), (1, .int .i64 (n : Int)), (2, CmpV rb), (6, .int .i64 20), (7, .int .i64 (g.1 : Int)), (8, .int .i64 ((g.1 : Int) + 20))]) (Inv := KB1 rb ba n vL L l w) (mu := fun g => n - g.1) ((0, l)) ?_ ?_ ?_
 ·exact ⟨⟨0, rfl⟩, Nat.zero_le _, Sm.refl _ _ _, fun c _ h => absurd h (Nat.not_lt_zero _), hM, hch⟩
 ·exact SLp
 rintro ⟨a, cur⟩ wr ⟨hda, han, hs1, hb1, hM2, hch⟩;dsimp only at hda han hs1 hb1 hM2
 try dsimp only
 rw [show (a : Int) + 20 = ((a + 20 : Nat) : Int) by omega];refine zc fun _ kh6 => Sr fun _ kh7 => zm rfl (zm rfl (zQ rfl rfl (zz (kh7 ?_))));refine zy rfl ?_ ?_<;>intro hc1<;>try simp only [qs] at hc1
 ·have hle : a + 20 ≤ n := by omega
  refine zkk (kh6 (CW.block (Sr fun _ kh9 => zm rfl (zm rfl (zm rfl (zm rfl ?_))))));refine WL.call hasF322 rfl rfl (insertion_spec rb ba n vL L cur (a) (a + 20) _ hM2 hn (by omega) (by omega)) fun v w1 h' => ?_;obtain ⟨⟨l2, hs2, hso2, hM3⟩, hC⟩ := h';have hch := hch.step hC (fun y hy => .inl hy);refine zz (kh9 (Sr fun _ kh11 => zm rfl (za rfl (zz (kh11 (zS fun _ kr13 => zm rfl (zm rfl ?_)))))));refine WL.ev (Ev.addIn rfl rfl (by omega)) rfl ?_;refine za rfl (zz (kr13 ?_));refine ⟨rfl, (a + 20, l2), ?_, ?_, ?_⟩
  ·exact SLp
  ·exact ⟨Nat.dvd_add hda ⟨1, rfl⟩, by dsimp only; omega, hs1.trans (hs2.mono (by omega) (by omega)), hb1.step hda hs2 hso2, hM3, hch⟩
  show n - (a + 20) < n - a; omega
 have hgt : n < a + 20 := by omega
 refine CW.exit ?_;refine kh5 (Sr fun _ kh14 => zm rfl (zm rfl (zm rfl (zm rfl ?_))));refine WL.call hasF322 rfl rfl (insertion_spec rb ba n vL L cur (a) (n) _ hM2 hn (by omega) (by omega)) fun v w2 h' => ?_;obtain ⟨⟨l2, hs2, hso2, hM3⟩, hC⟩ := h';have hch := hch.step hC (fun y hy => .inl hy);refine zz (kh14 (CW.block ?_));refine CW.loop (S := fun g : Nat × List Nat => [(0, .slice (some ⟨ba, 0, none⟩) n n), (1, .int .i64 (n : Int)), (2, CmpV rb), (6, .int .i64 (g.1 : Int))]) (Inv := KB2 rb ba n vL L l w) (mu := fun g => n - g.1) ((20, l2)) ?_ ?_ ?_
 ·exact ⟨Nat.le_refl _, by dsimp only; omega, hs1.trans (hs2.mono (by omega) (by omega)), hb1.last hda hgt han hs2 hso2, hM3, hch⟩
 ·exact SLp
 rintro ⟨k, cur1⟩ wr ⟨hk, hk2, hsk, hbk, hMk, hch⟩;dsimp only at hk hk2 hsk hbk hMk
 try dsimp only
 refine zc fun _ kh16 => Sr fun _ kh17 => zm rfl (zm rfl (zL rfl rfl (zz (kh17 ?_))));refine zy rfl ?_ ?_<;>intro hc2<;>try simp only [qs] at hc2
 ·have hkn : k < n := by omega
  refine zkk (kh16 (CW.block (Sr fun _ kh19 => zm rfl ?_)));refine WL.ev (Ev.mulIn rfl rfl (by omega)) rfl ?_;rw [show (2 : Int) * (k : Int) = ((0 : Nat) : Int) + 2 * (k : Int) by omega];refine za rfl (za rfl (zz (kh19 (zc fun _ kh21 => CW.block ?_))));refine CW.loop (S := fun g : Nat × List Nat => [(0, .slice (some ⟨ba, 0, none⟩) n n), (1, .int .i64 (n : Int)), (2, CmpV rb), (6, .int .i64 (k : Int)), (7, .int .i64 (g.1 : Int)), (8, .int .i64 ((g.1 : Int) + 2 * (k : Int)))]) (Inv := KB3 rb ba n k vL L l w) (mu := fun g => n - g.1) ((0, cur1)) ?_ ?_ ?_
  ·exact ⟨⟨0, rfl⟩, Nat.zero_le _, hsk, Bl.start hbk, hMk, hch⟩
  ·exact SLp
  rintro ⟨a, cur2⟩ wr ⟨hda, han, hs2_, hbl, hM3, hch⟩;dsimp only at hda han hs2_ hbl hM3
  try dsimp only
  rw [show (a : Int) + 2 * (k : Int) = ((a + 2 * k : Nat) : Int) by omega];have hka : k ∣ a := Nat.dvd_trans ⟨2, Nat.mul_comm ..⟩ hda;have hkak : k ∣ a + k := Nat.dvd_add hka (Nat.dvd_refl _);refine zc fun _ kh22 => Sr fun _ kh23 => zm rfl (zm rfl (zQ rfl rfl (zz (kh23 ?_))));refine zy rfl ?_ ?_<;>intro hc3<;>try simp only [qs] at hc3
  ·have hle2 : a + 2 * k ≤ n := by omega
   refine zkk (kh22 (CW.block (Sr fun _ kh25 => zm rfl (zm rfl (zm rfl (zm rfl ?_))))));refine WL.ev (Ev.addIn rfl rfl (by omega)) rfl ?_;rw [show (a : Int) + (k : Int) = ((a + k : Nat) : Int) by omega];refine zm rfl (zm rfl ?_);refine WL.call hasF323 rfl rfl (symMerge_spec rb ba n vL L hn _ (a) (a + k) (a + 2 * k) cur2 _ rfl hM3 (by omega) (by omega) (by omega) (by have := hbl.1 a hka (Nat.le_refl _); rwa [Nat.min_eq_left (by omega)] at this) (by have := hbl.1 (a + k) hkak (by omega); rwa [show min (a + k + k) n = a + 2 * k by omega] at this)) fun v w3 h' => ?_;obtain ⟨⟨l3, hs3, hso3, hM4⟩, hC⟩ := h';have hch := hch.step hC (fun y hy => .inl hy);refine zz (kh25 (Sr fun _ kh27 => zm rfl (za rfl (zz (kh27 (zS fun _ kr29 => zm rfl (zm rfl ?_)))))));refine WL.ev (Ev.mulIn rfl rfl (by omega)) rfl ?_;refine WL.ev (Ev.addIn rfl rfl (by omega)) rfl ?_;refine za rfl (zz (kr29 ?_));refine ⟨rfl, (a + 2 * k, l3), ?_, ?_, ?_⟩
   ·exact SLp
   ·exact ⟨Nat.dvd_add hda (Nat.dvd_refl _), by dsimp only; omega, hs2_.trans (hs3.mono (by omega) (by omega)), hbl.merge hda hle2 hs3 hso3, hM4, hch⟩
   show n - (a + 2 * k) < n - a; omega
  have hgt2 : n < a + 2 * k := by omega
  refine CW.exit ?_;refine kh21 (zc fun _ kh30 => Sr fun _ kh31 => zm rfl (zm rfl ?_));refine WL.ev (Ev.addIn rfl rfl (by omega)) rfl ?_;rw [show (a : Int) + (k : Int) = ((a + k : Nat) : Int) by omega];refine za rfl (zz (kh31 (Sr fun _ kh33 => zm rfl (zm rfl (zL rfl rfl (zz (kh33 ?_)))))));refine zy rfl ?_ ?_<;>intro hc4<;>try simp only [qs] at hc4
  ·have hm : a + k < n := by omega
   refine zR fun _ kr35 => ?_;refine zm rfl (zm rfl (zm rfl (zm rfl (zm rfl ?_))));refine WL.call hasF323 rfl rfl (symMerge_spec rb ba n vL L hn _ (a) (a + k) (n) cur2 _ rfl hM3 (by omega) (by omega) (by omega) (by have := hbl.1 a hka (Nat.le_refl _); rwa [Nat.min_eq_left (by omega)] at this) (by have := hbl.1 (a + k) hkak (by omega); rwa [show min (a + k + k) n = n by omega] at this)) fun v w4 h' => ?_;obtain ⟨⟨l3, hs3, hso3, hM4⟩, hC⟩ := h';have hch := hch.step hC (fun y hy => .inl hy);refine WL.nil (kr35 _ _ _ (kh30 ?_));refine zS fun _ kr36 => zm rfl ?_;refine WL.ev (Ev.mulIn rfl rfl (by omega)) rfl ?_;rw [show (k : Int) * 2 = ((2 * k : Nat) : Int) by omega];refine za rfl (zz (kr36 ?_));refine ⟨rfl, (2 * k, l3), ?_, ?_, ?_⟩
   ·exact SLp
   ·exact ⟨by dsimp only; omega, by dsimp only; omega, hs2_.trans (hs3.mono (by omega) (Nat.le_refl _)), hbl.last1 hda hgt2 hm hs3 hso3, hM4, hch⟩
   show n - 2 * k < n - k; omega
  have hm : n ≤ a + k := by omega
  refine zkk (kh30 (zS fun _ kr37 => zm rfl ?_));refine WL.ev (Ev.mulIn rfl rfl (by omega)) rfl ?_;rw [show (k : Int) * 2 = ((2 * k : Nat) : Int) by omega];refine za rfl (zz (kr37 ?_));refine ⟨rfl, (2 * k, cur2), ?_, ?_, ?_⟩
  ·exact SLp
  ·exact ⟨by dsimp only; omega, by dsimp only; omega, hs2_, hbl.last2 hda hm, hM3, hch⟩
  show n - 2 * k < n - k; omega
 have hkn : n ≤ k := by omega
 have hfin := hbk 0 ⟨0, rfl⟩;rw [Nat.zero_add, Nat.min_eq_right hkn] at hfin;refine CW.exit ?_;refine bodyA.norm0 rfl ?_;exact ⟨⟨cur1, hsk, hfin, hMk⟩, hch⟩

theorem SortStable_spec (rb ba n : Nat) (vL : Value) (L l : List Nat) (w : World) (hM : SsM rb ba n vL L w l) (hn : n ≤ 70368744177664) : Ret Tryz.prog 203 [.slice (some ⟨ba, 0, none⟩) n n, CmpV rb] w fun _ w' => (∃ l', Sm l l' 0 n ∧ So (kL L) l' 0 n ∧ SsM rb ba n vL L w' l') ∧ Chg [ba] w w' := by
 refine zE2 Tryz.func203 rfl ?_;refine zS fun _ kr1 => zm rfl (zm rfl (zn rfl (zm rfl ?_)));refine WL.call hasF285 rfl rfl (stable_spec rb ba n vL L l _ hM hn) fun v w1 h' => ?_;refine zz (kr1 ?_);refine bodyA.norm0 rfl ?_;exact h'

end

/- rank.Sort. No condition. -/
section
open Go Sx Wd Ss Fl

namespace Sx
section
variable {P : Program} {n : Nat} {D : List Deferred} {s : Sl} {w : World} {ops : Array Oper} {K : KK} {rest : List Oper} {ty : TypeId} {pos : String} {af : Array Edge} {d : Nat} {x y : Operand}
theorem madeI {z : Value} (hz : z.cells = #[.int .i64 0]) (n : Nat) : madeCells z.cells (n * 1) = ((List.replicate n 0).map i64n).toArray := by
  rw [hz, Nat.mul_one]
  apply Array.ext'
  simp [madeCells, List.map_replicate, i64n, Nat.mod_one, List.map_const']
theorem WL.makeI (j i : Nat) {t : TypeId} {e be : Nat} {kl kc : IntKind} {l c : Int} {sz by_ : Nat} {z : Value} [hT : HasT P t (.slice e) sz by_ z] [hE : HasT P e (.int .i64) 1 be (.int .i64 0)] (hx : opnd s x = some (.int kl l)) (hy : opnd s y = some (.int kc c))
    (hl : l = (j : Int)) (hc : c = (i : Int)) (hlc : j ≤ i) (hb : be * i ≤ 281474976710656) (h63 : i ≤ 281474976710656) (hd : Nat.blt d n = true)
    (k : ∀ b w', IB w' b e (List.replicate i 0) → Chg [] w w' → w.heap.size ≤ b → WL P ops K rest n D ((d, .slice (some ⟨b, 0, none⟩) j i) :: s) w') : WL P ops K (⟨some d, .makeSlice t x y, ty, pos, af, none⟩ :: rest) n D s w := by
  subst hl; subst hc
  refine WL.make (hT := hT) (hE := hE) hx hy (by omega) (by omega) (by rw [show (be : Int) * (i : Int) = ((be * i : Nat) : Int) by simp]; omega) (by omega) hd fun b w' hn => ?_
  have h1 := hn.at_
  rw [show (i : Int).toNat = i by omega, madeI (by rfl)] at h1
  exact k b w' h1 hn.chg hn.ge
theorem Ev.makeFuncC {f : FuncId} {v u : Value} (hx : opnd s x = some v) (hy : opnd s y = some u) : Ev P s (.makeFunc (.func f) #[] #[x, y]) ty w (.func (.func f) #[] #[v, u]) w := fun ρ d' pos af g hρ => by
  have e1 := hρ x _ hx
  have e2 := hρ y _ hy
  simp [execOp, Instr.makeFunc, e1, e2]
end
end Sx
theorem set_range {i n : Nat} (h : i < n) : (List.range i ++ List.replicate (n - i) 0).set i i = List.range (i + 1) ++ List.replicate (n - (i + 1)) 0 := by
  rw [List.set_append_right _ _ (by simp), List.length_range, Nat.sub_self, show n - i = (n - (i + 1)) + 1 by omega, List.replicate_succ, List.set_cons_zero, List.range_succ, List.append_assoc]
  rfl
structure KEi (b n : Nat) (w0 : World) (i : Nat) (w : World) : Prop where
  hi : i ≤ n
  hb : IB w b 3 (List.range i ++ List.replicate (n - i) 0)
  ge : w0.heap.size ≤ b
  ch : Chg [] w0 w

theorem rankOf1_spec (i : Nat) (w : World) : Ret Tryz.prog 202 [.int .i64 (i : Int)] w fun u w' => u = .int .i64 (i : Int) ∧ w = w' := by
 refine zE1 Tryz.func202 rfl ?_;refine Sr fun _ kh1 => za rfl (zz (kh1 (Sr fun _ kh3 => zm rfl (za rfl (zz (kh3 ?_))))));refine zr (zr1 rfl rfl ?_);exact ⟨rfl, rfl⟩

theorem eachI_spec (n : Nat) (w : World) (hn : n ≤ 35184372088832) : Ret Tryz.prog 201 [.int .i64 (n : Int), .func (.func 202) #[] #[]] w fun u w' => (∃ b, u = .slice (some ⟨b, 0, none⟩) n n ∧ IB w' b 3 (List.range n) ∧ w.heap.size ≤ b) ∧ Chg [] w w' := by
 have hch := crf w;refine zE2 Tryz.func201 rfl ?_;refine Sr fun _ kh1 => za rfl (zz (kh1 (Sr fun _ kh3 => zm rfl ?_)));refine WL.makeI n n rfl rfl rfl rfl (Nat.le_refl _) (by omega) (by omega) rfl fun b8 w8 hb8 hcm8 hge8 => ?_;have hch := hch.trans hcm8;refine za rfl (zz (kh3 (zc fun _ kh5 => Sr fun _ kh6 => zm rfl (zn rfl (zm rfl (zz (kh6 (CW.block ?_))))))));refine CW.loop (S := fun i : Nat => [(1, .func (.func 202) #[] #[]), (5, .slice (some ⟨b8, 0, none⟩) n n), (10, .int .i64 (n : Int)), (11, .int .i64 (i : Int))]) (Inv := KEi b8 n w) (mu := fun i => n - i) (0) ?_ ?_ ?_
 ·exact ⟨Nat.zero_le _, by simpa using hb8, hge8, hch⟩
 ·exact SLp
 rintro i wr ⟨hi, hb, hge, hch⟩;refine Sr fun _ kh8 => zL rfl rfl (zz (kh8 (zc fun _ kh10 => ?_)));refine zy rfl ?_ ?_<;>intro hc1<;>try simp only [qs] at hc1
 ·have hin : i < n := by omega
  refine zkk (kh10 (zc fun _ kh11 => CW.block (Sr fun _ kh12 => zm rfl (za rfl (zz (kh12 ?_))))));refine zR fun _ kr14 => ?_;refine zm rfl (zm rfl (zm rfl (zm rfl ?_)));refine WL.callV (cap := []) hasF202 rfl rfl rfl (by rw [List.append_nil]; exact rankOf1_spec i _) fun v18 w18 h18 => ?_;obtain ⟨rfl, rfl⟩ := h18;refine WL.ev (Ev.ixB (i) rfl rfl (by omega) (by omega)) rfl ?_;refine WL.storeI rfl rfl hb (by rw [List.length_append, List.length_range, List.length_replicate]; omega) fun ws1 hb hcs1 => ?_;rw [set_range hin] at hb;have hch := hch.step hcs1 (fun y hy => .inr (by rw [List.mem_singleton.1 hy]; exact hge));refine WL.nil (kr14 _ _ _ (kh11 ?_));refine zS fun _ kr15 => ?_;(first | refine zi rfl rfl ?_ | refine zo rfl rfl ?_);refine zm rfl (zz (kr15 ?_));refine ⟨rfl, i + 1, ?_, ?_, ?_⟩
  ·exact SLp
  ·exact ⟨by omega, hb, hge, hch⟩
  show n - (i + 1) < n - i; omega
 have hin : i = n := by omega
 subst hin;rw [Nat.sub_self, List.replicate_zero, List.append_nil] at hb;refine CW.exit ?_;refine kh5 (Sr fun _ kh16 => zm rfl (za rfl (zz (kh16 ?_))));refine zr (zr1 rfl rfl ?_);exact ⟨⟨b8, rfl, hb, hge⟩, hch⟩

theorem rankOf_spec (v : Value) (L : List Nat) (w : World) (hv : NF w v L) (hn : L.length ≤ 35184372088832) : Ret Tryz.prog 112 [v] w fun u w' => (∃ rb ba l', u = .pointer (some ⟨rb, 0, none⟩) ∧ SsM rb ba L.length v L w' l' ∧ l'.Perm (List.range L.length) ∧ So (kL L) l' 0 L.length ∧ w.heap.size ≤ rb) ∧ Chg [] w w' := by
 have hch := crf w;have hv0 := hv;have hov := hv.one;obtain ⟨⟨al, cl, rfl, hcap, hrl⟩, hWl, hll⟩ := hv;refine zE1 Tryz.func112 rfl ?_;refine Sr fun _ kh1 => za rfl (zz (kh1 (Sr fun _ kh3 => zm rfl (zm rfl (zn rfl ?_)))));refine WL.call hasF201 rfl rfl (eachI_spec L.length _ hn) fun v w1 h' => ?_;obtain ⟨⟨ba, rfl, hib, hgeb⟩, hC⟩ := h';have hgeb := Nat.le_trans hch.size hgeb;have hch := hch.ta hC;refine WL.ev (Ev.build (vs := _) (cs := [_, _]) rfl rfl) rfl ?_;refine WL.boxB rfl rfl rfl fun b9 wm9 hb9 hcm9 hge9 => ?_;have hge9 := Nat.le_trans hch.size hge9;have hch := hch.trans hcm9;have hib := hib.keep0 hcm9;have hM : SsM b9 ba L.length (.slice al L.length cl) L wm9 (List.range L.length) := ⟨hib, ⟨hb9, hv0.keep0 hch⟩, List.length_range, fun x hx => List.mem_range.1 hx⟩;refine za rfl (zz (kh3 (Sr fun _ kh5 => zm rfl (zP rfl (zf rfl ?_)))));refine WL.ev (Ev.load (v := .slice (some ⟨ba, 0, none⟩) L.length L.length) rfl rfl (hM.r.b.at_ rfl)) rfl ?_;refine zm rfl ?_;refine WL.ev (Ev.makeFuncB rfl) rfl ?_;refine WL.call hasF203 rfl rfl (SortStable_spec b9 ba L.length _ L _ _ hM (by omega)) fun v w2 h' => ?_;obtain ⟨⟨l2, hs2, hso2, hM2⟩, hC⟩ := h';have hch := hch.step hC (fun y hy => .inr (by rw [List.mem_singleton.1 hy]; exact hgeb));refine zz (kh5 (Sr fun _ kh7 => zm rfl (za rfl (zz (kh7 ?_)))));refine zr (zr1 rfl rfl ?_);exact ⟨⟨b9, ba, l2, rfl, hM2, hs2.p, hso2, hge9⟩, hch⟩

def toldP (x : Nat) : Nat := if isNaN x = true then 9221120237041090560 else x
theorem toldP_lt {x : Nat} (h : x < 18446744073709551616) : toldP x < 18446744073709551616 := by
  unfold toldP; split
  · decide
  · exact h
structure KEf (b5 b1 b3 rb ba : Nat) (vL : Value) (L l' : List Nat) (w0 : World) (i : Nat) (w : World) : Prop where
  hi : i ≤ L.length
  hb : FB w b5 31 ((l'.take i).map (fun k => toldP (L.getD k 0)) ++ List.replicate (L.length - i) 0)
  h1 : BK w b1 32 [vL]
  h3 : BK w b3 174 [.pointer (some ⟨rb, 0, none⟩)]
  m : SsM rb ba L.length vL L w l'
  ge : w0.heap.size ≤ b5
  ch : Chg [] w0 w
theorem set_mid {f : Nat → Nat} {l : List Nat} {i n : Nat} (h : i < n) (hl : l.length = n) : ((l.take i).map f ++ List.replicate (n - i) 0).set i (f (l.getD i 0)) = (l.take (i + 1)).map f ++ List.replicate (n - (i + 1)) 0 := by
  rw [List.set_append_right _ _ (by simp; omega), List.length_map, List.length_take, Nat.min_eq_left (by omega), Nat.sub_self, show n - i = (n - (i + 1)) + 1 by omega, List.replicate_succ, List.set_cons_zero, take_step (by omega), List.map_append, List.append_assoc]
  rfl
theorem rankTold_spec (x : Nat) (w : World) : Ret Tryz.prog 115 [.float .f64 x] w fun u w' => u = .float .f64 (toldP x) ∧ w = w' := by
 refine zE1 Tryz.func115 rfl ?_;refine Sr fun _ kh1 => za rfl (zz (kh1 (zc fun _ kh3 => Sr fun _ kh4 => zm rfl ?_)));refine WL.call hasF124 rfl rfl (math_IsNaN_spec x _) fun v w1 h' => ?_;obtain ⟨rfl, rfl⟩ := h';refine zz (kh4 ?_);refine zy rfl ?_ ?_<;>intro hc1<;>try simp only [qs] at hc1
 ·have hq : isNaN x = true := by simpa using hc1
  refine Sr fun _ kh6 => ?_;refine WL.call hasF97 rfl rfl (bits_NaN_spec _) fun v w2 h' => ?_;obtain ⟨rfl, rfl⟩ := h';refine za rfl (zz (kh6 ?_));refine zr (zr1 rfl rfl ?_);refine ⟨?_, rfl⟩;unfold toldP; rw [if_pos hq]
 have hq : ¬ isNaN x = true := by simpa using hc1
 refine zkk (kh3 (Sr fun _ kh8 => zm rfl (za rfl (zz (kh8 ?_)))));refine zr (zr1 rfl rfl ?_);refine ⟨?_, rfl⟩;unfold toldP; rw [if_neg hq]

theorem rankSort1_spec (b1 b3 rb ba i : Nat) (vL : Value) (L l' : List Nat) (w : World) (h1 : BK w b1 32 [vL]) (h3 : BK w b3 174 [.pointer (some ⟨rb, 0, none⟩)]) (hM : SsM rb ba L.length vL L w l') (hi : i < L.length) : Ret Tryz.prog 114 [.int .i64 (i : Int), .pointer (some ⟨b1, 0, none⟩), .pointer (some ⟨b3, 0, none⟩)] w fun u w' => u = .float .f64 (toldP (L.getD (l'.getD i 0) 0)) ∧ Chg [] w w' := by
 have hch := crf w;have hat := hM.at_ (j := i) hi;have hat2 : l'[i]?.getD 0 < L.length := by simpa using hat
 have hlen := hM.len;obtain ⟨hb, hf⟩ := hM.r;obtain ⟨⟨al, cl, rfl, hcap, hrl⟩, hWl, hll⟩ := hf;have hi_ := hM.i;refine zE3 Tryz.func114 rfl ?_;refine Sr fun _ kh1 => za rfl (zz (kh1 (zc fun _ kh3 => ?_)));refine CW.regionHC 12 rfl hmix fun kR4 kr4 hS hdr => ?_;have hch := hch.ta hdr;have h1 := h1.keep0 hdr;have h3 := h3.keep0 hdr;have hb := hb.keep0 hdr;have hi_ := hi_.keep0 hdr;have hch_r := hch;have h1_r := h1;have h3_r := h3;have hb_r := hb;have hi__r := hi_;refine wh 0 rfl hS (fun _ hw' => Ev.load rfl rfl ((h1_r.keep0 hw').at_ rfl)) (wh 1 rfl hS (fun _ hw' => Ev.load rfl rfl ((h3_r.keep0 hw').at_ rfl)) (wh 2 rfl hS (eP rfl) (wh 3 rfl hS (eF rfl) (wh 4 rfl hS (fun _ hw' => Ev.load rfl rfl ((hb_r.keep0 hw').at_ rfl)) (wh 5 rfl hS (eM rfl) (wh 6 rfl hS (fun _ _ => Ev.ixB (i) rfl rfl (by omega) (by omega)) (wh 7 rfl hS (fun _ hw' => Ev.load rfl rfl ((hi__r.keep0 hw').i64 (by first | omega | (simp; omega)))) (wh 8 rfl hS (fun _ hw' => Ev.ixR ((l').getD (i) 0) rfl rfl (hrl.keep0 (hch_r.trans hw')) (by omega) (by omega) (by simp; omega)) (wh 9 rfl hS (fun _ hw' => Ev.load rfl rfl ((hrl.keep0 (hch_r.trans hw')).f64 (by first | omega | (simp; omega)))) ?_)))))))));refine WH.oneCall 10 rfl (by kernel_rfl) hasF115 rfl rfl (rankTold_spec _ _) fun v w1 h' => ?_;obtain ⟨rfl, rfl⟩ := h';refine ⟨hS, ?_⟩;refine wh 11 rfl hS (eA rfl) ?_;refine WH.done (by kernel_rfl) (kr4 _ _ _ ?_);refine kh3 ?_;refine zr (zr1 rfl rfl ?_);exact ⟨rfl, hch⟩

theorem eachF_spec (b1 b3 rb ba : Nat) (vL : Value) (L l' : List Nat) (w : World) (h1 : BK w b1 32 [vL]) (h3 : BK w b3 174 [.pointer (some ⟨rb, 0, none⟩)]) (hM : SsM rb ba L.length vL L w l') (hn : L.length ≤ 35184372088832) : Ret Tryz.prog 113 [.int .i64 (L.length : Int), .func (.func 114) #[] #[.pointer (some ⟨b1, 0, none⟩), .pointer (some ⟨b3, 0, none⟩)]] w fun u w' => (∃ b, u = .slice (some ⟨b, 0, none⟩) L.length L.length ∧ FB w' b 31 (l'.map (fun k => toldP (L.getD k 0))) ∧ w.heap.size ≤ b) ∧ Chg [] w w' := by
 have hch := crf w;have hvL := hM.r.f;refine zE2 Tryz.func113 rfl ?_;refine Sr fun _ kh1 => za rfl (zz (kh1 (Sr fun _ kh3 => zm rfl ?_)));refine WL.makeF L.length L.length rfl rfl rfl rfl (Nat.le_refl _) (by omega) (by omega) rfl fun b8 w8 hb8 hcm8 hge8 => ?_;have hch := hch.trans hcm8;have h1 := h1.keep0 hcm8;have h3 := h3.keep0 hcm8;have hM := hM.keep0 hcm8;refine za rfl (zz (kh3 (zc fun _ kh5 => Sr fun _ kh6 => zm rfl (zn rfl (zm rfl (zz (kh6 (CW.block ?_))))))));refine CW.loop (S := fun i : Nat => [(1, .func (.func 114) #[] #[.pointer (some ⟨b1, 0, none⟩), .pointer (some ⟨b3, 0, none⟩)]), (5, .slice (some ⟨b8, 0, none⟩) L.length L.length), (10, .int .i64 (L.length : Int)), (11, .int .i64 (i : Int))]) (Inv := KEf b8 b1 b3 rb ba vL L l' w) (mu := fun i => L.length - i) (0) ?_ ?_ ?_
 ·exact ⟨Nat.zero_le _, by simpa using hb8, h1, h3, hM, hge8, hch⟩
 ·exact SLp
 rintro i wr ⟨hi, hb, h1, h3, hM, hge, hch⟩;have hlM := hM.len;refine Sr fun _ kh8 => zL rfl rfl (zz (kh8 (zc fun _ kh10 => ?_)));refine zy rfl ?_ ?_<;>intro hc1<;>try simp only [qs] at hc1
 ·have hin : i < L.length := by omega
  refine zkk (kh10 (zc fun _ kh11 => CW.block (Sr fun _ kh12 => zm rfl (za rfl (zz (kh12 ?_))))));refine zR fun _ kr14 => ?_;refine zm rfl (zm rfl (zm rfl (zm rfl ?_)));refine WL.callV (cap := [.pointer (some ⟨b1, 0, none⟩), .pointer (some ⟨b3, 0, none⟩)]) hasF114 rfl rfl rfl (rankSort1_spec b1 b3 rb ba i vL L l' _ h1 h3 hM hin) fun v18 w18 h18 => ?_;obtain ⟨rfl, hC⟩ := h18;have hch := hch.trans hC;have h1 := h1.keep0 hC;have h3 := h3.keep0 hC;have hM := hM.keep0 hC;have hb := hb.keep0 hC;refine WL.ev (Ev.ixB (i) rfl rfl (by omega) (by omega)) rfl ?_;skip;refine WL.storeF rfl rfl hb (by rw [List.length_append, List.length_map, List.length_take, List.length_replicate]; omega) fun ws1 hb2 hcs1 => ?_;rw [set_mid hin hlM] at hb2;have hbk : BK _ b8 31 _ := hb;have hn1 := bk_neT hbk h1 (by decide);have hn3 := bk_neT hbk h3 (by decide);have hnr := bk_neT hbk hM.r.b (by decide);have hna := bk_neT hbk hM.i.bk (by decide);have h1 := h1.kq hcs1;have h3 := h3.kq hcs1;have hMf : NF ws1 vL L := hvL.keep0 (hch.step hcs1 (fun y hy => .inr (by rw [List.mem_singleton.1 hy]; exact hge)));have hM : SsM rb ba L.length vL L ws1 l' := ⟨hM.i.keep hcs1 (by simp; omega), ⟨hM.r.b.keep hcs1 (by simp; omega), hMf⟩, hM.len, hM.lt⟩;have hb := hb2;have hch := hch.step hcs1 (fun y hy => .inr (by rw [List.mem_singleton.1 hy]; exact hge));refine WL.nil (kr14 _ _ _ (kh11 ?_));refine zS fun _ kr15 => ?_;(first | refine zi rfl rfl ?_ | refine zo rfl rfl ?_);refine zm rfl (zz (kr15 ?_));refine ⟨rfl, i + 1, ?_, ?_, ?_⟩
  ·exact SLp
  ·exact ⟨by omega, hb, h1, h3, hM, hge, hch⟩
  show L.length - (i + 1) < L.length - i; omega
 have hin : i = L.length := by omega
 subst hin;rw [Nat.sub_self, List.replicate_zero, List.append_nil, ← hlM, List.take_length] at hb;refine CW.exit ?_;refine kh5 (Sr fun _ kh16 => zm rfl (za rfl (zz (kh16 ?_))));refine zr (zr1 rfl rfl ?_);exact ⟨⟨b8, rfl, hb, hge⟩, hch⟩

theorem rankSort_spec (v : Value) (L : List Nat) (w : World) (hv : NF w v L) (hn : L.length ≤ 35184372088832) : Ret Tryz.prog 37 [v] w fun u w' => (∃ b l', u = .slice (some ⟨b, 0, none⟩) L.length L.length ∧ FB w' b 31 (l'.map (fun k => toldP (L.getD k 0))) ∧ l'.Perm (List.range L.length) ∧ So (kL L) l' 0 L.length ∧ w.heap.size ≤ b) ∧ Chg [] w w' := by
 have hch := crf w;have hv0 := hv;have hov := hv.one;obtain ⟨⟨al, cl, rfl, hcap, hrl⟩, hWl, hll⟩ := id hv;refine zE1 Tryz.func37 rfl ?_;refine Sr fun _ kh1 => ?_;refine zBh rfl rfl rfl hch fun b1 wm1 hb1 hcm1 hge1 hgehch1 hch => ?_;refine za rfl (zz (kh1 (Sr fun _ kh3 => zl hb1 rfl rfl ?_)));refine WL.call hasF112 rfl rfl (rankOf_spec _ L _ (hv0.keep0 hch) hn) fun v w1 h' => ?_;obtain ⟨⟨rb, ba, l', rfl, hM, hp, hso, hger⟩, hC⟩ := h';have hch := hch.ta hC;have hb1 := hb1.k0 hC;refine WL.allocB (l := [.pointer none]) rfl rfl fun b3 wm3 hb3 hcm3 hge3 => ?_;have hn13 : b1 ≠ b3 := by have := hb1.lt; omega
 have hge3 := Nat.le_trans hch.size hge3;have hch := hch.trans hcm3;have hb1 := hb1.k0 hcm3;have hM := hM.keep0 hcm3;refine WL.storeC rfl rfl rfl hb3 (by simp) rfl fun ws1 hb3_ hcs1 => ?_;simp only [List.set_cons_zero] at hb3_;have hb1 := hb1.keep hcs1 (by simpa using hn13);have hch2 := hch.step hcs1 (fun y hy => .inr (by rw [List.mem_singleton.1 hy]; exact hge3));have hM : SsM rb ba L.length _ L ws1 l' := ⟨hM.i.keep hcs1 (by rw [List.mem_singleton]; exact bk_neT hM.i.bk hb3 (by decide)), ⟨hM.r.b.keep hcs1 (by rw [List.mem_singleton]; exact bk_neT hM.r.b hb3 (by decide)), hv0.keep0 hch2⟩, hM.len, hM.lt⟩;have hb3 := hb3_;have hch := hch2;refine zz (kh3 (Sr fun _ kh5 => zl hb1 rfl rfl (zn rfl ?_)));refine WL.ev (Ev.makeFuncC rfl rfl) rfl ?_;refine WL.call hasF113 rfl rfl (eachF_spec b1 b3 rb ba _ L l' _ hb1 hb3 hM hn) fun v w2 h' => ?_;obtain ⟨⟨b, rfl, hbf, hgef⟩, hC⟩ := h';have hgef := Nat.le_trans hch.size hgef;refine za rfl (zz (kh5 ?_));refine zr (zr1 rfl rfl ?_);exact ⟨⟨b, l', rfl, hbf, hp, hso, hgef⟩, hch.trans hC⟩

end

end Go.Proofs.YtnbipejaidbihaaGreatDoor