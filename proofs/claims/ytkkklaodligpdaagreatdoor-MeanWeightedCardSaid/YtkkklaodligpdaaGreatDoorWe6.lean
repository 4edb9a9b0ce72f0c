/- Part 6 of what the proof rests on. No condition. -/
import Derived.Test.YtkkklaodligpdaaGreatDoorWe5
import GoSem.Core.Float
set_option linter.unusedVariables false
set_option linter.unusedSimpArgs false
/- Reference of layer 3: Add, Mul, Against. No condition. -/
namespace Go.Proofs.YtkkklaodligpdaaGreatDoor
open Go Sx Wd

theorem mulD_form {x y : Dy} (hx : x.ok) (hy : y.ok) : formD (x.neg != y.neg) (x.m * y.m) (x.e + y.e) = mulD x y := by
  unfold mulD
  split
  · rename_i h
    have h0 : x.m * y.m ≠ 0 := fun e => by rw [e, wd_zero] at h; simp at h
    have h1 : x.m ≠ 0 := fun e => h0 (by rw [e, Nat.zero_mul])
    have h2 : y.m ≠ 0 := fun e => h0 (by rw [e, Nat.mul_zero])
    have ho : x.m * y.m % 2 = 1 := by rw [Nat.mul_mod, hx.odd h1, hy.odd h2]
    have ht := tz_odd ho
    exact formD_none h0 (by rw [ht, Nat.pow_zero, Nat.div_one]; omega)
  · rfl
theorem up_len_gen {m k a b : Nat} (hm : (wd m).length ≤ a) (hk : k ≤ 32 * b) : (wd (m * 2 ^ k)).length ≤ a + b := by
  refine wd_length_le.2 ?_
  have h1 := wd_length_le.1 hm
  have h2 : 2 ^ k ≤ 2 ^ (32 * b) := Nat.pow_le_pow_right (by decide) hk
  refine Nat.lt_of_lt_of_le (Nat.mul_lt_mul_of_lt_of_le h1 h2 (Nat.two_pow_pos _)) ?_
  rw [← Nat.pow_add, ← Nat.mul_add]
  exact Nat.le_refl _
theorem sum_len_gen {p q a : Nat} (hp : (wd p).length ≤ a) (hq : (wd q).length ≤ a) : (wd (p + q)).length ≤ a + 1 := by
  refine wd_length_le.2 ?_
  have h1 := wd_length_le.1 hp
  have h2 := wd_length_le.1 hq
  rw [two32]
  generalize 2 ^ (32 * a) = z at *
  omega
theorem mul_len {x y a b : Nat} (hx : (wd x).length ≤ a) (hy : (wd y).length ≤ b) : (wd (x * y)).length ≤ a + b := by
  refine wd_length_le.2 ?_
  rw [Nat.mul_add, Nat.pow_add]
  exact Nat.mul_lt_mul_of_lt_of_lt (wd_length_le.1 hx) (wd_length_le.1 hy)
theorem up_len {m k : Nat} (hm : (wd m).length ≤ 8192) (hk : k ≤ 4194304) : (wd (m * 2 ^ k)).length ≤ 139264 := up_len_gen hm (b := 131072) (by omega)
theorem sum_len {p q : Nat} (hp : (wd p).length ≤ 8192) (hq : (wd q).length ≤ 8192) : (wd (p + q)).length ≤ 8193 := sum_len_gen hp hq

set_option maxRecDepth 8000 in
set_option maxHeartbeats 1000000 in
theorem r3Add_spec (na nb : Bool) (va vb : Value) (la lb : List Nat) (ea eb : Int) (w : World) (ha : NU w va la) (hb : NU w vb lb) (hea : -9223372036854775808 ≤ ea ∧ ea ≤ 9223372036854775807) (heb : -9223372036854775808 ≤ eb ∧ eb ≤ 9223372036854775807) (hla : la.length ≤ 34359738368) (hlb : lb.length ≤ 34359738368) : Ret Tryz.prog 59 [.agg [.bool na, va, .int .i64 ea].toArray, .agg [.bool nb, vb, .int .i64 eb].toArray] w fun u w' => DR w' u (both2 addD (formD na (val la) ea) (formD nb (val lb) eb)) ∧ Chg [] w w' := by
 have hch : Chg [] w w := Chg.refl _ _
 have hoa := ha.one
 have hob := hb.one
 refine Ret.enter Tryz.func59 rfl rfl ?_
 simp only [args0, Nat.zero_add, Nat.reduceAdd]
 refine Sq fun _ kh1 _ kr2 => ?_
 refine WL.boxB rfl rfl rfl fun b2 wm2 hb2 hcm2 hge2 => ?_
 have hgehch2 := Nat.le_trans hch.size hge2
 have hch := hch.trans (Chg.any hcm2)
 have ha := ha.keep0 hcm2
 have hb := hb.keep0 hcm2
 refine WL.boxB rfl rfl rfl fun b3 wm3 hb3 hcm3 hge3 => ?_
 have hgehch3 := Nat.le_trans hch.size hge3
 have hch := hch.trans (Chg.any hcm3)
 have ha := ha.keep0 hcm3
 have hb := hb.keep0 hcm3
 have hneb23 : b2 ≠ b3 := by have := hb2.lt; omega
 have hb2 := hb2.keep0 hcm3
 refine WL.allocB (l := [.bool false, .slice none 0 0, .int .i64 0]) rfl rfl fun b4 wm4 hb4 hcm4 hge4 => ?_
 have hgehch4 := Nat.le_trans hch.size hge4
 have hch := hch.trans (Chg.any hcm4)
 have ha := ha.keep0 hcm4
 have hb := hb.keep0 hcm4
 have hneb24 : b2 ≠ b4 := by have := hb2.lt; omega
 have hb2 := hb2.keep0 hcm4
 have hneb34 : b3 ≠ b4 := by have := hb3.lt; omega
 have hb3 := hb3.keep0 hcm4
 refine As rfl rfl ?_
 refine WL.nil (kr2 _ _ _ (kh1 _ _ _ ?_))
 refine Sq fun _ kh3 _ kr4 => ?_
 refine WL.ev (Ev.loadA rfl rfl hb2 rfl) rfl ?_
 refine WL.call hasF67 rfl rfl (r3Made_spec na va la ea _ ha hea hla) fun v w1 h' => ?_
 obtain ⟨hD1, hC1⟩ := h'
 have hch := hch.trans (Chg.any hC1)
 have hb2 := hb2.keep0 hC1
 have hb3 := hb3.keep0 hC1
 have hb4 := hb4.keep0 hC1
 have ha := ha.keep0 hC1
 have hb := hb.keep0 hC1
 rcases hD1 with ⟨r1, d1, hd1, rfl, hNr1⟩ | ⟨hd1, rfl⟩
 ·
  have hok1 := formD_ok hd1
  have he1 := hok1.e
  have hl1 := hok1.len
  obtain ⟨⟨a1, c1, rfl, hcap1, hr1⟩, hW1, hl1⟩ := hNr1
  have hNr1 : NU _ (.slice a1 (wd d1.m).length c1) (wd d1.m) := NU.of_row hr1 hW1 hl1 rfl hcap1
  have hw1 : (wd d1.m).length = 0 ↔ d1.m = 0 := by rw [List.length_eq_zero_iff, wd_eq_nil]
  refine Mv rfl rfl ?_
  refine WL.ev (Ev.extract rfl rfl) rfl ?_
  refine WL.ev (Ev.extract rfl rfl) rfl ?_
  refine WL.allocB (l := [.bool false, .slice none 0 0, .int .i64 0]) rfl rfl fun b6 wm6 hb6 hcm6 hge6 => ?_
  have hgehch6 := Nat.le_trans hch.size hge6
  have hch := hch.trans (Chg.any hcm6)
  have ha := ha.keep0 hcm6
  have hb := hb.keep0 hcm6
  have hNr1 := hNr1.keep0 hcm6
  have hneb26 : b2 ≠ b6 := by have := hb2.lt; omega
  have hb2 := hb2.keep0 hcm6
  have hneb36 : b3 ≠ b6 := by have := hb3.lt; omega
  have hb3 := hb3.keep0 hcm6
  have hneb46 : b4 ≠ b6 := by have := hb4.lt; omega
  have hb4 := hb4.keep0 hcm6
  refine WL.storeB rfl rfl rfl ao hb6 (by simp) rfl fun ws27 hb6_ hcs27 => ?_
  try simp only [Sx.splice, qt] at hb6_
  have hch := hch.s1 hcs27
  have hb2 := hb2.keep hcs27 (by simp; omega)
  have hb3 := hb3.keep hcs27 (by simp; omega)
  have hb4 := hb4.keep hcs27 (by simp; omega)
  have ha := ha.keepBK hb6 hcs27 an
  have hb := hb.keepBK hb6 hcs27 an
  have hNr1 := hNr1.keepBK hb6 hcs27 an
  have hb6 := hb6_
  refine As rfl rfl ?_
  refine WL.nil (kr4 _ _ _ (kh3 _ _ _ ?_))
  refine Sq fun _ kh5 _ kr6 => ?_
  refine WL.ev (Ev.loadA rfl rfl hb3 rfl) rfl ?_
  refine WL.call hasF67 rfl rfl (r3Made_spec nb vb lb eb _ hb heb hlb) fun v w2 h' => ?_
  obtain ⟨hD2, hC2⟩ := h'
  have hch := hch.trans (Chg.any hC2)
  have hb2 := hb2.keep0 hC2
  have hb3 := hb3.keep0 hC2
  have hb4 := hb4.keep0 hC2
  have hb6 := hb6.keep0 hC2
  have ha := ha.keep0 hC2
  have hb := hb.keep0 hC2
  have hNr1 := hNr1.keep0 hC2
  rcases hD2 with ⟨r2, d2, hd2, rfl, hNr2⟩ | ⟨hd2, rfl⟩
  ·
   have hok2 := formD_ok hd2
   have he2 := hok2.e
   have hl2 := hok2.len
   obtain ⟨⟨a2, c2, rfl, hcap2, hr2⟩, hW2, hl2⟩ := hNr2
   have hNr2 : NU _ (.slice a2 (wd d2.m).length c2) (wd d2.m) := NU.of_row hr2 hW2 hl2 rfl hcap2
   have hw2 : (wd d2.m).length = 0 ↔ d2.m = 0 := by rw [List.length_eq_zero_iff, wd_eq_nil]
   refine Mv rfl rfl ?_
   refine WL.ev (Ev.extract rfl rfl) rfl ?_
   refine WL.ev (Ev.extract rfl rfl) rfl ?_
   refine WL.allocB (l := [.bool false, .slice none 0 0, .int .i64 0]) rfl rfl fun b8 wm8 hb8 hcm8 hge8 => ?_
   have hgehch8 := Nat.le_trans hch.size hge8
   have hch := hch.trans (Chg.any hcm8)
   have ha := ha.keep0 hcm8
   have hb := hb.keep0 hcm8
   have hNr1 := hNr1.keep0 hcm8
   have hNr2 := hNr2.keep0 hcm8
   have hneb28 : b2 ≠ b8 := by have := hb2.lt; omega
   have hb2 := hb2.keep0 hcm8
   have hneb38 : b3 ≠ b8 := by have := hb3.lt; omega
   have hb3 := hb3.keep0 hcm8
   have hneb48 : b4 ≠ b8 := by have := hb4.lt; omega
   have hb4 := hb4.keep0 hcm8
   have hneb68 : b6 ≠ b8 := by have := hb6.lt; omega
   have hb6 := hb6.keep0 hcm8
   refine WL.storeB rfl rfl rfl ao hb8 (by simp) rfl fun ws28 hb8_ hcs28 => ?_
   try simp only [Sx.splice, qt] at hb8_
   have hch := hch.s1 hcs28
   have hb2 := hb2.keep hcs28 (by simp; omega)
   have hb3 := hb3.keep hcs28 (by simp; omega)
   have hb4 := hb4.keep hcs28 (by simp; omega)
   have hb6 := hb6.keep hcs28 (by simp; omega)
   have ha := ha.keepBK hb8 hcs28 an
   have hb := hb.keepBK hb8 hcs28 an
   have hNr1 := hNr1.keepBK hb8 hcs28 an
   have hNr2 := hNr2.keepBK hb8 hcs28 an
   have hb8 := hb8_
   refine As rfl rfl ?_
   refine WL.nil (kr6 _ _ _ (kh5 _ _ _ ?_))
   refine CW.seq fun _ kh7 => ?_
   refine Sq fun _ kh8 _ kr9 => ?_
   refine Mv rfl rfl ?_
   refine WL.ev (Ev.not rfl) rfl ?_
   refine Mv rfl rfl ?_
   refine WL.want rfl rfl rfl rfl ?_
   refine Mv rfl rfl ?_
   refine WL.want rfl rfl rfl rfl ?_
   refine WL.ev (Ev.not rfl) rfl ?_
   refine WL.ev (Ev.pickF rfl rfl rfl) rfl ?_
   refine WL.nil (kr9 _ _ _ (kh8 _ _ _ ?_))
   refine CW.condF rfl ?_
   refine CW.skip ?_
   refine kh7 _ _ _ ?_
   refine CW.seq fun _ kh10 => ?_
   refine Sq fun _ kh11 _ kr12 => ?_
   refine WL.ev (Ev.fieldAddr rfl) rfl ?_
   refine WL.ev (Ev.load rfl rfl (hb6.at_ rfl)) rfl ?_
   refine WL.ev (Ev.len rfl) rfl ?_
   refine WL.ev (Ev.eql rfl rfl) rfl ?_
   refine WL.nil (kr12 _ _ _ (kh11 _ _ _ ?_))
   refine CW.cond rfl (fun hc1 => ?_) (fun hc1 => ?_)
   ·
    try simp only [qs] at hc1
    have h01 : d1.m = 0 := by omega
    refine Sq fun _ kh13 _ kr14 => ?_
    refine WL.ev (Ev.loadA rfl rfl hb8 rfl) rfl ?_
    refine WL.storeB rfl rfl rfl ao hb4 (by simp) rfl fun ws29 hb4_ hcs29 => ?_
    try simp only [Sx.splice, qt] at hb4_
    have hch := hch.s1 hcs29
    have hb2 := hb2.keep hcs29 (by simp; omega)
    have hb3 := hb3.keep hcs29 (by simp; omega)
    have hb6 := hb6.keep hcs29 (by simp; omega)
    have hb8 := hb8.keep hcs29 (by simp; omega)
    have ha := ha.keepBK hb4 hcs29 an
    have hb := hb.keepBK hb4 hcs29 an
    have hNr1 := hNr1.keepBK hb4 hcs29 an
    have hNr2 := hNr2.keepBK hb4 hcs29 an
    have hb4 := hb4_
    refine As rfl rfl ?_
    refine WL.nil (kr14 _ _ _ (kh13 _ _ _ ?_))
    refine CW.ret ?_
    refine bodyA.retR2 rfl (RVal.cell rfl (hb4.varA rfl rfl)) (RVal.tmp rfl) ?_
    rw [hd1, hd2]
    exact ⟨.inl ⟨_, d2, by show addD d1 d2 = _; unfold addD; rw [if_pos h01], rfl, hNr2⟩, hch⟩
   ·
    try simp only [qs] at hc1
    have h01 : d1.m ≠ 0 := by omega
    refine CW.skip ?_
    refine kh10 _ _ _ ?_
    refine CW.seq fun _ kh15 => ?_
    refine Sq fun _ kh16 _ kr17 => ?_
    refine WL.ev (Ev.fieldAddr rfl) rfl ?_
    refine WL.ev (Ev.load rfl rfl (hb8.at_ rfl)) rfl ?_
    refine WL.ev (Ev.len rfl) rfl ?_
    refine WL.ev (Ev.eql rfl rfl) rfl ?_
    refine WL.nil (kr17 _ _ _ (kh16 _ _ _ ?_))
    refine CW.cond rfl (fun hc2 => ?_) (fun hc2 => ?_)
    ·
     try simp only [qs] at hc2
     have h02 : d2.m = 0 := by omega
     refine Sq fun _ kh18 _ kr19 => ?_
     refine WL.ev (Ev.loadA rfl rfl hb6 rfl) rfl ?_
     refine WL.storeB rfl rfl rfl ao hb4 (by simp) rfl fun ws30 hb4_ hcs30 => ?_
     try simp only [Sx.splice, qt] at hb4_
     have hch := hch.s1 hcs30
     have hb2 := hb2.keep hcs30 (by simp; omega)
     have hb3 := hb3.keep hcs30 (by simp; omega)
     have hb6 := hb6.keep hcs30 (by simp; omega)
     have hb8 := hb8.keep hcs30 (by simp; omega)
     have ha := ha.keepBK hb4 hcs30 an
     have hb := hb.keepBK hb4 hcs30 an
     have hNr1 := hNr1.keepBK hb4 hcs30 an
     have hNr2 := hNr2.keepBK hb4 hcs30 an
     have hb4 := hb4_
     refine As rfl rfl ?_
     refine WL.nil (kr19 _ _ _ (kh18 _ _ _ ?_))
     refine CW.ret ?_
     refine bodyA.retR2 rfl (RVal.cell rfl (hb4.varA rfl rfl)) (RVal.tmp rfl) ?_
     rw [hd1, hd2]
     exact ⟨.inl ⟨_, d1, by show addD d1 d2 = _; unfold addD; rw [if_neg h01, if_pos h02], rfl, hNr1⟩, hch⟩
    ·
     try simp only [qs] at hc2
     have h02 : d2.m ≠ 0 := by omega
     obtain ⟨k1, hk1⟩ : ∃ k : Nat, (k : Int) = d1.e - min d1.e d2.e := ⟨(d1.e - min d1.e d2.e).toNat, by omega⟩
     obtain ⟨k2, hk2⟩ : ∃ k : Nat, (k : Int) = d2.e - min d1.e d2.e := ⟨(d2.e - min d1.e d2.e).toNat, by omega⟩
     refine CW.skip ?_
     refine kh15 _ _ _ ?_
     refine Sq fun _ kh20 _ kr21 => ?_
     refine WL.ev (Ev.fieldAddr rfl) rfl ?_
     refine WL.ev (Ev.load rfl rfl (hb6.at_ rfl)) rfl ?_
     refine WL.ev (Ev.fieldAddr rfl) rfl ?_
     refine WL.ev (Ev.load rfl rfl (hb8.at_ rfl)) rfl ?_
     refine WL.ev (Ev.minI rfl rfl) rfl ?_
     refine As rfl rfl ?_
     refine WL.nil (kr21 _ _ _ (kh20 _ _ _ ?_))
     refine Sq fun _ kh22 _ kr23 => ?_
     refine WL.ev (Ev.fieldAddr rfl) rfl ?_
     refine WL.ev (Ev.load rfl rfl (hb6.at_ rfl)) rfl ?_
     refine WL.ev (Ev.fieldAddr rfl) rfl ?_
     refine WL.ev (Ev.load rfl rfl (hb6.at_ rfl)) rfl ?_
     refine Mv rfl rfl ?_
     refine WL.ev (Ev.subIn rfl rfl (by omega)) rfl ?_
     rw [← hk1]
     refine WL.call hasF115 rfl rfl (r2MovedUp_spec _ _ _ hNr1 k1 (by omega) (by omega)) fun v w3 h' => ?_
     obtain ⟨hNp, hC, hFrp⟩ := h'
     rw [val_wd] at hNp
     obtain ⟨p, hp⟩ : ∃ p, p = d1.m * 2 ^ k1 := ⟨_, rfl⟩
     rw [← hp] at hNp
     have hlp := up_len hok1.len (k := k1) (by omega)
     rw [← hp] at hlp
     have hNpd := hNp
     obtain ⟨⟨ap, cp, rfl, hcapp, hrp⟩, hWp, hllp⟩ := hNpd
     have hch := hch.trans (Chg.any hC)
     have hb2 := hb2.keep0 hC
     have hb3 := hb3.keep0 hC
     have hb4 := hb4.keep0 hC
     have hb6 := hb6.keep0 hC
     have hb8 := hb8.keep0 hC
     have ha := ha.keep0 hC
     have hb := hb.keep0 hC
     have hNr1 := hNr1.keep0 hC
     have hNr2 := hNr2.keep0 hC
     refine As rfl rfl ?_
     refine WL.nil (kr23 _ _ _ (kh22 _ _ _ ?_))
     refine Sq fun _ kh24 _ kr25 => ?_
     refine WL.ev (Ev.fieldAddr rfl) rfl ?_
     refine WL.ev (Ev.load rfl rfl (hb8.at_ rfl)) rfl ?_
     refine WL.ev (Ev.fieldAddr rfl) rfl ?_
     refine WL.ev (Ev.load rfl rfl (hb8.at_ rfl)) rfl ?_
     refine Mv rfl rfl ?_
     refine WL.ev (Ev.subIn rfl rfl (by omega)) rfl ?_
     rw [← hk2]
     refine WL.call hasF115 rfl rfl (r2MovedUp_spec _ _ _ hNr2 k2 (by omega) (by omega)) fun v w4 h' => ?_
     obtain ⟨hNq, hC, hFrq⟩ := h'
     rw [val_wd] at hNq
     obtain ⟨q, hq⟩ : ∃ q, q = d2.m * 2 ^ k2 := ⟨_, rfl⟩
     rw [← hq] at hNq
     have hlq := up_len hok2.len (k := k2) (by omega)
     rw [← hq] at hlq
     have hNqd := hNq
     obtain ⟨⟨aq, cq, rfl, hcapq, hrq⟩, hWq, hllq⟩ := hNqd
     have hch := hch.trans (Chg.any hC)
     have hb2 := hb2.keep0 hC
     have hb3 := hb3.keep0 hC
     have hb4 := hb4.keep0 hC
     have hb6 := hb6.keep0 hC
     have hb8 := hb8.keep0 hC
     have ha := ha.keep0 hC
     have hb := hb.keep0 hC
     have hNr1 := hNr1.keep0 hC
     have hNr2 := hNr2.keep0 hC
     have hNp := hNp.keep0 hC
     refine As rfl rfl ?_
     refine WL.nil (kr25 _ _ _ (kh24 _ _ _ ?_))
     refine CW.seq fun _ kh26 => ?_
     refine CW.seqM 66 (decide (8192 < (wd p).length ∨ 8192 < (wd q).length)) ?_ ?_
     ·
      refine CW.region fun kR27 kr27 => ?_
      refine Mv rfl rfl ?_
      refine WL.ev (Ev.len rfl) rfl ?_
      refine WL.ev (Ev.gtr rfl rfl) rfl ?_
      refine Mv rfl rfl ?_
      refine WL.boolCase (fun hg3 => ?_) (fun hg3 => ?_)
      ·
       try simp only [qs] at hg3
       refine WL.pass rfl rfl rfl rfl rfl ?_
       refine WL.pass rfl rfl rfl rfl rfl ?_
       refine WL.pass rfl rfl rfl rfl rfl ?_
       refine WL.ev (Ev.pickT rfl rfl rfl) rfl ?_
       refine WL.nil (kr27 _ _ _ ?_)
       refine ⟨rfl, rfl, Subs.consB rfl ?_ ?_⟩
       ·
        first | (simp; omega) | (simp_all; done) | (refine decide_eq_decide.2 ?_; omega)
       ·
        first | ((repeat (first | exact Subs.refl | refine Subs.drop1 (by rfl) ?_)); done) | ((repeat (first | exact Subs.nil | refine Subs.cons rfl ?_)); done)
      ·
       try simp only [qs] at hg3
       refine WL.want rfl rfl rfl rfl ?_
       refine Mv rfl rfl ?_
       refine WL.want rfl rfl rfl rfl ?_
       refine WL.ev (Ev.len rfl) rfl ?_
       refine WL.want rfl rfl rfl rfl ?_
       refine WL.ev (Ev.gtr rfl rfl) rfl ?_
       refine WL.ev (Ev.pickF rfl rfl rfl) rfl ?_
       refine WL.nil (kr27 _ _ _ ?_)
       refine ⟨rfl, rfl, Subs.consB rfl ?_ ?_⟩
       ·
        first | (simp; omega) | (simp_all; done) | (refine decide_eq_decide.2 ?_; omega)
       ·
        first | ((repeat (first | exact Subs.refl | refine Subs.drop1 (by rfl) ?_)); done) | ((repeat (first | exact Subs.nil | refine Subs.cons rfl ?_)); done)
     ·
      have hpq1 : p = d1.m * 2 ^ (d1.e - min d1.e d2.e).toNat := by rw [hp, ← hk1]; rfl
      have hpq2 : q = d2.m * 2 ^ (d2.e - min d1.e d2.e).toNat := by rw [hq, ← hk2]; rfl
      refine CW.cond rfl (fun hc4 => ?_) (fun hc4 => ?_)
      ·
       try simp only [qs] at hc4
       have hlong := hc4
       refine Sq fun _ kh28 _ kr29 => ?_
       refine WL.ev (Ev.build (vs := _) (cs := [_, _, _]) rfl rfl) rfl ?_
       refine WL.storeB rfl rfl rfl ao hb4 (by simp) rfl fun ws31 hb4_ hcs31 => ?_
       try simp only [Sx.splice, qt] at hb4_
       have hch := hch.s1 hcs31
       have hb2 := hb2.keep hcs31 (by simp; omega)
       have hb3 := hb3.keep hcs31 (by simp; omega)
       have hb6 := hb6.keep hcs31 (by simp; omega)
       have hb8 := hb8.keep hcs31 (by simp; omega)
       have ha := ha.keepBK hb4 hcs31 an
       have hb := hb.keepBK hb4 hcs31 an
       have hNr1 := hNr1.keepBK hb4 hcs31 an
       have hNr2 := hNr2.keepBK hb4 hcs31 an
       have hNp := hNp.keepBK hb4 hcs31 an
       have hNq := hNq.keepBK hb4 hcs31 an
       have hb4 := hb4_
       refine As rfl rfl ?_
       refine WL.nil (kr29 _ _ _ (kh28 _ _ _ ?_))
       refine CW.ret ?_
       refine bodyA.retR2 rfl (RVal.cell rfl (hb4.varA rfl rfl)) (RVal.tmp rfl) ?_
       rw [hd1, hd2]
       exact ⟨.inr ⟨by show addD d1 d2 = _; rw [addD_eq h01 h02 hpq1 hpq2, if_pos hlong], rfl⟩, hch⟩
      ·
       try simp only [qs] at hc4
       have hnl : ¬ (8192 < (wd p).length ∨ 8192 < (wd q).length) := hc4
       have hsl := sum_len (p := p) (q := q) (by omega) (by omega)
       refine CW.skip ?_
       refine kh26 _ _ _ ?_
       refine CW.seq fun _ kh30 => ?_
       refine Sq fun _ kh31 _ kr32 => ?_
       refine WL.ev (Ev.fieldAddr rfl) rfl ?_
       refine WL.ev (Ev.load rfl rfl (hb6.at_ rfl)) rfl ?_
       refine WL.ev (Ev.fieldAddr rfl) rfl ?_
       refine WL.ev (Ev.load rfl rfl (hb8.at_ rfl)) rfl ?_
       refine WL.ev (Ev.eql_bool rfl rfl) rfl ?_
       refine WL.nil (kr32 _ _ _ (kh31 _ _ _ ?_))
       refine CW.cond rfl (fun hc5 => ?_) (fun hc5 => ?_)
       ·
        try simp only [qs] at hc5
        have hsg : d1.neg = d2.neg := by simpa using hc5
        refine CW.seq fun _ kh33 => ?_
        refine CW.regionKC 9 11 rfl hmix fun kR34 kr34 hS hdr => ?_
        have hch := hch.trans (Chg.any hdr)
        have hb2 := hb2.keep0 hdr
        have hb3 := hb3.keep0 hdr
        have hb4 := hb4.keep0 hdr
        have hb6 := hb6.keep0 hdr
        have hb8 := hb8.keep0 hdr
        have ha := ha.keep0 hdr
        have hb := hb.keep0 hdr
        have hNr1 := hNr1.keep0 hdr
        have hNr2 := hNr2.keep0 hdr
        have hNp := hNp.keep0 hdr
        have hNq := hNq.keep0 hdr
        have hch_r := hch
        have hb2_r := hb2
        have hb3_r := hb3
        have hb4_r := hb4
        have hb6_r := hb6
        have hb8_r := hb8
        refine WK.take 0 rfl (by kernel_rfl) (by kernel_rfl) (by kernel_rfl) (by kernel_rfl) (by kernel_rfl) (by kernel_rfl) hS (fun w' hw' => Ev.fieldAddr rfl) rfl ?_
        refine WK.take 1 rfl (by kernel_rfl) (by kernel_rfl) (by kernel_rfl) (by kernel_rfl) (by kernel_rfl) (by kernel_rfl) hS (fun w' hw' => Ev.load rfl rfl ((hb6_r.keep0 hw').at_ rfl)) rfl ?_
        refine WK.take 2 rfl (by kernel_rfl) (by kernel_rfl) (by kernel_rfl) (by kernel_rfl) (by kernel_rfl) (by kernel_rfl) hS (fun w' hw' => Ev.move rfl) rfl ?_
        refine WK.take 3 rfl (by kernel_rfl) (by kernel_rfl) (by kernel_rfl) (by kernel_rfl) (by kernel_rfl) (by kernel_rfl) hS (fun w' hw' => Ev.move rfl) rfl ?_
        refine WK.take 5 rfl (by kernel_rfl) (by kernel_rfl) (by kernel_rfl) (by kernel_rfl) (by kernel_rfl) (by kernel_rfl) hS (fun w' hw' => Ev.move rfl) rfl ?_
        refine WK.oneCall 4 rfl (by kernel_rfl) hasF116 rfl rfl (r2Plus_spec _ _ _ _ _ hNp hNq (by omega) (by omega)) fun v w5 h' => ?_
        obtain ⟨hNs, hC, hFs⟩ := h'
        rw [val_wd, val_wd] at hNs
        have hch := hch.trans (Chg.any hC)
        have hb2 := hb2.keep0 hC
        have hb3 := hb3.keep0 hC
        have hb4 := hb4.keep0 hC
        have hb6 := hb6.keep0 hC
        have hb8 := hb8.keep0 hC
        have ha := ha.keep0 hC
        have hb := hb.keep0 hC
        have hNr1 := hNr1.keep0 hC
        have hNr2 := hNr2.keep0 hC
        have hNp := hNp.keep0 hC
        have hNq := hNq.keep0 hC
        have hS := hS.trans hC
        refine ⟨hS, ?_⟩
        refine WK.oneCall 6 rfl (by kernel_rfl) hasF113 rfl rfl (r3told_spec _ _ _ _ _ hNs (by omega) (by omega)) fun v w6 h' => ?_
        obtain ⟨hD3, hC3⟩ := h'
        rw [val_wd] at hD3
        have hch := hch.trans (Chg.any hC3)
        have hb2 := hb2.keep0 hC3
        have hb3 := hb3.keep0 hC3
        have hb4 := hb4.keep0 hC3
        have hb6 := hb6.keep0 hC3
        have hb8 := hb8.keep0 hC3
        have ha := ha.keep0 hC3
        have hb := hb.keep0 hC3
        have hNr1 := hNr1.keep0 hC3
        have hNr2 := hNr2.keep0 hC3
        have hNp := hNp.keep0 hC3
        have hNq := hNq.keep0 hC3
        have hNs := hNs.keep0 hC3
        have hS := hS.trans hC3
        refine ⟨hS, ?_⟩
        rcases hD3 with ⟨r, d, hd, rfl, hNr⟩ | ⟨hd, rfl⟩
        ·
         refine WK.take 7 rfl (by kernel_rfl) (by kernel_rfl) (by kernel_rfl) (by kernel_rfl) (by kernel_rfl) (by kernel_rfl) hS (fun w' hw' => Ev.extract rfl rfl) rfl ?_
         refine WK.take 8 rfl (by kernel_rfl) (by kernel_rfl) (by kernel_rfl) (by kernel_rfl) (by kernel_rfl) (by kernel_rfl) hS (fun w' hw' => Ev.extract rfl rfl) rfl ?_
         refine WK.storeB 9 rfl (by kernel_rfl) (by kernel_rfl) rfl rfl rfl ao hb4 (by simp) rfl fun ws32 hb4_ hcs32 => ?_
         try simp only [Sx.splice, qt] at hb4_
         have hch := hch.s1 hcs32
         have hb2 := hb2.keep hcs32 (by simp; omega)
         have hb3 := hb3.keep hcs32 (by simp; omega)
         have hb6 := hb6.keep hcs32 (by simp; omega)
         have hb8 := hb8.keep hcs32 (by simp; omega)
         have ha := ha.keepBK hb4 hcs32 an
         have hb := hb.keepBK hb4 hcs32 an
         have hNr1 := hNr1.keepBK hb4 hcs32 an
         have hNr2 := hNr2.keepBK hb4 hcs32 an
         have hNp := hNp.keepBK hb4 hcs32 an
         have hNq := hNq.keepBK hb4 hcs32 an
         have hNs := hNs.keepBK hb4 hcs32 an
         have hNr := hNr.keepBK hb4 hcs32 an
         have hb4 := hb4_
         refine WK.after 10 rfl (by kernel_rfl) (by kernel_rfl) (Ev.assign rfl) rfl ?_
         refine WK.done (by kernel_rfl) (kr34 _ _ _ ?_)
         refine kh33 _ _ _ ?_
         refine CW.ret ?_
         refine bodyA.retR2 rfl (RVal.cell rfl (hb4.varA rfl rfl)) (RVal.tmp rfl) ?_
         rw [hd1, hd2]
         exact ⟨.inl ⟨r, d, by show addD d1 d2 = _; rw [addD_eq h01 h02 hpq1 hpq2, if_neg hnl, if_pos hsg]; exact hd, rfl, hNr⟩, hch⟩
        ·
         refine WK.take 7 rfl (by kernel_rfl) (by kernel_rfl) (by kernel_rfl) (by kernel_rfl) (by kernel_rfl) (by kernel_rfl) hS (fun w' hw' => Ev.extract rfl rfl) rfl ?_
         refine WK.take 8 rfl (by kernel_rfl) (by kernel_rfl) (by kernel_rfl) (by kernel_rfl) (by kernel_rfl) (by kernel_rfl) hS (fun w' hw' => Ev.extract rfl rfl) rfl ?_
         refine WK.storeB 9 rfl (by kernel_rfl) (by kernel_rfl) rfl rfl rfl ao hb4 (by simp) rfl fun ws33 hb4_ hcs33 => ?_
         try simp only [Sx.splice, qt] at hb4_
         have hch := hch.s1 hcs33
         have hb2 := hb2.keep hcs33 (by simp; omega)
         have hb3 := hb3.keep hcs33 (by simp; omega)
         have hb6 := hb6.keep hcs33 (by simp; omega)
         have hb8 := hb8.keep hcs33 (by simp; omega)
         have ha := ha.keepBK hb4 hcs33 an
         have hb := hb.keepBK hb4 hcs33 an
         have hNr1 := hNr1.keepBK hb4 hcs33 an
         have hNr2 := hNr2.keepBK hb4 hcs33 an
         have hNp := hNp.keepBK hb4 hcs33 an
         have hNq := hNq.keepBK hb4 hcs33 an
         have hNs := hNs.keepBK hb4 hcs33 an
         have hb4 := hb4_
         refine WK.after 10 rfl (by kernel_rfl) (by kernel_rfl) (Ev.assign rfl) rfl ?_
         refine WK.done (by kernel_rfl) (kr34 _ _ _ ?_)
         refine kh33 _ _ _ ?_
         refine CW.ret ?_
         refine bodyA.retR2 rfl (RVal.cell rfl (hb4.varA rfl rfl)) (RVal.tmp rfl) ?_
         rw [hd1, hd2]
         exact ⟨.inr ⟨by show addD d1 d2 = _; rw [addD_eq h01 h02 hpq1 hpq2, if_neg hnl, if_pos hsg]; exact hd, rfl⟩, hch⟩
       ·
        try simp only [qs] at hc5
        have hsg : d1.neg ≠ d2.neg := by simpa using hc5
        refine CW.skip ?_
        refine kh30 _ _ _ ?_
        refine CW.seq fun _ kh35 => ?_
        refine Sq fun _ kh36 _ kr37 => ?_
        refine Mv rfl rfl ?_
        refine Mv rfl rfl ?_
        refine WL.call hasF117 rfl rfl (r2Cmp_spec _ _ _ _ _ hNp hNq) fun v w7 h' => ?_
        obtain ⟨rfl, hC⟩ := h'
        rw [val_wd, val_wd]
        have hch := hch.trans (Chg.any hC)
        have hb2 := hb2.keep0 hC
        have hb3 := hb3.keep0 hC
        have hb4 := hb4.keep0 hC
        have hb6 := hb6.keep0 hC
        have hb8 := hb8.keep0 hC
        have ha := ha.keep0 hC
        have hb := hb.keep0 hC
        have hNr1 := hNr1.keep0 hC
        have hNr2 := hNr2.keep0 hC
        have hNp := hNp.keep0 hC
        have hNq := hNq.keep0 hC
        refine WL.ev (Ev.geq rfl rfl) rfl ?_
        refine WL.nil (kr37 _ _ _ (kh36 _ _ _ ?_))
        refine CW.cond rfl (fun hc6 => ?_) (fun hc6 => ?_)
        ·
         try simp only [qs] at hc6
         have hge : q ≤ p := sgn_ge.1 hc6
         have hml := wd_length_mono (Nat.sub_le p q)
         refine CW.seq fun _ kh38 => ?_
         refine CW.regionKC 9 11 rfl hmix fun kR39 kr39 hS hdr => ?_
         have hch := hch.trans (Chg.any hdr)
         have hb2 := hb2.keep0 hdr
         have hb3 := hb3.keep0 hdr
         have hb4 := hb4.keep0 hdr
         have hb6 := hb6.keep0 hdr
         have hb8 := hb8.keep0 hdr
         have ha := ha.keep0 hdr
         have hb := hb.keep0 hdr
         have hNr1 := hNr1.keep0 hdr
         have hNr2 := hNr2.keep0 hdr
         have hNp := hNp.keep0 hdr
         have hNq := hNq.keep0 hdr
         have hch_r := hch
         have hb2_r := hb2
         have hb3_r := hb3
         have hb4_r := hb4
         have hb6_r := hb6
         have hb8_r := hb8
         refine WK.take 0 rfl (by kernel_rfl) (by kernel_rfl) (by kernel_rfl) (by kernel_rfl) (by kernel_rfl) (by kernel_rfl) hS (fun w' hw' => Ev.fieldAddr rfl) rfl ?_
         refine WK.take 1 rfl (by kernel_rfl) (by kernel_rfl) (by kernel_rfl) (by kernel_rfl) (by kernel_rfl) (by kernel_rfl) hS (fun w' hw' => Ev.load rfl rfl ((hb6_r.keep0 hw').at_ rfl)) rfl ?_
         refine WK.take 2 rfl (by kernel_rfl) (by kernel_rfl) (by kernel_rfl) (by kernel_rfl) (by kernel_rfl) (by kernel_rfl) hS (fun w' hw' => Ev.move rfl) rfl ?_
         refine WK.take 3 rfl (by kernel_rfl) (by kernel_rfl) (by kernel_rfl) (by kernel_rfl) (by kernel_rfl) (by kernel_rfl) hS (fun w' hw' => Ev.move rfl) rfl ?_
         refine WK.take 5 rfl (by kernel_rfl) (by kernel_rfl) (by kernel_rfl) (by kernel_rfl) (by kernel_rfl) (by kernel_rfl) hS (fun w' hw' => Ev.move rfl) rfl ?_
         refine WK.oneCall 4 rfl (by kernel_rfl) hasF118 rfl rfl (r2Minus_spec _ _ _ _ _ hNp hNq (by omega) (by rw [val_wd, val_wd]; exact hge)) fun v w8 h' => ?_
         obtain ⟨hNs, hC, hFs⟩ := h'
         rw [val_wd, val_wd] at hNs
         have hch := hch.trans (Chg.any hC)
         have hb2 := hb2.keep0 hC
         have hb3 := hb3.keep0 hC
         have hb4 := hb4.keep0 hC
         have hb6 := hb6.keep0 hC
         have hb8 := hb8.keep0 hC
         have ha := ha.keep0 hC
         have hb := hb.keep0 hC
         have hNr1 := hNr1.keep0 hC
         have hNr2 := hNr2.keep0 hC
         have hNp := hNp.keep0 hC
         have hNq := hNq.keep0 hC
         have hS := hS.trans hC
         refine ⟨hS, ?_⟩
         refine WK.oneCall 6 rfl (by kernel_rfl) hasF113 rfl rfl (r3told_spec _ _ _ _ _ hNs (by omega) (by omega)) fun v w9 h' => ?_
         obtain ⟨hD3, hC3⟩ := h'
         rw [val_wd] at hD3
         have hch := hch.trans (Chg.any hC3)
         have hb2 := hb2.keep0 hC3
         have hb3 := hb3.keep0 hC3
         have hb4 := hb4.keep0 hC3
         have hb6 := hb6.keep0 hC3
         have hb8 := hb8.keep0 hC3
         have ha := ha.keep0 hC3
         have hb := hb.keep0 hC3
         have hNr1 := hNr1.keep0 hC3
         have hNr2 := hNr2.keep0 hC3
         have hNp := hNp.keep0 hC3
         have hNq := hNq.keep0 hC3
         have hNs := hNs.keep0 hC3
         have hS := hS.trans hC3
         refine ⟨hS, ?_⟩
         rcases hD3 with ⟨r, d, hd, rfl, hNr⟩ | ⟨hd, rfl⟩
         ·
          refine WK.take 7 rfl (by kernel_rfl) (by kernel_rfl) (by kernel_rfl) (by kernel_rfl) (by kernel_rfl) (by kernel_rfl) hS (fun w' hw' => Ev.extract rfl rfl) rfl ?_
          refine WK.take 8 rfl (by kernel_rfl) (by kernel_rfl) (by kernel_rfl) (by kernel_rfl) (by kernel_rfl) (by kernel_rfl) hS (fun w' hw' => Ev.extract rfl rfl) rfl ?_
          refine WK.storeB 9 rfl (by kernel_rfl) (by kernel_rfl) rfl rfl rfl ao hb4 (by simp) rfl fun ws34 hb4_ hcs34 => ?_
          try simp only [Sx.splice, qt] at hb4_
          have hch := hch.s1 hcs34
          have hb2 := hb2.keep hcs34 (by simp; omega)
          have hb3 := hb3.keep hcs34 (by simp; omega)
          have hb6 := hb6.keep hcs34 (by simp; omega)
          have hb8 := hb8.keep hcs34 (by simp; omega)
          have ha := ha.keepBK hb4 hcs34 an
          have hb := hb.keepBK hb4 hcs34 an
          have hNr1 := hNr1.keepBK hb4 hcs34 an
          have hNr2 := hNr2.keepBK hb4 hcs34 an
          have hNp := hNp.keepBK hb4 hcs34 an
          have hNq := hNq.keepBK hb4 hcs34 an
          have hNs := hNs.keepBK hb4 hcs34 an
          have hNr := hNr.keepBK hb4 hcs34 an
          have hb4 := hb4_
          refine WK.after 10 rfl (by kernel_rfl) (by kernel_rfl) (Ev.assign rfl) rfl ?_
          refine WK.done (by kernel_rfl) (kr39 _ _ _ ?_)
          refine kh38 _ _ _ ?_
          refine CW.ret ?_
          refine bodyA.retR2 rfl (RVal.cell rfl (hb4.varA rfl rfl)) (RVal.tmp rfl) ?_
          rw [hd1, hd2]
          exact ⟨.inl ⟨r, d, by show addD d1 d2 = _; rw [addD_eq h01 h02 hpq1 hpq2, if_neg hnl, if_neg hsg, if_neg (show ¬ p < q by omega)]; exact hd, rfl, hNr⟩, hch⟩
         ·
          refine WK.take 7 rfl (by kernel_rfl) (by kernel_rfl) (by kernel_rfl) (by kernel_rfl) (by kernel_rfl) (by kernel_rfl) hS (fun w' hw' => Ev.extract rfl rfl) rfl ?_
          refine WK.take 8 rfl (by kernel_rfl) (by kernel_rfl) (by kernel_rfl) (by kernel_rfl) (by kernel_rfl) (by kernel_rfl) hS (fun w' hw' => Ev.extract rfl rfl) rfl ?_
          refine WK.storeB 9 rfl (by kernel_rfl) (by kernel_rfl) rfl rfl rfl ao hb4 (by simp) rfl fun ws35 hb4_ hcs35 => ?_
          try simp only [Sx.splice, qt] at hb4_
          have hch := hch.s1 hcs35
          have hb2 := hb2.keep hcs35 (by simp; omega)
          have hb3 := hb3.keep hcs35 (by simp; omega)
          have hb6 := hb6.keep hcs35 (by simp; omega)
          have hb8 := hb8.keep hcs35 (by simp; omega)
          have ha := ha.keepBK hb4 hcs35 an
          have hb := hb.keepBK hb4 hcs35 an
          have hNr1 := hNr1.keepBK hb4 hcs35 an
          have hNr2 := hNr2.keepBK hb4 hcs35 an
          have hNp := hNp.keepBK hb4 hcs35 an
          have hNq := hNq.keepBK hb4 hcs35 an
          have hNs := hNs.keepBK hb4 hcs35 an
          have hb4 := hb4_
          refine WK.after 10 rfl (by kernel_rfl) (by kernel_rfl) (Ev.assign rfl) rfl ?_
          refine WK.done (by kernel_rfl) (kr39 _ _ _ ?_)
          refine kh38 _ _ _ ?_
          refine CW.ret ?_
          refine bodyA.retR2 rfl (RVal.cell rfl (hb4.varA rfl rfl)) (RVal.tmp rfl) ?_
          rw [hd1, hd2]
          exact ⟨.inr ⟨by show addD d1 d2 = _; rw [addD_eq h01 h02 hpq1 hpq2, if_neg hnl, if_neg hsg, if_neg (show ¬ p < q by omega)]; exact hd, rfl⟩, hch⟩
        ·
         try simp only [qs] at hc6
         have hlt : p < q := Nat.lt_of_not_le fun hn => by have := sgn_ge.2 hn; omega
         have hml := wd_length_mono (Nat.sub_le q p)
         refine CW.skip ?_
         refine kh35 _ _ _ ?_
         refine CW.seq fun _ kh40 => ?_
         refine CW.regionKC 9 11 rfl hmix fun kR41 kr41 hS hdr => ?_
         have hch := hch.trans (Chg.any hdr)
         have hb2 := hb2.keep0 hdr
         have hb3 := hb3.keep0 hdr
         have hb4 := hb4.keep0 hdr
         have hb6 := hb6.keep0 hdr
         have hb8 := hb8.keep0 hdr
         have ha := ha.keep0 hdr
         have hb := hb.keep0 hdr
         have hNr1 := hNr1.keep0 hdr
         have hNr2 := hNr2.keep0 hdr
         have hNp := hNp.keep0 hdr
         have hNq := hNq.keep0 hdr
         have hch_r := hch
         have hb2_r := hb2
         have hb3_r := hb3
         have hb4_r := hb4
         have hb6_r := hb6
         have hb8_r := hb8
         refine WK.take 0 rfl (by kernel_rfl) (by kernel_rfl) (by kernel_rfl) (by kernel_rfl) (by kernel_rfl) (by kernel_rfl) hS (fun w' hw' => Ev.fieldAddr rfl) rfl ?_
         refine WK.take 1 rfl (by kernel_rfl) (by kernel_rfl) (by kernel_rfl) (by kernel_rfl) (by kernel_rfl) (by kernel_rfl) hS (fun w' hw' => Ev.load rfl rfl ((hb8_r.keep0 hw').at_ rfl)) rfl ?_
         refine WK.take 2 rfl (by kernel_rfl) (by kernel_rfl) (by kernel_rfl) (by kernel_rfl) (by kernel_rfl) (by kernel_rfl) hS (fun w' hw' => Ev.move rfl) rfl ?_
         refine WK.take 3 rfl (by kernel_rfl) (by kernel_rfl) (by kernel_rfl) (by kernel_rfl) (by kernel_rfl) (by kernel_rfl) hS (fun w' hw' => Ev.move rfl) rfl ?_
         refine WK.take 5 rfl (by kernel_rfl) (by kernel_rfl) (by kernel_rfl) (by kernel_rfl) (by kernel_rfl) (by kernel_rfl) hS (fun w' hw' => Ev.move rfl) rfl ?_
         refine WK.oneCall 4 rfl (by kernel_rfl) hasF118 rfl rfl (r2Minus_spec _ _ _ _ _ hNq hNp (by omega) (by rw [val_wd, val_wd]; omega)) fun v w10 h' => ?_
         obtain ⟨hNs, hC, hFs⟩ := h'
         rw [val_wd, val_wd] at hNs
         have hch := hch.trans (Chg.any hC)
         have hb2 := hb2.keep0 hC
         have hb3 := hb3.keep0 hC
         have hb4 := hb4.keep0 hC
         have hb6 := hb6.keep0 hC
         have hb8 := hb8.keep0 hC
         have ha := ha.keep0 hC
         have hb := hb.keep0 hC
         have hNr1 := hNr1.keep0 hC
         have hNr2 := hNr2.keep0 hC
         have hNp := hNp.keep0 hC
         have hNq := hNq.keep0 hC
         have hS := hS.trans hC
         refine ⟨hS, ?_⟩
         refine WK.oneCall 6 rfl (by kernel_rfl) hasF113 rfl rfl (r3told_spec _ _ _ _ _ hNs (by omega) (by omega)) fun v w11 h' => ?_
         obtain ⟨hD3, hC3⟩ := h'
         rw [val_wd] at hD3
         have hch := hch.trans (Chg.any hC3)
         have hb2 := hb2.keep0 hC3
         have hb3 := hb3.keep0 hC3
         have hb4 := hb4.keep0 hC3
         have hb6 := hb6.keep0 hC3
         have hb8 := hb8.keep0 hC3
         have ha := ha.keep0 hC3
         have hb := hb.keep0 hC3
         have hNr1 := hNr1.keep0 hC3
         have hNr2 := hNr2.keep0 hC3
         have hNp := hNp.keep0 hC3
         have hNq := hNq.keep0 hC3
         have hNs := hNs.keep0 hC3
         have hS := hS.trans hC3
         refine ⟨hS, ?_⟩
         rcases hD3 with ⟨r, d, hd, rfl, hNr⟩ | ⟨hd, rfl⟩
         ·
          refine WK.take 7 rfl (by kernel_rfl) (by kernel_rfl) (by kernel_rfl) (by kernel_rfl) (by kernel_rfl) (by kernel_rfl) hS (fun w' hw' => Ev.extract rfl rfl) rfl ?_
          refine WK.take 8 rfl (by kernel_rfl) (by kernel_rfl) (by kernel_rfl) (by kernel_rfl) (by kernel_rfl) (by kernel_rfl) hS (fun w' hw' => Ev.extract rfl rfl) rfl ?_
          refine WK.storeB 9 rfl (by kernel_rfl) (by kernel_rfl) rfl rfl rfl ao hb4 (by simp) rfl fun ws36 hb4_ hcs36 => ?_
          try simp only [Sx.splice, qt] at hb4_
          have hch := hch.s1 hcs36
          have hb2 := hb2.keep hcs36 (by simp; omega)
          have hb3 := hb3.keep hcs36 (by simp; omega)
          have hb6 := hb6.keep hcs36 (by simp; omega)
          have hb8 := hb8.keep hcs36 (by simp; omega)
          have ha := ha.keepBK hb4 hcs36 an
          have hb := hb.keepBK hb4 hcs36 an
          have hNr1 := hNr1.keepBK hb4 hcs36 an
          have hNr2 := hNr2.keepBK hb4 hcs36 an
          have hNp := hNp.keepBK hb4 hcs36 an
          have hNq := hNq.keepBK hb4 hcs36 an
          have hNs := hNs.keepBK hb4 hcs36 an
          have hNr := hNr.keepBK hb4 hcs36 an
          have hb4 := hb4_
          refine WK.after 10 rfl (by kernel_rfl) (by kernel_rfl) (Ev.assign rfl) rfl ?_
          refine WK.done (by kernel_rfl) (kr41 _ _ _ ?_)
          refine kh40 _ _ _ ?_
          refine CW.ret ?_
          refine bodyA.retR2 rfl (RVal.cell rfl (hb4.varA rfl rfl)) (RVal.tmp rfl) ?_
          rw [hd1, hd2]
          exact ⟨.inl ⟨r, d, by show addD d1 d2 = _; rw [addD_eq h01 h02 hpq1 hpq2, if_neg hnl, if_neg hsg, if_pos hlt]; exact hd, rfl, hNr⟩, hch⟩
         ·
          refine WK.take 7 rfl (by kernel_rfl) (by kernel_rfl) (by kernel_rfl) (by kernel_rfl) (by kernel_rfl) (by kernel_rfl) hS (fun w' hw' => Ev.extract rfl rfl) rfl ?_
          refine WK.take 8 rfl (by kernel_rfl) (by kernel_rfl) (by kernel_rfl) (by kernel_rfl) (by kernel_rfl) (by kernel_rfl) hS (fun w' hw' => Ev.extract rfl rfl) rfl ?_
          refine WK.storeB 9 rfl (by kernel_rfl) (by kernel_rfl) rfl rfl rfl ao hb4 (by simp) rfl fun ws37 hb4_ hcs37 => ?_
          try simp only [Sx.splice, qt] at hb4_
          have hch := hch.s1 hcs37
          have hb2 := hb2.keep hcs37 (by simp; omega)
          have hb3 := hb3.keep hcs37 (by simp; omega)
          have hb6 := hb6.keep hcs37 (by simp; omega)
          have hb8 := hb8.keep hcs37 (by simp; omega)
          have ha := ha.keepBK hb4 hcs37 an
          have hb := hb.keepBK hb4 hcs37 an
          have hNr1 := hNr1.keepBK hb4 hcs37 an
          have hNr2 := hNr2.keepBK hb4 hcs37 an
          have hNp := hNp.keepBK hb4 hcs37 an
          have hNq := hNq.keepBK hb4 hcs37 an
          have hNs := hNs.keepBK hb4 hcs37 an
          have hb4 := hb4_
          refine WK.after 10 rfl (by kernel_rfl) (by kernel_rfl) (Ev.assign rfl) rfl ?_
          refine WK.done (by kernel_rfl) (kr41 _ _ _ ?_)
          refine kh40 _ _ _ ?_
          refine CW.ret ?_
          refine bodyA.retR2 rfl (RVal.cell rfl (hb4.varA rfl rfl)) (RVal.tmp rfl) ?_
          rw [hd1, hd2]
          exact ⟨.inr ⟨by show addD d1 d2 = _; rw [addD_eq h01 h02 hpq1 hpq2, if_neg hnl, if_neg hsg, if_pos hlt]; exact hd, rfl⟩, hch⟩
  ·
   refine Mv rfl rfl ?_
   refine WL.ev (Ev.extract rfl rfl) rfl ?_
   refine WL.ev (Ev.extract rfl rfl) rfl ?_
   refine WL.allocB (l := [.bool false, .slice none 0 0, .int .i64 0]) rfl rfl fun b8 wm8 hb8 hcm8 hge8 => ?_
   have hgehch8 := Nat.le_trans hch.size hge8
   have hch := hch.trans (Chg.any hcm8)
   have ha := ha.keep0 hcm8
   have hb := hb.keep0 hcm8
   have hNr1 := hNr1.keep0 hcm8
   have hneb28 : b2 ≠ b8 := by have := hb2.lt; omega
   have hb2 := hb2.keep0 hcm8
   have hneb38 : b3 ≠ b8 := by have := hb3.lt; omega
   have hb3 := hb3.keep0 hcm8
   have hneb48 : b4 ≠ b8 := by have := hb4.lt; omega
   have hb4 := hb4.keep0 hcm8
   have hneb68 : b6 ≠ b8 := by have := hb6.lt; omega
   have hb6 := hb6.keep0 hcm8
   refine WL.storeB rfl rfl rfl ao hb8 (by simp) rfl fun ws38 hb8_ hcs38 => ?_
   try simp only [Sx.splice, qt] at hb8_
   have hch := hch.s1 hcs38
   have hb2 := hb2.keep hcs38 (by simp; omega)
   have hb3 := hb3.keep hcs38 (by simp; omega)
   have hb4 := hb4.keep hcs38 (by simp; omega)
   have hb6 := hb6.keep hcs38 (by simp; omega)
   have ha := ha.keepBK hb8 hcs38 an
   have hb := hb.keepBK hb8 hcs38 an
   have hNr1 := hNr1.keepBK hb8 hcs38 an
   have hb8 := hb8_
   refine As rfl rfl ?_
   refine WL.nil (kr6 _ _ _ (kh5 _ _ _ ?_))
   refine CW.seq fun _ kh42 => ?_
   refine Sq fun _ kh43 _ kr44 => ?_
   refine Mv rfl rfl ?_
   refine WL.ev (Ev.not rfl) rfl ?_
   refine Mv rfl rfl ?_
   refine WL.want rfl rfl rfl rfl ?_
   refine Mv rfl rfl ?_
   refine WL.want rfl rfl rfl rfl ?_
   refine WL.ev (Ev.not rfl) rfl ?_
   refine WL.ev (Ev.pickF rfl rfl rfl) rfl ?_
   refine WL.nil (kr44 _ _ _ (kh43 _ _ _ ?_))
   refine CW.condT rfl ?_
   refine Sq fun _ kh45 _ kr46 => ?_
   refine WL.ev (Ev.build (vs := _) (cs := [_, _, _]) rfl rfl) rfl ?_
   refine WL.storeB rfl rfl rfl ao hb4 (by simp) rfl fun ws39 hb4_ hcs39 => ?_
   try simp only [Sx.splice, qt] at hb4_
   have hch := hch.s1 hcs39
   have hb2 := hb2.keep hcs39 (by simp; omega)
   have hb3 := hb3.keep hcs39 (by simp; omega)
   have hb6 := hb6.keep hcs39 (by simp; omega)
   have hb8 := hb8.keep hcs39 (by simp; omega)
   have ha := ha.keepBK hb4 hcs39 an
   have hb := hb.keepBK hb4 hcs39 an
   have hNr1 := hNr1.keepBK hb4 hcs39 an
   have hb4 := hb4_
   refine As rfl rfl ?_
   refine WL.nil (kr46 _ _ _ (kh45 _ _ _ ?_))
   refine CW.ret ?_
   refine bodyA.retR2 rfl (RVal.cell rfl (hb4.varA rfl rfl)) (RVal.tmp rfl) ?_
   rw [hd2, both2_none_right]
   exact ⟨.inr ⟨rfl, rfl⟩, hch⟩
 ·
  refine Mv rfl rfl ?_
  refine WL.ev (Ev.extract rfl rfl) rfl ?_
  refine WL.ev (Ev.extract rfl rfl) rfl ?_
  refine WL.allocB (l := [.bool false, .slice none 0 0, .int .i64 0]) rfl rfl fun b6 wm6 hb6 hcm6 hge6 => ?_
  have hgehch6 := Nat.le_trans hch.size hge6
  have hch := hch.trans (Chg.any hcm6)
  have ha := ha.keep0 hcm6
  have hb := hb.keep0 hcm6
  have hneb26 : b2 ≠ b6 := by have := hb2.lt; omega
  have hb2 := hb2.keep0 hcm6
  have hneb36 : b3 ≠ b6 := by have := hb3.lt; omega
  have hb3 := hb3.keep0 hcm6
  have hneb46 : b4 ≠ b6 := by have := hb4.lt; omega
  have hb4 := hb4.keep0 hcm6
  refine WL.storeB rfl rfl rfl ao hb6 (by simp) rfl fun ws40 hb6_ hcs40 => ?_
  try simp only [Sx.splice, qt] at hb6_
  have hch := hch.s1 hcs40
  have hb2 := hb2.keep hcs40 (by simp; omega)
  have hb3 := hb3.keep hcs40 (by simp; omega)
  have hb4 := hb4.keep hcs40 (by simp; omega)
  have ha := ha.keepBK hb6 hcs40 an
  have hb := hb.keepBK hb6 hcs40 an
  have hb6 := hb6_
  refine As rfl rfl ?_
  refine WL.nil (kr4 _ _ _ (kh3 _ _ _ ?_))
  refine Sq fun _ kh47 _ kr48 => ?_
  refine WL.ev (Ev.loadA rfl rfl hb3 rfl) rfl ?_
  refine WL.call hasF67 rfl rfl (r3Made_spec nb vb lb eb _ hb heb hlb) fun v w12 h' => ?_
  obtain ⟨hD2, hC2⟩ := h'
  have hch := hch.trans (Chg.any hC2)
  have hb2 := hb2.keep0 hC2
  have hb3 := hb3.keep0 hC2
  have hb4 := hb4.keep0 hC2
  have hb6 := hb6.keep0 hC2
  have ha := ha.keep0 hC2
  have hb := hb.keep0 hC2
  rcases hD2 with ⟨r2, d2, hd2, rfl, hNr2⟩ | ⟨hd2, rfl⟩
  ·
   refine Mv rfl rfl ?_
   refine WL.ev (Ev.extract rfl rfl) rfl ?_
   refine WL.ev (Ev.extract rfl rfl) rfl ?_
   refine WL.allocB (l := [.bool false, .slice none 0 0, .int .i64 0]) rfl rfl fun b8 wm8 hb8 hcm8 hge8 => ?_
   have hgehch8 := Nat.le_trans hch.size hge8
   have hch := hch.trans (Chg.any hcm8)
   have ha := ha.keep0 hcm8
   have hb := hb.keep0 hcm8
   have hNr2 := hNr2.keep0 hcm8
   have hneb28 : b2 ≠ b8 := by have := hb2.lt; omega
   have hb2 := hb2.keep0 hcm8
   have hneb38 : b3 ≠ b8 := by have := hb3.lt; omega
   have hb3 := hb3.keep0 hcm8
   have hneb48 : b4 ≠ b8 := by have := hb4.lt; omega
   have hb4 := hb4.keep0 hcm8
   have hneb68 : b6 ≠ b8 := by have := hb6.lt; omega
   have hb6 := hb6.keep0 hcm8
   refine WL.storeB rfl rfl rfl ao hb8 (by simp) rfl fun ws41 hb8_ hcs41 => ?_
   try simp only [Sx.splice, qt] at hb8_
   have hch := hch.s1 hcs41
   have hb2 := hb2.keep hcs41 (by simp; omega)
   have hb3 := hb3.keep hcs41 (by simp; omega)
   have hb4 := hb4.keep hcs41 (by simp; omega)
   have hb6 := hb6.keep hcs41 (by simp; omega)
   have ha := ha.keepBK hb8 hcs41 an
   have hb := hb.keepBK hb8 hcs41 an
   have hNr2 := hNr2.keepBK hb8 hcs41 an
   have hb8 := hb8_
   refine As rfl rfl ?_
   refine WL.nil (kr48 _ _ _ (kh47 _ _ _ ?_))
   refine CW.seq fun _ kh49 => ?_
   refine Sq fun _ kh50 _ kr51 => ?_
   refine Mv rfl rfl ?_
   refine WL.ev (Ev.not rfl) rfl ?_
   refine Mv rfl rfl ?_
   refine WL.pass rfl rfl rfl rfl rfl ?_
   refine WL.pass rfl rfl rfl rfl rfl ?_
   refine WL.ev (Ev.pickT rfl rfl rfl) rfl ?_
   refine WL.nil (kr51 _ _ _ (kh50 _ _ _ ?_))
   refine CW.condT rfl ?_
   refine Sq fun _ kh52 _ kr53 => ?_
   refine WL.ev (Ev.build (vs := _) (cs := [_, _, _]) rfl rfl) rfl ?_
   refine WL.storeB rfl rfl rfl ao hb4 (by simp) rfl fun ws42 hb4_ hcs42 => ?_
   try simp only [Sx.splice, qt] at hb4_
   have hch := hch.s1 hcs42
   have hb2 := hb2.keep hcs42 (by simp; omega)
   have hb3 := hb3.keep hcs42 (by simp; omega)
   have hb6 := hb6.keep hcs42 (by simp; omega)
   have hb8 := hb8.keep hcs42 (by simp; omega)
   have ha := ha.keepBK hb4 hcs42 an
   have hb := hb.keepBK hb4 hcs42 an
   have hNr2 := hNr2.keepBK hb4 hcs42 an
   have hb4 := hb4_
   refine As rfl rfl ?_
   refine WL.nil (kr53 _ _ _ (kh52 _ _ _ ?_))
   refine CW.ret ?_
   refine bodyA.retR2 rfl (RVal.cell rfl (hb4.varA rfl rfl)) (RVal.tmp rfl) ?_
   rw [hd1, both2_none_left]
   exact ⟨.inr ⟨rfl, rfl⟩, hch⟩
  ·
   refine Mv rfl rfl ?_
   refine WL.ev (Ev.extract rfl rfl) rfl ?_
   refine WL.ev (Ev.extract rfl rfl) rfl ?_
   refine WL.allocB (l := [.bool false, .slice none 0 0, .int .i64 0]) rfl rfl fun b8 wm8 hb8 hcm8 hge8 => ?_
   have hgehch8 := Nat.le_trans hch.size hge8
   have hch := hch.trans (Chg.any hcm8)
   have ha := ha.keep0 hcm8
   have hb := hb.keep0 hcm8
   have hneb28 : b2 ≠ b8 := by have := hb2.lt; omega
   have hb2 := hb2.keep0 hcm8
   have hneb38 : b3 ≠ b8 := by have := hb3.lt; omega
   have hb3 := hb3.keep0 hcm8
   have hneb48 : b4 ≠ b8 := by have := hb4.lt; omega
   have hb4 := hb4.keep0 hcm8
   have hneb68 : b6 ≠ b8 := by have := hb6.lt; omega
   have hb6 := hb6.keep0 hcm8
   refine WL.storeB rfl rfl rfl ao hb8 (by simp) rfl fun ws43 hb8_ hcs43 => ?_
   try simp only [Sx.splice, qt] at hb8_
   have hch := hch.s1 hcs43
   have hb2 := hb2.keep hcs43 (by simp; omega)
   have hb3 := hb3.keep hcs43 (by simp; omega)
   have hb4 := hb4.keep hcs43 (by simp; omega)
   have hb6 := hb6.keep hcs43 (by simp; omega)
   have ha := ha.keepBK hb8 hcs43 an
   have hb := hb.keepBK hb8 hcs43 an
   have hb8 := hb8_
   refine As rfl rfl ?_
   refine WL.nil (kr48 _ _ _ (kh47 _ _ _ ?_))
   refine CW.seq fun _ kh54 => ?_
   refine Sq fun _ kh55 _ kr56 => ?_
   refine Mv rfl rfl ?_
   refine WL.ev (Ev.not rfl) rfl ?_
   refine Mv rfl rfl ?_
   refine WL.pass rfl rfl rfl rfl rfl ?_
   refine WL.pass rfl rfl rfl rfl rfl ?_
   refine WL.ev (Ev.pickT rfl rfl rfl) rfl ?_
   refine WL.nil (kr56 _ _ _ (kh55 _ _ _ ?_))
   refine CW.condT rfl ?_
   refine Sq fun _ kh57 _ kr58 => ?_
   refine WL.ev (Ev.build (vs := _) (cs := [_, _, _]) rfl rfl) rfl ?_
   refine WL.storeB rfl rfl rfl ao hb4 (by simp) rfl fun ws44 hb4_ hcs44 => ?_
   try simp only [Sx.splice, qt] at hb4_
   have hch := hch.s1 hcs44
   have hb2 := hb2.keep hcs44 (by simp; omega)
   have hb3 := hb3.keep hcs44 (by simp; omega)
   have hb6 := hb6.keep hcs44 (by simp; omega)
   have hb8 := hb8.keep hcs44 (by simp; omega)
   have ha := ha.keepBK hb4 hcs44 an
   have hb := hb.keepBK hb4 hcs44 an
   have hb4 := hb4_
   refine As rfl rfl ?_
   refine WL.nil (kr58 _ _ _ (kh57 _ _ _ ?_))
   refine CW.ret ?_
   refine bodyA.retR2 rfl (RVal.cell rfl (hb4.varA rfl rfl)) (RVal.tmp rfl) ?_
   rw [hd1, both2_none_left]
   exact ⟨.inr ⟨rfl, rfl⟩, hch⟩

set_option maxRecDepth 8000 in
set_option maxHeartbeats 1000000 in
theorem r3Mul_spec (na nb : Bool) (va vb : Value) (la lb : List Nat) (ea eb : Int) (w : World) (ha : NU w va la) (hb : NU w vb lb) (hea : -9223372036854775808 ≤ ea ∧ ea ≤ 9223372036854775807) (heb : -9223372036854775808 ≤ eb ∧ eb ≤ 9223372036854775807) (hla : la.length ≤ 34359738368) (hlb : lb.length ≤ 34359738368) : Ret Tryz.prog 58 [.agg [.bool na, va, .int .i64 ea].toArray, .agg [.bool nb, vb, .int .i64 eb].toArray] w fun u w' => DR w' u (both2 mulD (formD na (val la) ea) (formD nb (val lb) eb)) ∧ Chg [] w w' := by
 have hch : Chg [] w w := Chg.refl _ _
 have hoa := ha.one
 have hob := hb.one
 refine Ret.enter Tryz.func58 rfl rfl ?_
 simp only [args0, Nat.zero_add, Nat.reduceAdd]
 refine Sq fun _ kh1 _ kr2 => ?_
 refine WL.boxB rfl rfl rfl fun b2 wm2 hb2 hcm2 hge2 => ?_
 have hgehch2 := Nat.le_trans hch.size hge2
 have hch := hch.trans (Chg.any hcm2)
 have ha := ha.keep0 hcm2
 have hb := hb.keep0 hcm2
 refine WL.boxB rfl rfl rfl fun b3 wm3 hb3 hcm3 hge3 => ?_
 have hgehch3 := Nat.le_trans hch.size hge3
 have hch := hch.trans (Chg.any hcm3)
 have ha := ha.keep0 hcm3
 have hb := hb.keep0 hcm3
 have hneb23 : b2 ≠ b3 := by have := hb2.lt; omega
 have hb2 := hb2.keep0 hcm3
 refine WL.allocB (l := [.bool false, .slice none 0 0, .int .i64 0]) rfl rfl fun b4 wm4 hb4 hcm4 hge4 => ?_
 have hgehch4 := Nat.le_trans hch.size hge4
 have hch := hch.trans (Chg.any hcm4)
 have ha := ha.keep0 hcm4
 have hb := hb.keep0 hcm4
 have hneb24 : b2 ≠ b4 := by have := hb2.lt; omega
 have hb2 := hb2.keep0 hcm4
 have hneb34 : b3 ≠ b4 := by have := hb3.lt; omega
 have hb3 := hb3.keep0 hcm4
 refine As rfl rfl ?_
 refine WL.nil (kr2 _ _ _ (kh1 _ _ _ ?_))
 refine Sq fun _ kh3 _ kr4 => ?_
 refine WL.ev (Ev.loadA rfl rfl hb2 rfl) rfl ?_
 refine WL.call hasF67 rfl rfl (r3Made_spec na va la ea _ ha hea hla) fun v w1 h' => ?_
 obtain ⟨hD1, hC1⟩ := h'
 have hch := hch.trans (Chg.any hC1)
 have hb2 := hb2.keep0 hC1
 have hb3 := hb3.keep0 hC1
 have hb4 := hb4.keep0 hC1
 have ha := ha.keep0 hC1
 have hb := hb.keep0 hC1
 rcases hD1 with ⟨r1, d1, hd1, rfl, hNr1⟩ | ⟨hd1, rfl⟩
 ·
  have hok1 := formD_ok hd1
  have he1 := hok1.e
  have hl1 := hok1.len
  obtain ⟨⟨a1, c1, rfl, hcap1, hr1⟩, hW1, hl1⟩ := hNr1
  have hNr1 : NU _ (.slice a1 (wd d1.m).length c1) (wd d1.m) := NU.of_row hr1 hW1 hl1 rfl hcap1
  have hw1 : (wd d1.m).length = 0 ↔ d1.m = 0 := by rw [List.length_eq_zero_iff, wd_eq_nil]
  refine Mv rfl rfl ?_
  refine WL.ev (Ev.extract rfl rfl) rfl ?_
  refine WL.ev (Ev.extract rfl rfl) rfl ?_
  refine WL.allocB (l := [.bool false, .slice none 0 0, .int .i64 0]) rfl rfl fun b6 wm6 hb6 hcm6 hge6 => ?_
  have hgehch6 := Nat.le_trans hch.size hge6
  have hch := hch.trans (Chg.any hcm6)
  have ha := ha.keep0 hcm6
  have hb := hb.keep0 hcm6
  have hNr1 := hNr1.keep0 hcm6
  have hneb26 : b2 ≠ b6 := by have := hb2.lt; omega
  have hb2 := hb2.keep0 hcm6
  have hneb36 : b3 ≠ b6 := by have := hb3.lt; omega
  have hb3 := hb3.keep0 hcm6
  have hneb46 : b4 ≠ b6 := by have := hb4.lt; omega
  have hb4 := hb4.keep0 hcm6
  refine WL.storeB rfl rfl rfl ao hb6 (by simp) rfl fun ws45 hb6_ hcs45 => ?_
  try simp only [Sx.splice, qt] at hb6_
  have hch := hch.s1 hcs45
  have hb2 := hb2.keep hcs45 (by simp; omega)
  have hb3 := hb3.keep hcs45 (by simp; omega)
  have hb4 := hb4.keep hcs45 (by simp; omega)
  have ha := ha.keepBK hb6 hcs45 an
  have hb := hb.keepBK hb6 hcs45 an
  have hNr1 := hNr1.keepBK hb6 hcs45 an
  have hb6 := hb6_
  refine As rfl rfl ?_
  refine WL.nil (kr4 _ _ _ (kh3 _ _ _ ?_))
  refine Sq fun _ kh5 _ kr6 => ?_
  refine WL.ev (Ev.loadA rfl rfl hb3 rfl) rfl ?_
  refine WL.call hasF67 rfl rfl (r3Made_spec nb vb lb eb _ hb heb hlb) fun v w2 h' => ?_
  obtain ⟨hD2, hC2⟩ := h'
  have hch := hch.trans (Chg.any hC2)
  have hb2 := hb2.keep0 hC2
  have hb3 := hb3.keep0 hC2
  have hb4 := hb4.keep0 hC2
  have hb6 := hb6.keep0 hC2
  have ha := ha.keep0 hC2
  have hb := hb.keep0 hC2
  have hNr1 := hNr1.keep0 hC2
  rcases hD2 with ⟨r2, d2, hd2, rfl, hNr2⟩ | ⟨hd2, rfl⟩
  ·
   have hok2 := formD_ok hd2
   have he2 := hok2.e
   have hl2 := hok2.len
   obtain ⟨⟨a2, c2, rfl, hcap2, hr2⟩, hW2, hl2⟩ := hNr2
   have hNr2 : NU _ (.slice a2 (wd d2.m).length c2) (wd d2.m) := NU.of_row hr2 hW2 hl2 rfl hcap2
   have hw2 : (wd d2.m).length = 0 ↔ d2.m = 0 := by rw [List.length_eq_zero_iff, wd_eq_nil]
   refine Mv rfl rfl ?_
   refine WL.ev (Ev.extract rfl rfl) rfl ?_
   refine WL.ev (Ev.extract rfl rfl) rfl ?_
   refine WL.allocB (l := [.bool false, .slice none 0 0, .int .i64 0]) rfl rfl fun b8 wm8 hb8 hcm8 hge8 => ?_
   have hgehch8 := Nat.le_trans hch.size hge8
   have hch := hch.trans (Chg.any hcm8)
   have ha := ha.keep0 hcm8
   have hb := hb.keep0 hcm8
   have hNr1 := hNr1.keep0 hcm8
   have hNr2 := hNr2.keep0 hcm8
   have hneb28 : b2 ≠ b8 := by have := hb2.lt; omega
   have hb2 := hb2.keep0 hcm8
   have hneb38 : b3 ≠ b8 := by have := hb3.lt; omega
   have hb3 := hb3.keep0 hcm8
   have hneb48 : b4 ≠ b8 := by have := hb4.lt; omega
   have hb4 := hb4.keep0 hcm8
   have hneb68 : b6 ≠ b8 := by have := hb6.lt; omega
   have hb6 := hb6.keep0 hcm8
   refine WL.storeB rfl rfl rfl ao hb8 (by simp) rfl fun ws46 hb8_ hcs46 => ?_
   try simp only [Sx.splice, qt] at hb8_
   have hch := hch.s1 hcs46
   have hb2 := hb2.keep hcs46 (by simp; omega)
   have hb3 := hb3.keep hcs46 (by simp; omega)
   have hb4 := hb4.keep hcs46 (by simp; omega)
   have hb6 := hb6.keep hcs46 (by simp; omega)
   have ha := ha.keepBK hb8 hcs46 an
   have hb := hb.keepBK hb8 hcs46 an
   have hNr1 := hNr1.keepBK hb8 hcs46 an
   have hNr2 := hNr2.keepBK hb8 hcs46 an
   have hb8 := hb8_
   refine As rfl rfl ?_
   refine WL.nil (kr6 _ _ _ (kh5 _ _ _ ?_))
   refine CW.seq fun _ kh7 => ?_
   refine Sq fun _ kh8 _ kr9 => ?_
   refine Mv rfl rfl ?_
   refine WL.ev (Ev.not rfl) rfl ?_
   refine Mv rfl rfl ?_
   refine WL.want rfl rfl rfl rfl ?_
   refine Mv rfl rfl ?_
   refine WL.want rfl rfl rfl rfl ?_
   refine WL.ev (Ev.not rfl) rfl ?_
   refine WL.ev (Ev.pickF rfl rfl rfl) rfl ?_
   refine WL.nil (kr9 _ _ _ (kh8 _ _ _ ?_))
   refine CW.condF rfl ?_
   refine CW.skip ?_
   refine kh7 _ _ _ ?_
   refine CW.seq fun _ kh10 => ?_
   refine CW.regionKC 18 20 rfl hmix fun kR11 kr11 hS hdr => ?_
   have hch := hch.trans (Chg.any hdr)
   have hb2 := hb2.keep0 hdr
   have hb3 := hb3.keep0 hdr
   have hb4 := hb4.keep0 hdr
   have hb6 := hb6.keep0 hdr
   have hb8 := hb8.keep0 hdr
   have ha := ha.keep0 hdr
   have hb := hb.keep0 hdr
   have hNr1 := hNr1.keep0 hdr
   have hNr2 := hNr2.keep0 hdr
   have hch_r := hch
   have hb2_r := hb2
   have hb3_r := hb3
   have hb4_r := hb4
   have hb6_r := hb6
   have hb8_r := hb8
   refine WK.take 0 rfl (by kernel_rfl) (by kernel_rfl) (by kernel_rfl) (by kernel_rfl) (by kernel_rfl) (by kernel_rfl) hS (fun w' hw' => Ev.fieldAddr rfl) rfl ?_
   refine WK.take 1 rfl (by kernel_rfl) (by kernel_rfl) (by kernel_rfl) (by kernel_rfl) (by kernel_rfl) (by kernel_rfl) hS (fun w' hw' => Ev.load rfl rfl ((hb6_r.keep0 hw').at_ rfl)) rfl ?_
   refine WK.take 2 rfl (by kernel_rfl) (by kernel_rfl) (by kernel_rfl) (by kernel_rfl) (by kernel_rfl) (by kernel_rfl) hS (fun w' hw' => Ev.fieldAddr rfl) rfl ?_
   refine WK.take 3 rfl (by kernel_rfl) (by kernel_rfl) (by kernel_rfl) (by kernel_rfl) (by kernel_rfl) (by kernel_rfl) hS (fun w' hw' => Ev.load rfl rfl ((hb8_r.keep0 hw').at_ rfl)) rfl ?_
   refine WK.take 4 rfl (by kernel_rfl) (by kernel_rfl) (by kernel_rfl) (by kernel_rfl) (by kernel_rfl) (by kernel_rfl) hS (fun w' hw' => Ev.neq_bool rfl rfl) rfl ?_
   refine WK.take 5 rfl (by kernel_rfl) (by kernel_rfl) (by kernel_rfl) (by kernel_rfl) (by kernel_rfl) (by kernel_rfl) hS (fun w' hw' => Ev.fieldAddr rfl) rfl ?_
   refine WK.take 6 rfl (by kernel_rfl) (by kernel_rfl) (by kernel_rfl) (by kernel_rfl) (by kernel_rfl) (by kernel_rfl) hS (fun w' hw' => Ev.load rfl rfl ((hb6_r.keep0 hw').at_ rfl)) rfl ?_
   refine WK.take 7 rfl (by kernel_rfl) (by kernel_rfl) (by kernel_rfl) (by kernel_rfl) (by kernel_rfl) (by kernel_rfl) hS (fun w' hw' => Ev.fieldAddr rfl) rfl ?_
   refine WK.take 8 rfl (by kernel_rfl) (by kernel_rfl) (by kernel_rfl) (by kernel_rfl) (by kernel_rfl) (by kernel_rfl) hS (fun w' hw' => Ev.load rfl rfl ((hb8_r.keep0 hw').at_ rfl)) rfl ?_
   refine WK.take 10 rfl (by kernel_rfl) (by kernel_rfl) (by kernel_rfl) (by kernel_rfl) (by kernel_rfl) (by kernel_rfl) hS (fun w' hw' => Ev.fieldAddr rfl) rfl ?_
   refine WK.take 11 rfl (by kernel_rfl) (by kernel_rfl) (by kernel_rfl) (by kernel_rfl) (by kernel_rfl) (by kernel_rfl) hS (fun w' hw' => Ev.load rfl rfl ((hb6_r.keep0 hw').at_ rfl)) rfl ?_
   refine WK.take 12 rfl (by kernel_rfl) (by kernel_rfl) (by kernel_rfl) (by kernel_rfl) (by kernel_rfl) (by kernel_rfl) hS (fun w' hw' => Ev.fieldAddr rfl) rfl ?_
   refine WK.take 13 rfl (by kernel_rfl) (by kernel_rfl) (by kernel_rfl) (by kernel_rfl) (by kernel_rfl) (by kernel_rfl) hS (fun w' hw' => Ev.load rfl rfl ((hb8_r.keep0 hw').at_ rfl)) rfl ?_
   refine WK.take 14 rfl (by kernel_rfl) (by kernel_rfl) (by kernel_rfl) (by kernel_rfl) (by kernel_rfl) (by kernel_rfl) hS (fun w' hw' => Ev.addIn rfl rfl (by omega)) rfl ?_
   refine WK.oneCall 9 rfl (by kernel_rfl) hasF114 rfl rfl (r2Times_spec _ _ _ _ _ hNr1 hNr2 (by omega)) fun v w3 h' => ?_
   obtain ⟨hNs, hC, hFs⟩ := h'
   rw [val_wd, val_wd] at hNs
   have hml : (wd (d1.m * d2.m)).length ≤ 16384 := mul_len hok1.len hok2.len
   have hch := hch.trans (Chg.any hC)
   have hb2 := hb2.keep0 hC
   have hb3 := hb3.keep0 hC
   have hb4 := hb4.keep0 hC
   have hb6 := hb6.keep0 hC
   have hb8 := hb8.keep0 hC
   have ha := ha.keep0 hC
   have hb := hb.keep0 hC
   have hNr1 := hNr1.keep0 hC
   have hNr2 := hNr2.keep0 hC
   have hS := hS.trans hC
   refine ⟨hS, ?_⟩
   refine WK.oneCall 15 rfl (by kernel_rfl) hasF113 rfl rfl (r3told_spec _ _ _ _ _ hNs (by omega) (by omega)) fun v w4 h' => ?_
   obtain ⟨hD3, hC3⟩ := h'
   rw [val_wd, mulD_form hok1 hok2] at hD3
   have hch := hch.trans (Chg.any hC3)
   have hb2 := hb2.keep0 hC3
   have hb3 := hb3.keep0 hC3
   have hb4 := hb4.keep0 hC3
   have hb6 := hb6.keep0 hC3
   have hb8 := hb8.keep0 hC3
   have ha := ha.keep0 hC3
   have hb := hb.keep0 hC3
   have hNr1 := hNr1.keep0 hC3
   have hNr2 := hNr2.keep0 hC3
   have hNs := hNs.keep0 hC3
   have hS := hS.trans hC3
   refine ⟨hS, ?_⟩
   rcases hD3 with ⟨r, d, hd, rfl, hNr⟩ | ⟨hd, rfl⟩
   ·
    refine WK.take 16 rfl (by kernel_rfl) (by kernel_rfl) (by kernel_rfl) (by kernel_rfl) (by kernel_rfl) (by kernel_rfl) hS (fun w' hw' => Ev.extract rfl rfl) rfl ?_
    refine WK.take 17 rfl (by kernel_rfl) (by kernel_rfl) (by kernel_rfl) (by kernel_rfl) (by kernel_rfl) (by kernel_rfl) hS (fun w' hw' => Ev.extract rfl rfl) rfl ?_
    refine WK.storeB 18 rfl (by kernel_rfl) (by kernel_rfl) rfl rfl rfl ao hb4 (by simp) rfl fun ws47 hb4_ hcs47 => ?_
    try simp only [Sx.splice, qt] at hb4_
    have hch := hch.s1 hcs47
    have hb2 := hb2.keep hcs47 (by simp; omega)
    have hb3 := hb3.keep hcs47 (by simp; omega)
    have hb6 := hb6.keep hcs47 (by simp; omega)
    have hb8 := hb8.keep hcs47 (by simp; omega)
    have ha := ha.keepBK hb4 hcs47 an
    have hb := hb.keepBK hb4 hcs47 an
    have hNr1 := hNr1.keepBK hb4 hcs47 an
    have hNr2 := hNr2.keepBK hb4 hcs47 an
    have hNs := hNs.keepBK hb4 hcs47 an
    have hNr := hNr.keepBK hb4 hcs47 an
    have hb4 := hb4_
    refine WK.after 19 rfl (by kernel_rfl) (by kernel_rfl) (Ev.assign rfl) rfl ?_
    refine WK.done (by kernel_rfl) (kr11 _ _ _ ?_)
    refine kh10 _ _ _ ?_
    refine CW.ret ?_
    refine bodyA.retR2 rfl (RVal.cell rfl (hb4.varA rfl rfl)) (RVal.tmp rfl) ?_
    rw [hd1, hd2]
    exact ⟨.inl ⟨r, d, by exact hd, rfl, hNr⟩, hch⟩
   ·
    refine WK.take 16 rfl (by kernel_rfl) (by kernel_rfl) (by kernel_rfl) (by kernel_rfl) (by kernel_rfl) (by kernel_rfl) hS (fun w' hw' => Ev.extract rfl rfl) rfl ?_
    refine WK.take 17 rfl (by kernel_rfl) (by kernel_rfl) (by kernel_rfl) (by kernel_rfl) (by kernel_rfl) (by kernel_rfl) hS (fun w' hw' => Ev.extract rfl rfl) rfl ?_
    refine WK.storeB 18 rfl (by kernel_rfl) (by kernel_rfl) rfl rfl rfl ao hb4 (by simp) rfl fun ws48 hb4_ hcs48 => ?_
    try simp only [Sx.splice, qt] at hb4_
    have hch := hch.s1 hcs48
    have hb2 := hb2.keep hcs48 (by simp; omega)
    have hb3 := hb3.keep hcs48 (by simp; omega)
    have hb6 := hb6.keep hcs48 (by simp; omega)
    have hb8 := hb8.keep hcs48 (by simp; omega)
    have ha := ha.keepBK hb4 hcs48 an
    have hb := hb.keepBK hb4 hcs48 an
    have hNr1 := hNr1.keepBK hb4 hcs48 an
    have hNr2 := hNr2.keepBK hb4 hcs48 an
    have hNs := hNs.keepBK hb4 hcs48 an
    have hb4 := hb4_
    refine WK.after 19 rfl (by kernel_rfl) (by kernel_rfl) (Ev.assign rfl) rfl ?_
    refine WK.done (by kernel_rfl) (kr11 _ _ _ ?_)
    refine kh10 _ _ _ ?_
    refine CW.ret ?_
    refine bodyA.retR2 rfl (RVal.cell rfl (hb4.varA rfl rfl)) (RVal.tmp rfl) ?_
    rw [hd1, hd2]
    exact ⟨.inr ⟨by exact hd, rfl⟩, hch⟩
  ·
   refine Mv rfl rfl ?_
   refine WL.ev (Ev.extract rfl rfl) rfl ?_
   refine WL.ev (Ev.extract rfl rfl) rfl ?_
   refine WL.allocB (l := [.bool false, .slice none 0 0, .int .i64 0]) rfl rfl fun b8 wm8 hb8 hcm8 hge8 => ?_
   have hgehch8 := Nat.le_trans hch.size hge8
   have hch := hch.trans (Chg.any hcm8)
   have ha := ha.keep0 hcm8
   have hb := hb.keep0 hcm8
   have hNr1 := hNr1.keep0 hcm8
   have hneb28 : b2 ≠ b8 := by have := hb2.lt; omega
   have hb2 := hb2.keep0 hcm8
   have hneb38 : b3 ≠ b8 := by have := hb3.lt; omega
   have hb3 := hb3.keep0 hcm8
   have hneb48 : b4 ≠ b8 := by have := hb4.lt; omega
   have hb4 := hb4.keep0 hcm8
   have hneb68 : b6 ≠ b8 := by have := hb6.lt; omega
   have hb6 := hb6.keep0 hcm8
   refine WL.storeB rfl rfl rfl ao hb8 (by simp) rfl fun ws49 hb8_ hcs49 => ?_
   try simp only [Sx.splice, qt] at hb8_
   have hch := hch.s1 hcs49
   have hb2 := hb2.keep hcs49 (by simp; omega)
   have hb3 := hb3.keep hcs49 (by simp; omega)
   have hb4 := hb4.keep hcs49 (by simp; omega)
   have hb6 := hb6.keep hcs49 (by simp; omega)
   have ha := ha.keepBK hb8 hcs49 an
   have hb := hb.keepBK hb8 hcs49 an
   have hNr1 := hNr1.keepBK hb8 hcs49 an
   have hb8 := hb8_
   refine As rfl rfl ?_
   refine WL.nil (kr6 _ _ _ (kh5 _ _ _ ?_))
   refine CW.seq fun _ kh12 => ?_
   refine Sq fun _ kh13 _ kr14 => ?_
   refine Mv rfl rfl ?_
   refine WL.ev (Ev.not rfl) rfl ?_
   refine Mv rfl rfl ?_
   refine WL.want rfl rfl rfl rfl ?_
   refine Mv rfl rfl ?_
   refine WL.want rfl rfl rfl rfl ?_
   refine WL.ev (Ev.not rfl) rfl ?_
   refine WL.ev (Ev.pickF rfl rfl rfl) rfl ?_
   refine WL.nil (kr14 _ _ _ (kh13 _ _ _ ?_))
   refine CW.condT rfl ?_
   refine Sq fun _ kh15 _ kr16 => ?_
   refine WL.ev (Ev.build (vs := _) (cs := [_, _, _]) rfl rfl) rfl ?_
   refine WL.storeB rfl rfl rfl ao hb4 (by simp) rfl fun ws50 hb4_ hcs50 => ?_
   try simp only [Sx.splice, qt] at hb4_
   have hch := hch.s1 hcs50
   have hb2 := hb2.keep hcs50 (by simp; omega)
   have hb3 := hb3.keep hcs50 (by simp; omega)
   have hb6 := hb6.keep hcs50 (by simp; omega)
   have hb8 := hb8.keep hcs50 (by simp; omega)
   have ha := ha.keepBK hb4 hcs50 an
   have hb := hb.keepBK hb4 hcs50 an
   have hNr1 := hNr1.keepBK hb4 hcs50 an
   have hb4 := hb4_
   refine As rfl rfl ?_
   refine WL.nil (kr16 _ _ _ (kh15 _ _ _ ?_))
   refine CW.ret ?_
   refine bodyA.retR2 rfl (RVal.cell rfl (hb4.varA rfl rfl)) (RVal.tmp rfl) ?_
   rw [hd2, both2_none_right]
   exact ⟨.inr ⟨rfl, rfl⟩, hch⟩
 ·
  refine Mv rfl rfl ?_
  refine WL.ev (Ev.extract rfl rfl) rfl ?_
  refine WL.ev (Ev.extract rfl rfl) rfl ?_
  refine WL.allocB (l := [.bool false, .slice none 0 0, .int .i64 0]) rfl rfl fun b6 wm6 hb6 hcm6 hge6 => ?_
  have hgehch6 := Nat.le_trans hch.size hge6
  have hch := hch.trans (Chg.any hcm6)
  have ha := ha.keep0 hcm6
  have hb := hb.keep0 hcm6
  have hneb26 : b2 ≠ b6 := by have := hb2.lt; omega
  have hb2 := hb2.keep0 hcm6
  have hneb36 : b3 ≠ b6 := by have := hb3.lt; omega
  have hb3 := hb3.keep0 hcm6
  have hneb46 : b4 ≠ b6 := by have := hb4.lt; omega
  have hb4 := hb4.keep0 hcm6
  refine WL.storeB rfl rfl rfl ao hb6 (by simp) rfl fun ws51 hb6_ hcs51 => ?_
  try simp only [Sx.splice, qt] at hb6_
  have hch := hch.s1 hcs51
  have hb2 := hb2.keep hcs51 (by simp; omega)
  have hb3 := hb3.keep hcs51 (by simp; omega)
  have hb4 := hb4.keep hcs51 (by simp; omega)
  have ha := ha.keepBK hb6 hcs51 an
  have hb := hb.keepBK hb6 hcs51 an
  have hb6 := hb6_
  refine As rfl rfl ?_
  refine WL.nil (kr4 _ _ _ (kh3 _ _ _ ?_))
  refine Sq fun _ kh17 _ kr18 => ?_
  refine WL.ev (Ev.loadA rfl rfl hb3 rfl) rfl ?_
  refine WL.call hasF67 rfl rfl (r3Made_spec nb vb lb eb _ hb heb hlb) fun v w5 h' => ?_
  obtain ⟨hD2, hC2⟩ := h'
  have hch := hch.trans (Chg.any hC2)
  have hb2 := hb2.keep0 hC2
  have hb3 := hb3.keep0 hC2
  have hb4 := hb4.keep0 hC2
  have hb6 := hb6.keep0 hC2
  have ha := ha.keep0 hC2
  have hb := hb.keep0 hC2
  rcases hD2 with ⟨r2, d2, hd2, rfl, hNr2⟩ | ⟨hd2, rfl⟩
  ·
   refine Mv rfl rfl ?_
   refine WL.ev (Ev.extract rfl rfl) rfl ?_
   refine WL.ev (Ev.extract rfl rfl) rfl ?_
   refine WL.allocB (l := [.bool false, .slice none 0 0, .int .i64 0]) rfl rfl fun b8 wm8 hb8 hcm8 hge8 => ?_
   have hgehch8 := Nat.le_trans hch.size hge8
   have hch := hch.trans (Chg.any hcm8)
   have ha := ha.keep0 hcm8
   have hb := hb.keep0 hcm8
   have hNr2 := hNr2.keep0 hcm8
   have hneb28 : b2 ≠ b8 := by have := hb2.lt; omega
   have hb2 := hb2.keep0 hcm8
   have hneb38 : b3 ≠ b8 := by have := hb3.lt; omega
   have hb3 := hb3.keep0 hcm8
   have hneb48 : b4 ≠ b8 := by have := hb4.lt; omega
   have hb4 := hb4.keep0 hcm8
   have hneb68 : b6 ≠ b8 := by have := hb6.lt; omega
   have hb6 := hb6.keep0 hcm8
   refine WL.storeB rfl rfl rfl ao hb8 (by simp) rfl fun ws52 hb8_ hcs52 => ?_
   try simp only [Sx.splice, qt] at hb8_
   have hch := hch.s1 hcs52
   have hb2 := hb2.keep hcs52 (by simp; omega)
   have hb3 := hb3.keep hcs52 (by simp; omega)
   have hb4 := hb4.keep hcs52 (by simp; omega)
   have hb6 := hb6.keep hcs52 (by simp; omega)
   have ha := ha.keepBK hb8 hcs52 an
   have hb := hb.keepBK hb8 hcs52 an
   have hNr2 := hNr2.keepBK hb8 hcs52 an
   have hb8 := hb8_
   refine As rfl rfl ?_
   refine WL.nil (kr18 _ _ _ (kh17 _ _ _ ?_))
   refine CW.seq fun _ kh19 => ?_
   refine Sq fun _ kh20 _ kr21 => ?_
   refine Mv rfl rfl ?_
   refine WL.ev (Ev.not rfl) rfl ?_
   refine Mv rfl rfl ?_
   refine WL.pass rfl rfl rfl rfl rfl ?_
   refine WL.pass rfl rfl rfl rfl rfl ?_
   refine WL.ev (Ev.pickT rfl rfl rfl) rfl ?_
   refine WL.nil (kr21 _ _ _ (kh20 _ _ _ ?_))
   refine CW.condT rfl ?_
   refine Sq fun _ kh22 _ kr23 => ?_
   refine WL.ev (Ev.build (vs := _) (cs := [_, _, _]) rfl rfl) rfl ?_
   refine WL.storeB rfl rfl rfl ao hb4 (by simp) rfl fun ws53 hb4_ hcs53 => ?_
   try simp only [Sx.splice, qt] at hb4_
   have hch := hch.s1 hcs53
   have hb2 := hb2.keep hcs53 (by simp; omega)
   have hb3 := hb3.keep hcs53 (by simp; omega)
   have hb6 := hb6.keep hcs53 (by simp; omega)
   have hb8 := hb8.keep hcs53 (by simp; omega)
   have ha := ha.keepBK hb4 hcs53 an
   have hb := hb.keepBK hb4 hcs53 an
   have hNr2 := hNr2.keepBK hb4 hcs53 an
   have hb4 := hb4_
   refine As rfl rfl ?_
   refine WL.nil (kr23 _ _ _ (kh22 _ _ _ ?_))
   refine CW.ret ?_
   refine bodyA.retR2 rfl (RVal.cell rfl (hb4.varA rfl rfl)) (RVal.tmp rfl) ?_
   rw [hd1, both2_none_left]
   exact ⟨.inr ⟨rfl, rfl⟩, hch⟩
  ·
   refine Mv rfl rfl ?_
   refine WL.ev (Ev.extract rfl rfl) rfl ?_
   refine WL.ev (Ev.extract rfl rfl) rfl ?_
   refine WL.allocB (l := [.bool false, .slice none 0 0, .int .i64 0]) rfl rfl fun b8 wm8 hb8 hcm8 hge8 => ?_
   have hgehch8 := Nat.le_trans hch.size hge8
   have hch := hch.trans (Chg.any hcm8)
   have ha := ha.keep0 hcm8
   have hb := hb.keep0 hcm8
   have hneb28 : b2 ≠ b8 := by have := hb2.lt; omega
   have hb2 := hb2.keep0 hcm8
   have hneb38 : b3 ≠ b8 := by have := hb3.lt; omega
   have hb3 := hb3.keep0 hcm8
   have hneb48 : b4 ≠ b8 := by have := hb4.lt; omega
   have hb4 := hb4.keep0 hcm8
   have hneb68 : b6 ≠ b8 := by have := hb6.lt; omega
   have hb6 := hb6.keep0 hcm8
   refine WL.storeB rfl rfl rfl ao hb8 (by simp) rfl fun ws54 hb8_ hcs54 => ?_
   try simp only [Sx.splice, qt] at hb8_
   have hch := hch.s1 hcs54
   have hb2 := hb2.keep hcs54 (by simp; omega)
   have hb3 := hb3.keep hcs54 (by simp; omega)
   have hb4 := hb4.keep hcs54 (by simp; omega)
   have hb6 := hb6.keep hcs54 (by simp; omega)
   have ha := ha.keepBK hb8 hcs54 an
   have hb := hb.keepBK hb8 hcs54 an
   have hb8 := hb8_
   refine As rfl rfl ?_
   refine WL.nil (kr18 _ _ _ (kh17 _ _ _ ?_))
   refine CW.seq fun _ kh24 => ?_
   refine Sq fun _ kh25 _ kr26 => ?_
   refine Mv rfl rfl ?_
   refine WL.ev (Ev.not rfl) rfl ?_
   refine Mv rfl rfl ?_
   refine WL.pass rfl rfl rfl rfl rfl ?_
   refine WL.pass rfl rfl rfl rfl rfl ?_
   refine WL.ev (Ev.pickT rfl rfl rfl) rfl ?_
   refine WL.nil (kr26 _ _ _ (kh25 _ _ _ ?_))
   refine CW.condT rfl ?_
   refine Sq fun _ kh27 _ kr28 => ?_
   refine WL.ev (Ev.build (vs := _) (cs := [_, _, _]) rfl rfl) rfl ?_
   refine WL.storeB rfl rfl rfl ao hb4 (by simp) rfl fun ws55 hb4_ hcs55 => ?_
   try simp only [Sx.splice, qt] at hb4_
   have hch := hch.s1 hcs55
   have hb2 := hb2.keep hcs55 (by simp; omega)
   have hb3 := hb3.keep hcs55 (by simp; omega)
   have hb6 := hb6.keep hcs55 (by simp; omega)
   have hb8 := hb8.keep hcs55 (by simp; omega)
   have ha := ha.keepBK hb4 hcs55 an
   have hb := hb.keepBK hb4 hcs55 an
   have hb4 := hb4_
   refine As rfl rfl ?_
   refine WL.nil (kr28 _ _ _ (kh27 _ _ _ ?_))
   refine CW.ret ?_
   refine bodyA.retR2 rfl (RVal.cell rfl (hb4.varA rfl rfl)) (RVal.tmp rfl) ?_
   rw [hd1, both2_none_left]
   exact ⟨.inr ⟨rfl, rfl⟩, hch⟩

end Go.Proofs.YtkkklaodligpdaaGreatDoor

/- Reference of layer 3: Against. No condition. -/
namespace Go.Proofs.YtkkklaodligpdaaGreatDoor
open Go Sx Wd

theorem sgn_neg (a b : Nat) : -(sgn a b) = sgn b a := by unfold sgn; split <;> split <;> (try split) <;> omega
theorem sgn_pos {a b : Nat} (h : b < a) : sgn a b = 1 := by unfold sgn; rw [if_neg (by omega), if_pos h]
theorem sgn_lt {a b : Nat} (h : a < b) : sgn a b = -1 := by unfold sgn; rw [if_pos h]
theorem sgn_mulr {a b : Nat} (h : a = 0 ∨ b = 0) (d : Nat) : sgn (a * 2 ^ d) b = sgn a b := by
  have hp := Nat.two_pow_pos d
  rcases h with h | h
  · rw [h, Nat.zero_mul]
  · subst h
    rcases Nat.eq_zero_or_pos a with h1 | h1
    · rw [h1, Nat.zero_mul]
    · rw [sgn_pos h1, sgn_pos (Nat.mul_pos h1 hp)]
theorem bl_up_gt {m n d : Nat} (hm : m ≠ 0) (h : bl n < bl m + d) : n < m * 2 ^ d := by
  rw [← bl_mul_pow hm] at h
  exact Nat.lt_of_lt_of_le (bl_lt n) (lt_bl.1 h)
theorem bl_up_lt {m n d : Nat} (hm : m ≠ 0) (h : bl m + d < bl n) : m * 2 ^ d < n := by
  rw [← bl_mul_pow hm] at h
  exact Nat.lt_of_lt_of_le (bl_lt _) (lt_bl.1 h)
/-- How m times 2^e stands to n times 2^f. -/
def cmpX (m : Nat) (e : Int) (n : Nat) (f : Int) : Int := sgn (m * 2 ^ (e - min e f).toNat) (n * 2 ^ (f - min e f).toNat)

set_option maxRecDepth 8000 in
set_option maxHeartbeats 1000000 in
theorem r3AgainstGe_spec (va vb : Value) (la lb : List Nat) (e f : Int) (w : World) (ha : NU w va la) (hb : NU w vb lb) (he : -9223372036854775808 ≤ e ∧ e ≤ 9223372036854775807) (hf : -9223372036854775808 ≤ f ∧ f ≤ 9223372036854775807) (hla : la.length ≤ 17179869184) (hlb : lb.length ≤ 17179869184) (hfe : f ≤ e) : Ret Tryz.prog 216 [va, .int .i64 e, vb, .int .i64 f] w fun u w' => u = .int .i64 (sgn (val la * 2 ^ (e - f).toNat) (val lb)) ∧ Chg [] w w' := by
 obtain ⟨d, hd⟩ : ∃ d : Nat, (d : Int) = e - f := ⟨(e - f).toNat, by omega⟩
 rw [show (e - f).toNat = d by omega]
 have ha0 := ha
 have hb0 := hb
 have hba := bl_le.2 (val_lt ha.hw)
 have hbb := bl_le.2 (val_lt hb.hw)
 have hza := bl_eq_zero (n := val la)
 have hzb := bl_eq_zero (n := val lb)
 obtain ⟨i, hi⟩ : ∃ i, i = bl (val la) := ⟨_, rfl⟩
 obtain ⟨k, hk⟩ : ∃ k, k = bl (val lb) := ⟨_, rfl⟩
 rw [← hi] at hba hza
 rw [← hk] at hbb hzb
 have hch : Chg [] w w := Chg.refl _ _
 refine Ret.enter Tryz.func216 rfl rfl ?_
 simp only [args0, Nat.zero_add, Nat.reduceAdd]
 refine Sq fun _ kh1 _ kr2 => ?_
 refine As rfl rfl ?_
 refine WL.nil (kr2 _ _ _ (kh1 _ _ _ ?_))
 refine Sq fun _ kh3 _ kr4 => ?_
 refine Mv rfl rfl ?_
 refine WL.call hasF187 rfl rfl (r2Len_spec _ _ _ (ha.keep0 hch) (by omega)) fun v w1 h' => ?_
 obtain ⟨rfl, rfl⟩ := h'
 rw [← hi]
 refine WL.ev (Ev.convIn rfl rfl (in_u64 (by omega))) rfl ?_
 refine As rfl rfl ?_
 refine WL.nil (kr4 _ _ _ (kh3 _ _ _ ?_))
 refine Sq fun _ kh5 _ kr6 => ?_
 refine Mv rfl rfl ?_
 refine WL.call hasF187 rfl rfl (r2Len_spec _ _ _ (hb.keep0 hch) (by omega)) fun v w2 h' => ?_
 obtain ⟨rfl, rfl⟩ := h'
 rw [← hk]
 refine WL.ev (Ev.convIn rfl rfl (in_u64 (by omega))) rfl ?_
 refine As rfl rfl ?_
 refine WL.nil (kr6 _ _ _ (kh5 _ _ _ ?_))
 refine CW.seq fun _ kh7 => ?_
 refine CW.seqM 23 (decide (i = 0 ∨ k = 0)) ?_ ?_
 ·
  refine CW.region fun kR8 kr8 => ?_
  refine Mv rfl rfl ?_
  refine WL.ev (Ev.eql rfl rfl) rfl ?_
  refine Mv rfl rfl ?_
  refine WL.boolCase (fun hg1 => ?_) (fun hg1 => ?_)
  ·
   try simp only [qs] at hg1
   refine WL.pass rfl rfl rfl rfl rfl ?_
   refine WL.pass rfl rfl rfl rfl rfl ?_
   refine WL.ev (Ev.pickT rfl rfl rfl) rfl ?_
   refine WL.nil (kr8 _ _ _ ?_)
   refine ⟨rfl, rfl, Subs.consB rfl ?_ ?_⟩
   ·
    first | (simp; omega) | (simp_all; done) | (refine decide_eq_decide.2 ?_; omega)
   ·
    first | ((repeat (first | exact Subs.refl | refine Subs.drop1 (by rfl) ?_)); done) | ((repeat (first | exact Subs.nil | refine Subs.cons rfl ?_)); done)
  ·
   try simp only [qs] at hg1
   refine WL.want rfl rfl rfl rfl ?_
   refine Mv rfl rfl ?_
   refine WL.want rfl rfl rfl rfl ?_
   refine WL.ev (Ev.eql rfl rfl) rfl ?_
   refine WL.ev (Ev.pickF rfl rfl rfl) rfl ?_
   refine WL.nil (kr8 _ _ _ ?_)
   refine ⟨rfl, rfl, Subs.consB rfl ?_ ?_⟩
   ·
    first | (simp; omega) | (simp_all; done) | (refine decide_eq_decide.2 ?_; omega)
   ·
    first | ((repeat (first | exact Subs.refl | refine Subs.drop1 (by rfl) ?_)); done) | ((repeat (first | exact Subs.nil | refine Subs.cons rfl ?_)); done)
 ·
  refine CW.cond rfl (fun hc2 => ?_) (fun hc2 => ?_)
  ·
   try simp only [qs] at hc2
   have hz := hc2
   refine Sq fun _ kh9 _ kr10 => ?_
   refine Mv rfl rfl ?_
   refine Mv rfl rfl ?_
   refine WL.call hasF117 rfl rfl (r2Cmp_spec _ _ _ _ _ (ha.keep0 hch) (hb.keep0 hch)) fun v w3 h' => ?_
   obtain ⟨rfl, hC⟩ := h'
   have hch := hch.trans (Chg.any hC)
   refine As rfl rfl ?_
   refine WL.nil (kr10 _ _ _ (kh9 _ _ _ ?_))
   refine CW.ret ?_
   refine bodyA.ret1 rfl rfl ?_
   rw [sgn_mulr (by omega)]
   exact ⟨rfl, hch⟩
  ·
   try simp only [qs] at hc2
   have hz := hc2
   have hm0 : val la ≠ 0 := by omega
   refine CW.skip ?_
   refine kh7 _ _ _ ?_
   refine CW.seq fun _ kh11 => ?_
   refine Sq fun _ kh12 _ kr13 => ?_
   refine Mv rfl rfl ?_
   refine Mv rfl rfl ?_
   refine WL.ev (Ev.lss rfl rfl) rfl ?_
   refine WL.nil (kr13 _ _ _ (kh12 _ _ _ ?_))
   refine CW.cond rfl (fun hc3 => ?_) (fun hc3 => ?_)
   ·
    try simp only [qs] at hc3
    exfalso; omega
   ·
    try simp only [qs] at hc3
    refine CW.skip ?_
    refine kh11 _ _ _ ?_
    refine Sq fun _ kh14 _ kr15 => ?_
    refine Mv rfl rfl ?_
    refine WL.ev (Ev.conv rfl rfl) rfl ?_
    rw [wrap_u64i]
    refine Mv rfl rfl ?_
    refine WL.ev (Ev.conv rfl rfl) rfl ?_
    rw [wrap_u64i]
    refine WL.ev (Ev.sub rfl rfl) rfl ?_
    rw [wrap_u64i, show (e % 18446744073709551616 - f % 18446744073709551616) % 18446744073709551616 = ((d : Nat) : Int) by omega]
    refine As rfl rfl ?_
    refine WL.nil (kr15 _ _ _ (kh14 _ _ _ ?_))
    refine CW.seq fun _ kh16 => ?_
    refine CW.seqM 49 (decide (1099511627776 < d ∨ k < i + d)) ?_ ?_
    ·
     refine CW.region fun kR17 kr17 => ?_
     refine Mv rfl rfl ?_
     refine WL.ev (Ev.gtr rfl rfl) rfl ?_
     refine Mv rfl rfl ?_
     refine WL.boolCase (fun hg4 => ?_) (fun hg4 => ?_)
     ·
      try simp only [qs] at hg4
      refine WL.pass rfl rfl rfl rfl rfl ?_
      refine WL.pass rfl rfl rfl rfl rfl ?_
      refine WL.pass rfl rfl rfl rfl rfl ?_
      refine WL.pass rfl rfl rfl rfl rfl ?_
      refine WL.pass rfl rfl rfl rfl rfl ?_
      refine WL.ev (Ev.pickT rfl rfl rfl) rfl ?_
      refine WL.nil (kr17 _ _ _ ?_)
      refine ⟨rfl, rfl, Subs.consB rfl ?_ ?_⟩
      ·
       first | (simp; omega) | (simp_all; done) | (refine decide_eq_decide.2 ?_; omega)
      ·
       first | ((repeat (first | exact Subs.refl | refine Subs.drop1 (by rfl) ?_)); done) | ((repeat (first | exact Subs.nil | refine Subs.cons rfl ?_)); done)
     ·
      try simp only [qs] at hg4
      refine WL.want rfl rfl rfl rfl ?_
      refine Mv rfl rfl ?_
      refine WL.want rfl rfl rfl rfl ?_
      refine Mv rfl rfl ?_
      refine WL.want rfl rfl rfl rfl ?_
      first | refine WL.ev (Ev.add64In rfl rfl (by omega)) rfl ?_ | refine WL.ev (Ev.add64 rfl rfl) rfl ?_
      refine WL.want rfl rfl rfl rfl ?_
      refine Mv rfl rfl ?_
      refine WL.want rfl rfl rfl rfl ?_
      refine WL.ev (Ev.gtr rfl rfl) rfl ?_
      refine WL.ev (Ev.pickF rfl rfl rfl) rfl ?_
      refine WL.nil (kr17 _ _ _ ?_)
      refine ⟨rfl, rfl, Subs.consB rfl ?_ ?_⟩
      ·
       first | (simp; omega) | (simp_all; done) | (refine decide_eq_decide.2 ?_; omega)
      ·
       first | ((repeat (first | exact Subs.refl | refine Subs.drop1 (by rfl) ?_)); done) | ((repeat (first | exact Subs.nil | refine Subs.cons rfl ?_)); done)
    ·
     refine CW.cond rfl (fun hc5 => ?_) (fun hc5 => ?_)
     ·
      try simp only [qs] at hc5
      have hz := hc5
      refine Sq fun _ kh18 _ kr19 => ?_
      refine As rfl rfl ?_
      refine WL.nil (kr19 _ _ _ (kh18 _ _ _ ?_))
      refine CW.ret ?_
      refine bodyA.ret1 rfl rfl ?_
      rw [sgn_pos (bl_up_gt hm0 (by omega))]
      exact ⟨rfl, hch⟩
     ·
      try simp only [qs] at hc5
      refine CW.skip ?_
      refine kh16 _ _ _ ?_
      refine CW.seq fun _ kh20 => ?_
      refine Sq fun _ kh21 _ kr22 => ?_
      refine Mv rfl rfl ?_
      refine Mv rfl rfl ?_
      first | refine WL.ev (Ev.add64In rfl rfl (by omega)) rfl ?_ | refine WL.ev (Ev.add64 rfl rfl) rfl ?_
      refine Mv rfl rfl ?_
      refine WL.ev (Ev.lss rfl rfl) rfl ?_
      refine WL.nil (kr22 _ _ _ (kh21 _ _ _ ?_))
      refine CW.cond rfl (fun hc6 => ?_) (fun hc6 => ?_)
      ·
       try simp only [qs] at hc6
       have hz2 := hc6
       refine Sq fun _ kh23 _ kr24 => ?_
       refine As rfl rfl ?_
       refine WL.nil (kr24 _ _ _ (kh23 _ _ _ ?_))
       refine CW.ret ?_
       refine bodyA.ret1 rfl rfl ?_
       rw [sgn_lt (bl_up_lt hm0 (by omega))]
       exact ⟨rfl, hch⟩
      ·
       try simp only [qs] at hc6
       refine CW.skip ?_
       refine kh20 _ _ _ ?_
       refine Sq fun _ kh25 _ kr26 => ?_
       refine Mv rfl rfl ?_
       refine Mv rfl rfl ?_
       refine WL.ev (Ev.convIn rfl rfl (in_i64 (by omega))) rfl ?_
       refine WL.call hasF115 rfl rfl (r2MovedUp_spec _ _ _ (ha.keep0 hch) d (by omega) (by omega)) fun v w4 h' => ?_
       obtain ⟨hNm, hC, hFm⟩ := h'
       have hch := hch.trans (Chg.any hC)
       refine Mv rfl rfl ?_
       refine WL.call hasF117 rfl rfl (r2Cmp_spec _ _ _ _ _ hNm (hb.keep0 hch)) fun v w5 h' => ?_
       obtain ⟨rfl, hC⟩ := h'
       rw [val_wd]
       have hch := hch.trans (Chg.any hC)
       have hNm := hNm.keep0 hC
       refine As rfl rfl ?_
       refine WL.nil (kr26 _ _ _ (kh25 _ _ _ ?_))
       refine CW.ret ?_
       refine bodyA.ret1 rfl rfl ?_
       exact ⟨rfl, hch⟩

set_option maxRecDepth 8000 in
set_option maxHeartbeats 1000000 in
theorem r3AgainstLt_spec (va vb : Value) (la lb : List Nat) (e f : Int) (w : World) (ha : NU w va la) (hb : NU w vb lb) (he : -9223372036854775808 ≤ e ∧ e ≤ 9223372036854775807) (hf : -9223372036854775808 ≤ f ∧ f ≤ 9223372036854775807) (hla : la.length ≤ 17179869184) (hlb : lb.length ≤ 17179869184) (hef : e < f) : Ret Tryz.prog 216 [va, .int .i64 e, vb, .int .i64 f] w fun u w' => u = .int .i64 (sgn (val la) (val lb * 2 ^ (f - e).toNat)) ∧ Chg [] w w' := by
 have ha0 := ha
 have hb0 := hb
 have hba := bl_le.2 (val_lt ha.hw)
 have hbb := bl_le.2 (val_lt hb.hw)
 have hza := bl_eq_zero (n := val la)
 have hzb := bl_eq_zero (n := val lb)
 obtain ⟨i, hi⟩ : ∃ i, i = bl (val la) := ⟨_, rfl⟩
 obtain ⟨k, hk⟩ : ∃ k, k = bl (val lb) := ⟨_, rfl⟩
 rw [← hi] at hba hza
 rw [← hk] at hbb hzb
 have hch : Chg [] w w := Chg.refl _ _
 refine Ret.enter Tryz.func216 rfl rfl ?_
 simp only [args0, Nat.zero_add, Nat.reduceAdd]
 refine Sq fun _ kh1 _ kr2 => ?_
 refine As rfl rfl ?_
 refine WL.nil (kr2 _ _ _ (kh1 _ _ _ ?_))
 refine Sq fun _ kh3 _ kr4 => ?_
 refine Mv rfl rfl ?_
 refine WL.call hasF187 rfl rfl (r2Len_spec _ _ _ (ha.keep0 hch) (by omega)) fun v w1 h' => ?_
 obtain ⟨rfl, rfl⟩ := h'
 rw [← hi]
 refine WL.ev (Ev.convIn rfl rfl (in_u64 (by omega))) rfl ?_
 refine As rfl rfl ?_
 refine WL.nil (kr4 _ _ _ (kh3 _ _ _ ?_))
 refine Sq fun _ kh5 _ kr6 => ?_
 refine Mv rfl rfl ?_
 refine WL.call hasF187 rfl rfl (r2Len_spec _ _ _ (hb.keep0 hch) (by omega)) fun v w2 h' => ?_
 obtain ⟨rfl, rfl⟩ := h'
 rw [← hk]
 refine WL.ev (Ev.convIn rfl rfl (in_u64 (by omega))) rfl ?_
 refine As rfl rfl ?_
 refine WL.nil (kr6 _ _ _ (kh5 _ _ _ ?_))
 refine CW.seq fun _ kh7 => ?_
 refine CW.seqM 23 (decide (i = 0 ∨ k = 0)) ?_ ?_
 ·
  refine CW.region fun kR8 kr8 => ?_
  refine Mv rfl rfl ?_
  refine WL.ev (Ev.eql rfl rfl) rfl ?_
  refine Mv rfl rfl ?_
  refine WL.boolCase (fun hg1 => ?_) (fun hg1 => ?_)
  ·
   try simp only [qs] at hg1
   refine WL.pass rfl rfl rfl rfl rfl ?_
   refine WL.pass rfl rfl rfl rfl rfl ?_
   refine WL.ev (Ev.pickT rfl rfl rfl) rfl ?_
   refine WL.nil (kr8 _ _ _ ?_)
   refine ⟨rfl, rfl, Subs.consB rfl ?_ ?_⟩
   ·
    first | (simp; omega) | (simp_all; done) | (refine decide_eq_decide.2 ?_; omega)
   ·
    first | ((repeat (first | exact Subs.refl | refine Subs.drop1 (by rfl) ?_)); done) | ((repeat (first | exact Subs.nil | refine Subs.cons rfl ?_)); done)
  ·
   try simp only [qs] at hg1
   refine WL.want rfl rfl rfl rfl ?_
   refine Mv rfl rfl ?_
   refine WL.want rfl rfl rfl rfl ?_
   refine WL.ev (Ev.eql rfl rfl) rfl ?_
   refine WL.ev (Ev.pickF rfl rfl rfl) rfl ?_
   refine WL.nil (kr8 _ _ _ ?_)
   refine ⟨rfl, rfl, Subs.consB rfl ?_ ?_⟩
   ·
    first | (simp; omega) | (simp_all; done) | (refine decide_eq_decide.2 ?_; omega)
   ·
    first | ((repeat (first | exact Subs.refl | refine Subs.drop1 (by rfl) ?_)); done) | ((repeat (first | exact Subs.nil | refine Subs.cons rfl ?_)); done)
 ·
  refine CW.cond rfl (fun hc2 => ?_) (fun hc2 => ?_)
  ·
   try simp only [qs] at hc2
   have hz := hc2
   refine Sq fun _ kh9 _ kr10 => ?_
   refine Mv rfl rfl ?_
   refine Mv rfl rfl ?_
   refine WL.call hasF117 rfl rfl (r2Cmp_spec _ _ _ _ _ (ha.keep0 hch) (hb.keep0 hch)) fun v w3 h' => ?_
   obtain ⟨rfl, hC⟩ := h'
   have hch := hch.trans (Chg.any hC)
   refine As rfl rfl ?_
   refine WL.nil (kr10 _ _ _ (kh9 _ _ _ ?_))
   refine CW.ret ?_
   refine bodyA.ret1 rfl rfl ?_
   rw [← sgn_neg (val lb * 2 ^ (f - e).toNat) (val la), sgn_mulr (by omega), sgn_neg]
   exact ⟨rfl, hch⟩
  ·
   try simp only [qs] at hc2
   refine CW.skip ?_
   refine kh7 _ _ _ ?_
   refine CW.seq fun _ kh11 => ?_
   refine Sq fun _ kh12 _ kr13 => ?_
   refine Mv rfl rfl ?_
   refine Mv rfl rfl ?_
   refine WL.ev (Ev.lss rfl rfl) rfl ?_
   refine WL.nil (kr13 _ _ _ (kh12 _ _ _ ?_))
   refine CW.cond rfl (fun hc3 => ?_) (fun hc3 => ?_)
   ·
    try simp only [qs] at hc3
    refine Sq fun _ kh14 _ kr15 => ?_
    refine Mv rfl rfl ?_
    refine Mv rfl rfl ?_
    refine Mv rfl rfl ?_
    refine Mv rfl rfl ?_
    refine WL.call hasF216 rfl rfl (r3AgainstGe_spec _ _ _ _ f e _ (hb.keep0 hch) (ha.keep0 hch) hf he hlb hla (by omega)) fun v w4 h' => ?_
    obtain ⟨rfl, hC⟩ := h'
    have hch := hch.trans (Chg.any hC)
    refine WL.ev (Ev.negIn rfl (by have := sgn_le (a := val lb * 2 ^ (f - e).toNat) (b := val la); unfold sgn; split <;> (try split) <;> omega)) rfl ?_
    rw [sgn_neg]
    refine As rfl rfl ?_
    refine WL.nil (kr15 _ _ _ (kh14 _ _ _ ?_))
    refine CW.ret ?_
    refine bodyA.ret1 rfl rfl ?_
    exact ⟨rfl, hch⟩
   ·
    try simp only [qs] at hc3
    exfalso; omega

theorem r3Against_spec (va vb : Value) (la lb : List Nat) (e f : Int) (w : World) (ha : NU w va la) (hb : NU w vb lb) (he : -9223372036854775808 ≤ e ∧ e ≤ 9223372036854775807) (hf : -9223372036854775808 ≤ f ∧ f ≤ 9223372036854775807) (hla : la.length ≤ 17179869184) (hlb : lb.length ≤ 17179869184) : Ret Tryz.prog 216 [va, .int .i64 e, vb, .int .i64 f] w fun u w' => u = .int .i64 (cmpX (val la) e (val lb) f) ∧ Chg [] w w' := by
  by_cases h : f ≤ e
  · have := r3AgainstGe_spec va vb la lb e f w ha hb he hf hla hlb h
    unfold cmpX
    rw [show e - min e f = e - f by omega, show (f - min e f).toNat = 0 by omega, Nat.pow_zero, Nat.mul_one]
    exact this
  · have := r3AgainstLt_spec va vb la lb e f w ha hb he hf hla hlb (by omega)
    unfold cmpX
    rw [show f - min e f = f - e by omega, show (e - min e f).toNat = 0 by omega, Nat.pow_zero, Nat.mul_one]
    exact this

end Go.Proofs.YtkkklaodligpdaaGreatDoor

/- Sums of forms as whole numbers of the lowest unit. No condition. -/
namespace Go.Proofs.YtkkklaodligpdaaGreatDoor
open Go Sx Wd

theorem tz_scale {m : Nat} (h : m ≠ 0) (k : Nat) : tz (m * 2 ^ k) = tz m + k := by
  obtain ⟨h1, h2⟩ := tz_spec h
  refine tz_unique (m := m / 2 ^ tz m) ?_ h1
  rw [Nat.pow_add, ← Nat.mul_assoc, ← h2]
theorem formD_scale {neg : Bool} {m k : Nat} {e f : Int} (he : f = e - (k : Int)) : formD neg (m * 2 ^ k) f = formD neg m e := by
  by_cases h0 : m = 0
  · subst h0; rw [Nat.zero_mul, formD_zero, formD_zero]
  · have hk := Nat.two_pow_pos k
    have hn : m * 2 ^ k ≠ 0 := Nat.mul_ne_zero h0 (by omega)
    have ht := tz_scale h0 k
    have hd : m * 2 ^ k / 2 ^ tz (m * 2 ^ k) = m / 2 ^ tz m := by
      rw [ht, Nat.pow_add, Nat.mul_comm (2 ^ tz m), ← Nat.div_div_eq_div_mul, Nat.mul_div_cancel _ hk]
    unfold formD
    rw [if_neg hn, if_neg h0, hd, ht, he]
    have e1 : (1048576 - ((tz m + k : Nat) : Int) < e - (k : Int) ∨ e - (k : Int) < -1048576 - ((tz m + k : Nat) : Int) ∨ 8192 < (wd (m / 2 ^ tz m)).length) ↔ (1048576 - (tz m : Int) < e ∨ e < -1048576 - (tz m : Int) ∨ 8192 < (wd (m / 2 ^ tz m)).length) := by omega
    by_cases h : 1048576 - (tz m : Int) < e ∨ e < -1048576 - (tz m : Int) ∨ 8192 < (wd (m / 2 ^ tz m)).length
    · rw [if_pos (e1.2 h), if_pos h]
    · rw [if_neg (fun q => h (e1.1 q)), if_neg h, show e - (k : Int) + ((tz m + k : Nat) : Int) = e + (tz m : Int) by omega]
/-- Sums that an accumulator may have. -/
def InB (S : Int) : Prop := -((16384 * BB : Nat) : Int) < S ∧ S < (16384 * BB : Nat)
theorem InB.zero : InB 0 := ⟨by have := BB_pos; omega, by have := BB_pos; omega⟩
theorem InB.lt {S : Int} (h : InB S) : S.natAbs < 2 ^ 4238 := by
  obtain ⟨h1, h2⟩ := h
  rw [← BB_pow]; omega
theorem sumD_some {S : Int} (h : InB S) {neg : Bool} (hn : S ≠ 0 → neg = decide (S < 0)) : formD neg S.natAbs (-2148) = some (sumD S) := by
  obtain ⟨h1, h2⟩ := h
  have e := sumD_eq h1 h2 (decide (S < 0))
  unfold sumD
  rw [e, sumD_eq h1 h2 neg, Option.getD_some]
  by_cases h0 : S = 0
  · rw [if_pos h0, if_pos h0]
  · rw [if_neg h0, if_neg h0, hn h0]
theorem rsumD_zero : sumD 0 = Dy.zero := rfl
theorem sumD_val {S : Int} (h : InB S) (h0 : S ≠ 0) : sumD S = ⟨decide (S < 0), S.natAbs / 2 ^ tz S.natAbs, -2148 + tz S.natAbs⟩ := by
  obtain ⟨h1, h2⟩ := h
  unfold sumD
  rw [sumD_eq h1 h2, if_neg h0, Option.getD_some]
theorem rsumD_ok {S : Int} (h : InB S) : (sumD S).ok := formD_ok (sumD_some h (neg := decide (S < 0)) (fun _ => rfl))
theorem rsumD_m0 {S : Int} (h : InB S) : (sumD S).m = 0 ↔ S = 0 := by
  constructor
  · intro hm
    apply Classical.byContradiction
    intro h0
    rw [sumD_val h h0] at hm
    have := (tz_spec (n := S.natAbs) (by omega)).1
    dsimp only at hm
    rw [hm] at this; simp at this
  · intro h0; rw [h0]; rfl
theorem scaled_len {p c n : Nat} (h : n = p * 2 ^ c) (hn : n < 2 ^ 4238) : (wd p).length ≤ 8192 := by
  have h1 : p ≤ n := by rw [h]; exact Nat.le_mul_of_pos_right _ (Nat.two_pow_pos _)
  exact wd_len_gen (Nat.lt_of_le_of_lt h1 hn) (by decide)
theorem addD_sum {S T : Int} (hS : InB S) (hT : InB T) (hST : InB (S + T)) : addD (sumD S) (sumD T) = some (sumD (S + T)) := by
  by_cases h0 : S = 0
  · subst h0
    rw [rsumD_zero, Int.zero_add]
    unfold addD; rw [if_pos (show Dy.zero.m = 0 from rfl)]
  by_cases h1 : T = 0
  · subst h1
    rw [rsumD_zero, Int.add_zero]
    unfold addD; rw [if_neg (fun q => h0 ((rsumD_m0 hS).1 q)), if_pos (show Dy.zero.m = 0 from rfl)]
  obtain ⟨-, ha⟩ := tz_spec (n := S.natAbs) (by omega)
  obtain ⟨-, hb⟩ := tz_spec (n := T.natAbs) (by omega)
  have hx := sumD_val hS h0
  have hy := sumD_val hT h1
  have hxm : (sumD S).m ≠ 0 := fun q => h0 ((rsumD_m0 hS).1 q)
  have hym : (sumD T).m ≠ 0 := fun q => h1 ((rsumD_m0 hT).1 q)
  have hsl := hS.lt
  have htl := hT.lt
  generalize tz S.natAbs = a at *
  generalize tz T.natAbs = b at *
  generalize hX : S.natAbs / 2 ^ a = X at *
  generalize hY : T.natAbs / 2 ^ b = Y at *
  obtain ⟨c, hc⟩ : ∃ c, c = min a b := ⟨_, rfl⟩
  have he : min (sumD S).e (sumD T).e = -2148 + (c : Int) := by rw [hx, hy]; dsimp only; omega
  have hpe : ((sumD S).e - (-2148 + (c : Int))).toNat = a - c := by rw [hx]; dsimp only; omega
  have hqe : ((sumD T).e - (-2148 + (c : Int))).toNat = b - c := by rw [hy]; dsimp only; omega
  have hp : S.natAbs = X * 2 ^ (a - c) * 2 ^ c := by rw [Nat.mul_assoc, ← Nat.pow_add, show a - c + c = a by omega]; exact ha
  have hq : T.natAbs = Y * 2 ^ (b - c) * 2 ^ c := by rw [Nat.mul_assoc, ← Nat.pow_add, show b - c + c = b by omega]; exact hb
  rw [addD_eq hxm hym rfl rfl, he, hpe, hqe]
  rw [show (sumD S).m = X by rw [hx], show (sumD T).m = Y by rw [hy], show (sumD S).neg = decide (S < 0) by rw [hx], show (sumD T).neg = decide (T < 0) by rw [hy]]
  generalize X * 2 ^ (a - c) = p at *
  generalize Y * 2 ^ (b - c) = q at *
  have lp := scaled_len hp hsl
  have lq := scaled_len hq htl
  rw [if_neg (by omega)]
  have hc2 := Nat.two_pow_pos c
  by_cases hs : decide (S < 0) = decide (T < 0)
  · rw [if_pos hs, ← formD_scale (k := c) (f := -2148) (by omega), Nat.add_mul, ← hp, ← hq]
    have hiff : S < 0 ↔ T < 0 := by simpa using hs
    have e : S.natAbs + T.natAbs = (S + T).natAbs := by omega
    rw [e]
    exact sumD_some hST fun _ => decide_eq_decide.2 (by omega)
  · have hiff : ¬ (S < 0 ↔ T < 0) := fun q => hs (decide_eq_decide.2 q)
    rw [if_neg hs]
    by_cases hlt : p < q
    · have hl2 : S.natAbs < T.natAbs := by rw [hp, hq]; exact Nat.mul_lt_mul_of_pos_right hlt hc2
      rw [if_pos hlt, ← formD_scale (k := c) (f := -2148) (by omega), Nat.sub_mul, ← hp, ← hq, show T.natAbs - S.natAbs = (S + T).natAbs by omega]
      exact sumD_some hST fun _ => decide_eq_decide.2 (by omega)
    · have hl2 : T.natAbs ≤ S.natAbs := by rw [hp, hq]; exact Nat.mul_le_mul_right _ (by omega)
      rw [if_neg hlt, ← formD_scale (k := c) (f := -2148) (by omega), Nat.sub_mul, ← hp, ← hq, show S.natAbs - T.natAbs = (S + T).natAbs by omega]
      exact sumD_some hST fun hne => decide_eq_decide.2 (by omega)
theorem kind_cls {x : Nat} : kindP x ≤ 2 ↔ (splitP x).cls ≤ 2 := by
  unfold kindP splitP
  by_cases a : x / 4503599627370496 % 2048 = 2047 ∧ x % 4503599627370496 ≠ 0
  · rw [if_pos a]; simp
  · rw [if_neg a]
    by_cases b : x / 4503599627370496 % 2048 = 2047
    · rw [if_pos b]; by_cases d : x / 9223372036854775808 % 2 = 1 <;> simp [d]
    · rw [if_neg b]
      by_cases d : 0 < x / 4503599627370496 % 2048
      · rw [if_pos d]; simp
      · rw [if_neg d]
        by_cases f : 0 < x % 4503599627370496
        · rw [if_pos f]; simp
        · rw [if_neg f]; by_cases g : x / 9223372036854775808 % 2 = 1 <;> simp [g]
theorem fvI_in (x : Nat) : InB (fvI x) := by
  have h := sumI_in (l := [x]) (by simp)
  have : sumI [x] = fvI x := by simp [sumI]
  rw [this] at h; exact h
theorem rfvI_abs (x : Nat) : (fvI x).natAbs = fvN x := by unfold fvI; split <;> omega
theorem floatD_sum {x : Nat} (hx : x < 18446744073709551616) (h : (splitP x).cls ≤ 2) : floatD x = some (sumD (fvI x)) := by
  have hk := kindP_bits hx
  have hle := kind_cls.2 h
  have hlt : ¬ 9218868437227405312 ≤ x % 9223372036854775808 := fun q => by
    rw [hk] at hle
    by_cases a : 9218868437227405312 < x % 9223372036854775808
    · rw [if_pos a] at hle; omega
    · rw [if_neg a] at hle
      by_cases b : x / 9223372036854775808 = 1
      · rw [if_pos ⟨by omega, b⟩] at hle; omega
      · rw [if_neg (fun q => b q.2), if_pos (by omega)] at hle; omega
  unfold floatD bitsD
  rw [if_neg hlt]
  have e1 : numM (x % 9223372036854775808) * 2 ^ (numE (x % 9223372036854775808) + 2148).toNat = fvN x ∧ (fvN x ≠ 0 → decide (x / 9223372036854775808 = 1) = (splitP x).neg) := by
    have hq1 : x % 9223372036854775808 / 4503599627370496 = x / 4503599627370496 % 2048 := by omega
    have hq2 : x % 9223372036854775808 % 4503599627370496 = x % 4503599627370496 := by omega
    have hne : ¬ x / 4503599627370496 % 2048 = 2047 := by omega
    unfold numM numE fvN splitP
    rw [hq1, hq2, if_neg (show ¬ (x / 4503599627370496 % 2048 = 2047 ∧ x % 4503599627370496 ≠ 0) from fun q => hne q.1), if_neg hne]
    have hd : decide (x / 9223372036854775808 = 1) = decide (x / 9223372036854775808 % 2 = 1) := decide_eq_decide.2 (by omega)
    by_cases d : 0 < x / 4503599627370496 % 2048
    · rw [if_neg (show ¬ x / 4503599627370496 % 2048 = 0 by omega), if_neg (show ¬ x / 4503599627370496 % 2048 = 0 by omega), if_pos d, if_pos (.inr rfl)]
      exact ⟨by rw [Nat.add_comm], fun _ => hd⟩
    · rw [if_pos (show x / 4503599627370496 % 2048 = 0 by omega), if_pos (show x / 4503599627370496 % 2048 = 0 by omega), if_neg d]
      by_cases f : 0 < x % 4503599627370496
      · rw [if_pos f, if_pos (.inl rfl)]
        exact ⟨rfl, fun _ => hd⟩
      · rw [if_neg f, if_neg (by simp), show x % 4503599627370496 = 0 by omega, Nat.zero_mul]
        exact ⟨rfl, fun q => absurd rfl q⟩
  have hE := (numE_le (x % 9223372036854775808) (by omega)).1
  rw [← formD_scale (k := (numE (x % 9223372036854775808) + 2148).toNat) (f := -2148) (by omega), e1.1, ← rfvI_abs]
  refine sumD_some (fvI_in x) fun hn => ?_
  have hN : fvN x ≠ 0 := by rw [← rfvI_abs]; omega
  rw [e1.2 hN]
  unfold fvI
  cases hg : (splitP x).neg
  · rw [if_neg (by decide)]; exact (decide_eq_false (by omega)).symm
  · rw [if_pos rfl]; exact (decide_eq_true (by omega)).symm
end Go.Proofs.YtkkklaodligpdaaGreatDoor

/- Reference of layer 7: things, counts, sums. No condition. -/
namespace Go.Proofs.YtkkklaodligpdaaGreatDoor
open Go Sx Wd

end Go.Proofs.YtkkklaodligpdaaGreatDoor

/- Reference of layer 7: Whole. No condition. -/
namespace Go.Proofs.YtkkklaodligpdaaGreatDoor
open Go Sx Wd

end Go.Proofs.YtkkklaodligpdaaGreatDoor

/- Reference of layer 11: may. No condition. -/
namespace Go.Proofs.YtkkklaodligpdaaGreatDoor
open Go Sx Wd

set_option maxRecDepth 8000 in
set_option maxHeartbeats 2000000 in
theorem r11may_spec (b : Nat) (nn nd : Bool) (vn vd : Value) (ln ld : List Nat) (en ed : Int) (w : World) (hB : BK w b 83 [.bool nn, vn, .int .i64 en, .bool nd, vd, .int .i64 ed]) (hn : NU w vn ln) (hd : NU w vd ld) (hen : -9223372036854775808 ≤ en ∧ en ≤ 9223372036854775807) (hed : -9223372036854775808 ≤ ed ∧ ed ≤ 9223372036854775807) (hln : ln.length ≤ 34359738368) (hld : ld.length ≤ 34359738368) : Ret Tryz.prog 168 [.slice (some ⟨b, 0, none⟩) 1 1] w fun u w' => FmR w' u (formD nn (val ln) en) (formD nd (val ld) ed) (sgD nd (val ld)) ∧ Chg [] w w' := by
 have hch : Chg [] w w := Chg.refl _ _
 have hB0 := hB
 have hn0 := hn
 have hd0 := hd
 have hon := hn.one
 have hod := hd.one
 refine Ret.enter Tryz.func168 rfl rfl ?_
 simp only [args0, Nat.zero_add, Nat.reduceAdd]
 refine Sq fun _ kh1 _ kr2 => ?_
 refine As rfl rfl ?_
 refine As rfl rfl ?_
 refine WL.nil (kr2 _ _ _ (kh1 _ _ _ ?_))
 refine CW.seq fun _ kh3 => ?_
 refine Sq fun _ kh4 _ kr5 => ?_
 refine As rfl rfl ?_
 refine WL.nil (kr5 _ _ _ (kh4 _ _ _ ?_))
 refine CW.block ?_
 refine CW.loop (S := fun i : Nat => [(0, .slice (some ⟨b, 0, none⟩) 1 1), (4, .int .i64 (i : Int))]) (Inv := KF1 (sgD nd (val ld)) w) (mu := fun i => 1 - i) (0) ?_ ?_ ?_
 ·
  exact ⟨by decide, fun h => (by cases h), hch⟩
 ·
  repeat (first | exact Subs.nil | refine Subs.cons rfl ?_ | refine Subs.consI rfl (by omega) ?_)
 ·
  rintro i wr ⟨hi1, hs1, hch⟩
  have hB := hB0.keep0 hch
  have hn := hn0.keep0 hch
  have hd := hd0.keep0 hch
  refine CW.seq fun _ kh6 => ?_
  refine Sq fun _ kh7 _ kr8 => ?_
  refine Mv rfl rfl ?_
  refine Mv rfl rfl ?_
  refine WL.ev (Ev.len rfl) rfl ?_
  refine WL.ev (Ev.lss rfl rfl) rfl ?_
  refine WL.nil (kr8 _ _ _ (kh7 _ _ _ ?_))
  refine CW.cond rfl (fun hc1 => ?_) (fun hc1 => ?_)
  ·
   try simp only [qs] at hc1
   have hi0 : i = 0 := by omega
   subst hi0
   refine CW.skip ?_
   refine kh6 _ _ _ ?_
   refine CW.seq fun _ kh9 => ?_
   refine CW.block ?_
   refine Sq fun _ kh10 _ kr11 => ?_
   refine Mv rfl rfl ?_
   refine Mv rfl rfl ?_
   refine WL.ev (Ev.indexAddr rfl rfl (by omega) (by omega)) rfl ?_
   rw [show 0 + ((0 : Nat) : Int).toNat * 6 = 0 from rfl]
   refine WL.ev (Ev.fieldAddr rfl) rfl ?_
   refine WL.ev (Ev.loadB rfl rfl hB rfl rfl) rfl ?_
   try simp only [List.drop_succ_cons, List.drop_zero, List.take_succ_cons, List.take_zero]
   refine WL.call hasF200 rfl rfl (r3Sign_spec nd vd ld ed _ hd (by omega)) fun v w1 h' => ?_
   obtain ⟨rfl, hC23⟩ := h'
   have hch := hch.trans (Chg.any hC23)
   have hB := hB.keep0 hC23
   have hn := hn.keep0 hC23
   have hd := hd.keep0 hC23
   refine WL.ev (Ev.lss rfl rfl) rfl ?_
   refine WL.nil (kr11 _ _ _ (kh10 _ _ _ ?_))
   refine CW.cond rfl (fun hc2 => ?_) (fun hc2 => ?_)
   ·
    try simp only [qs] at hc2
    have hs2 : sgD nd (val ld) < 0 := hc2
    refine Sq fun _ kh12 _ kr13 => ?_
    refine As rfl rfl ?_
    refine As rfl rfl ?_
    refine WL.nil (kr13 _ _ _ (kh12 _ _ _ ?_))
    refine CW.ret ?_
    refine bodyA.ret2 rfl rfl rfl ?_
    exact ⟨.inl ⟨hs2, rfl⟩, hch⟩
   ·
    try simp only [qs] at hc2
    have hs2 : 0 ≤ sgD nd (val ld) := by have := hc2; omega
    refine CW.skip ?_
    refine kh9 _ _ _ ?_
    refine CW.region fun kR14 kr14 => ?_
    refine Mv rfl rfl ?_
    first | refine WL.ev (Ev.addIn rfl rfl (by omega)) rfl ?_ | refine WL.ev (Ev.add rfl rfl) rfl ?_
    refine As rfl rfl ?_
    refine WL.nil (kr14 _ _ _ ?_)
    refine ⟨rfl, 1, ?_, ?_, ?_⟩
    ·
     repeat (first | exact Subs.nil | refine Subs.cons rfl ?_ | refine Subs.consI rfl (by omega) ?_)
    ·
     exact ⟨by decide, fun _ => hs2, hch⟩
    ·
     decide
  ·
   try simp only [qs] at hc1
   have hi0 : i = 1 := by omega
   subst hi0
   have hs1 := hs1 rfl
   refine CW.exit ?_
   refine kh3 _ _ _ ?_
   refine Sq fun _ kh15 _ kr16 => ?_
   refine As rfl rfl ?_
   refine WL.nil (kr16 _ _ _ (kh15 _ _ _ ?_))
   refine CW.seq fun _ kh17 => ?_
   refine Sq fun _ kh18 _ kr19 => ?_
   refine As rfl rfl ?_
   refine WL.nil (kr19 _ _ _ (kh18 _ _ _ ?_))
   refine CW.block ?_
   refine CW.loop (S := fun g : Nat × Value => [(0, .slice (some ⟨b, 0, none⟩) 1 1), (5, g.2), (6, .int .i64 (g.1 : Int))]) (Inv := KF2 (formD nn (val ln) en) (formD nd (val ld) ed) w) (mu := fun g => 1 - g.1) ((0, .slice none 0 0)) ?_ ?_ ?_
   ·
    exact ⟨by decide, fun _ => rfl, fun h => (by cases h), hch⟩
   ·
    repeat (first | exact Subs.nil | refine Subs.cons rfl ?_ | refine Subs.consI rfl (by omega) ?_)
   ·
    rintro ⟨i, vo⟩ wr ⟨hi1, hz, ho, hch⟩
    dsimp only at hi1 hz ho hch
    dsimp only
    have hB := hB0.keep0 hch
    have hn := hn0.keep0 hch
    have hd := hd0.keep0 hch
    refine CW.seq fun _ kh20 => ?_
    refine Sq fun _ kh21 _ kr22 => ?_
    refine Mv rfl rfl ?_
    refine Mv rfl rfl ?_
    refine WL.ev (Ev.len rfl) rfl ?_
    refine WL.ev (Ev.lss rfl rfl) rfl ?_
    refine WL.nil (kr22 _ _ _ (kh21 _ _ _ ?_))
    refine CW.cond rfl (fun hc3 => ?_) (fun hc3 => ?_)
    ·
     try simp only [qs] at hc3
     have hi0 : i = 0 := by omega
     subst hi0
     obtain rfl := hz rfl
     refine CW.skip ?_
     refine kh20 _ _ _ ?_
     refine CW.seq fun _ kh23 => ?_
     refine CW.block ?_
     refine Sq fun _ kh24 _ kr25 => ?_
     refine Mv rfl rfl ?_
     refine Mv rfl rfl ?_
     refine WL.ev (Ev.indexAddr rfl rfl (by omega) (by omega)) rfl ?_
     rw [show 0 + ((0 : Nat) : Int).toNat * 6 = 0 from rfl]
     refine WL.ev (Ev.fieldAddr rfl) rfl ?_
     refine WL.ev (Ev.loadB rfl rfl hB rfl rfl) rfl ?_
     try simp only [List.drop_succ_cons, List.drop_zero, List.take_succ_cons, List.take_zero]
     refine WL.call hasF67 rfl rfl (r3Made_spec nn vn ln en _ hn hen hln) fun v w2 h' => ?_
     obtain ⟨hD37, hC37⟩ := h'
     have hch := hch.trans (Chg.any hC37)
     have hB := hB.keep0 hC37
     have hn := hn.keep0 hC37
     have hd := hd.keep0 hC37
     rcases hD37 with ⟨rx, dx, he37, rfl, hNx⟩ | ⟨he37, rfl⟩
     ·
      refine Mv rfl rfl ?_
      refine WL.ev (Ev.extract rfl rfl) rfl ?_
      refine WL.ev (Ev.extract rfl rfl) rfl ?_
      refine WL.allocB (l := [.bool false, .slice none 0 0, .int .i64 0]) rfl rfl fun b7 wm7 hb7 hcm7 hge7 => ?_
      have hgehch7 := Nat.le_trans hch.size hge7
      have hch := hch.trans (Chg.any hcm7)
      have hn := hn.keep0 hcm7
      have hd := hd.keep0 hcm7
      have hNx := hNx.keep0 hcm7
      have hneb7 : b ≠ b7 := by have := hB.lt; omega
      have hB := hB.keep0 hcm7
      refine WL.storeB rfl rfl rfl ao hb7 (by simp) rfl fun ws1 hb7_ hcs1 => ?_
      try simp only [Sx.splice, qt] at hb7_
      have hch := hch.s1 hcs1
      have hB := hB.keep hcs1 (by simp; omega)
      have hn := hn.keepBK hb7 hcs1 an
      have hd := hd.keepBK hb7 hcs1 an
      have hNx := hNx.keepBK hb7 hcs1 an
      have hb7 := hb7_
      refine As rfl rfl ?_
      refine WL.nil (kr25 _ _ _ (kh24 _ _ _ ?_))
      refine Sq fun _ kh26 _ kr27 => ?_
      refine Mv rfl rfl ?_
      refine Mv rfl rfl ?_
      refine WL.ev (Ev.indexAddr rfl rfl (by omega) (by omega)) rfl ?_
      rw [show 0 + ((0 : Nat) : Int).toNat * 6 = 0 from rfl]
      refine WL.ev (Ev.fieldAddr rfl) rfl ?_
      refine WL.ev (Ev.loadB rfl rfl hB rfl rfl) rfl ?_
      try simp only [List.drop_succ_cons, List.drop_zero, List.take_succ_cons, List.take_zero]
      refine WL.call hasF67 rfl rfl (r3Made_spec nd vd ld ed _ hd hed hld) fun v w3 h' => ?_
      obtain ⟨hD46, hC46⟩ := h'
      have hch := hch.trans (Chg.any hC46)
      have hB := hB.keep0 hC46
      have hb7 := hb7.keep0 hC46
      have hn := hn.keep0 hC46
      have hd := hd.keep0 hC46
      have hNx := hNx.keep0 hC46
      rcases hD46 with ⟨ry, dy, he46, rfl, hNy⟩ | ⟨he46, rfl⟩
      ·
       refine Mv rfl rfl ?_
       refine WL.ev (Ev.extract rfl rfl) rfl ?_
       refine WL.ev (Ev.extract rfl rfl) rfl ?_
       refine WL.allocB (l := [.bool false, .slice none 0 0, .int .i64 0]) rfl rfl fun b9 wm9 hb9 hcm9 hge9 => ?_
       have hgehch9 := Nat.le_trans hch.size hge9
       have hch := hch.trans (Chg.any hcm9)
       have hn := hn.keep0 hcm9
       have hd := hd.keep0 hcm9
       have hNx := hNx.keep0 hcm9
       have hNy := hNy.keep0 hcm9
       have hneb9 : b ≠ b9 := by have := hB.lt; omega
       have hB := hB.keep0 hcm9
       have hneb79 : b7 ≠ b9 := by have := hb7.lt; omega
       have hb7 := hb7.keep0 hcm9
       refine WL.storeB rfl rfl rfl ao hb9 (by simp) rfl fun ws2 hb9_ hcs2 => ?_
       try simp only [Sx.splice, qt] at hb9_
       have hch := hch.s1 hcs2
       have hB := hB.keep hcs2 (by simp; omega)
       have hb7 := hb7.keep hcs2 (by simp; omega)
       have hn := hn.keepBK hb9 hcs2 an
       have hd := hd.keepBK hb9 hcs2 an
       have hNx := hNx.keepBK hb9 hcs2 an
       have hNy := hNy.keepBK hb9 hcs2 an
       have hb9 := hb9_
       refine As rfl rfl ?_
       refine WL.nil (kr27 _ _ _ (kh26 _ _ _ ?_))
       refine CW.seq fun _ kh28 => ?_
       refine Sq fun _ kh29 _ kr30 => ?_
       refine Mv rfl rfl ?_
       refine WL.ev (Ev.not rfl) rfl ?_
       refine Mv rfl rfl ?_
       refine WL.want rfl rfl rfl rfl ?_
       refine Mv rfl rfl ?_
       refine WL.want rfl rfl rfl rfl ?_
       refine WL.ev (Ev.not rfl) rfl ?_
       refine WL.ev (Ev.pickF rfl rfl rfl) rfl ?_
       refine WL.nil (kr30 _ _ _ (kh29 _ _ _ ?_))
       refine CW.condF rfl ?_
       refine CW.skip ?_
       refine kh28 _ _ _ ?_
       refine CW.region fun kR31 kr31 => ?_
       refine Mv rfl rfl ?_
       refine WL.ev (Ev.loadA rfl rfl hb7 rfl) rfl ?_
       refine WL.ev (Ev.loadA rfl rfl hb9 rfl) rfl ?_
       refine WL.ev (Ev.build (vs := _) (cs := [_, _, _, _, _, _]) rfl rfl) rfl ?_
       refine WL.buildSlice (m := 1) (cs := [.bool dx.neg, rx, .int .i64 dx.e, .bool dy.neg, ry, .int .i64 dy.e]) (by decide) (by decide) rfl (by kernel_rfl) rfl fun b59 w59 hn59 => ?_
       have hcm59 := hn59.chg
       have hb59 : BK w59 b59 _ [.bool dx.neg, rx, .int .i64 dx.e, .bool dy.neg, ry, .int .i64 dy.e] := hn59.at_
       have hch := hch.trans hcm59
       have hNx := hNx.keep0 hcm59
       have hNy := hNy.keep0 hcm59
       have hrc59 := RC.of_BK hb59
       refine WL.append (news := [.bool dx.neg, rx, .int .i64 dx.e, .bool dy.neg, ry, .int .i64 dy.e]) (xs := []) (m := 0) (by rfl) (by decide) rfl rfl ⟨rfl, .inl ⟨rfl, rfl⟩⟩ rfl hrc59 (by intro v hv; simp only [List.mem_cons, List.not_mem_nil, or_false] at hv; rcases hv with rfl | rfl | rfl | rfl | rfl | rfl <;> first | rfl | exact NU.one (by assumption)) (by decide) (by decide) rfl fun v60 w60 ho60 hc60 hl60 => ?_
       have hc60 : Chg [] w59 w60 := by simpa [Value.ownBlock] using hc60
       have hch := hch.trans hc60
       have hNx := hNx.keep0 hc60
       have hNy := hNy.keep0 hc60
       rcases own_cases ho60 with ⟨_, h0, _⟩ | ⟨g60, cap60, rfl, _, _, hcells⟩
       · cases h0
       have hrc : RC w60 ⟨g60, 0, none⟩ (ratC dx dy rx ry) := fun j v hv => by rw [add_addr, Nat.zero_add]; exact hcells j v hv
       refine As rfl rfl ?_
       refine WL.nil (kr31 _ _ _ (kh23 _ _ _ ?_))
       refine CW.region fun kR32 kr32 => ?_
       refine Mv rfl rfl ?_
       first | refine WL.ev (Ev.addIn rfl rfl (by omega)) rfl ?_ | refine WL.ev (Ev.add rfl rfl) rfl ?_
       refine As rfl rfl ?_
       refine WL.nil (kr32 _ _ _ ?_)
       refine ⟨rfl, (1, .slice (some ⟨g60, 0, none⟩) 1 cap60), ?_, ?_, ?_⟩
       ·
        repeat (first | exact Subs.nil | refine Subs.cons rfl ?_ | refine Subs.consI rfl (by omega) ?_)
       ·
        exact ⟨Nat.le_refl 1, fun h => (by cases h), fun _ => ⟨dx, dy, g60, cap60, rx, ry, he37, he46, rfl, hrc, hNx, hNy⟩, hch⟩
       ·
        show 1 - 1 < 1 - 0; decide
      ·
       refine Mv rfl rfl ?_
       refine WL.ev (Ev.extract rfl rfl) rfl ?_
       refine WL.ev (Ev.extract rfl rfl) rfl ?_
       refine WL.allocB (l := [.bool false, .slice none 0 0, .int .i64 0]) rfl rfl fun b9 wm9 hb9 hcm9 hge9 => ?_
       have hgehch9 := Nat.le_trans hch.size hge9
       have hch := hch.trans (Chg.any hcm9)
       have hNx := hNx.keep0 hcm9
       have hn := hn.keep0 hcm9
       have hd := hd.keep0 hcm9
       have hneb9 : b ≠ b9 := by have := hB.lt; omega
       have hB := hB.keep0 hcm9
       have hneb79 : b7 ≠ b9 := by have := hb7.lt; omega
       have hb7 := hb7.keep0 hcm9
       refine WL.storeB rfl rfl rfl ao hb9 (by simp) rfl fun ws3 hb9_ hcs3 => ?_
       try simp only [Sx.splice, qt] at hb9_
       have hch := hch.s1 hcs3
       have hB := hB.keep hcs3 (by simp; omega)
       have hb7 := hb7.keep hcs3 (by simp; omega)
       have hNx := hNx.keepBK hb9 hcs3 an
       have hn := hn.keepBK hb9 hcs3 an
       have hd := hd.keepBK hb9 hcs3 an
       have hb9 := hb9_
       refine As rfl rfl ?_
       refine WL.nil (kr27 _ _ _ (kh26 _ _ _ ?_))
       refine CW.seq fun _ kh33 => ?_
       refine Sq fun _ kh34 _ kr35 => ?_
       refine Mv rfl rfl ?_
       refine WL.ev (Ev.not rfl) rfl ?_
       refine Mv rfl rfl ?_
       refine WL.want rfl rfl rfl rfl ?_
       refine Mv rfl rfl ?_
       refine WL.want rfl rfl rfl rfl ?_
       refine WL.ev (Ev.not rfl) rfl ?_
       refine WL.ev (Ev.pickF rfl rfl rfl) rfl ?_
       refine WL.nil (kr35 _ _ _ (kh34 _ _ _ ?_))
       refine CW.condT rfl ?_
       refine Sq fun _ kh36 _ kr37 => ?_
       refine As rfl rfl ?_
       refine As rfl rfl ?_
       refine WL.nil (kr37 _ _ _ (kh36 _ _ _ ?_))
       refine CW.ret ?_
       refine bodyA.ret2 rfl rfl rfl ?_
       exact ⟨.inr (.inl ⟨hs1, by first | exact .inl he37 | exact .inr he46, rfl⟩), hch⟩
     ·
      refine Mv rfl rfl ?_
      refine WL.ev (Ev.extract rfl rfl) rfl ?_
      refine WL.ev (Ev.extract rfl rfl) rfl ?_
      refine WL.allocB (l := [.bool false, .slice none 0 0, .int .i64 0]) rfl rfl fun b7 wm7 hb7 hcm7 hge7 => ?_
      have hgehch7 := Nat.le_trans hch.size hge7
      have hch := hch.trans (Chg.any hcm7)
      have hn := hn.keep0 hcm7
      have hd := hd.keep0 hcm7
      have hneb7 : b ≠ b7 := by have := hB.lt; omega
      have hB := hB.keep0 hcm7
      refine WL.storeB rfl rfl rfl ao hb7 (by simp) rfl fun ws4 hb7_ hcs4 => ?_
      try simp only [Sx.splice, qt] at hb7_
      have hch := hch.s1 hcs4
      have hB := hB.keep hcs4 (by simp; omega)
      have hn := hn.keepBK hb7 hcs4 an
      have hd := hd.keepBK hb7 hcs4 an
      have hb7 := hb7_
      refine As rfl rfl ?_
      refine WL.nil (kr25 _ _ _ (kh24 _ _ _ ?_))
      refine Sq fun _ kh38 _ kr39 => ?_
      refine Mv rfl rfl ?_
      refine Mv rfl rfl ?_
      refine WL.ev (Ev.indexAddr rfl rfl (by omega) (by omega)) rfl ?_
      rw [show 0 + ((0 : Nat) : Int).toNat * 6 = 0 from rfl]
      refine WL.ev (Ev.fieldAddr rfl) rfl ?_
      refine WL.ev (Ev.loadB rfl rfl hB rfl rfl) rfl ?_
      try simp only [List.drop_succ_cons, List.drop_zero, List.take_succ_cons, List.take_zero]
      refine WL.call hasF67 rfl rfl (r3Made_spec nd vd ld ed _ hd hed hld) fun v w4 h' => ?_
      obtain ⟨hD46, hC46⟩ := h'
      have hch := hch.trans (Chg.any hC46)
      have hB := hB.keep0 hC46
      have hb7 := hb7.keep0 hC46
      have hn := hn.keep0 hC46
      have hd := hd.keep0 hC46
      rcases hD46 with ⟨ry, dy, he46, rfl, hNy⟩ | ⟨he46, rfl⟩
      ·
       refine Mv rfl rfl ?_
       refine WL.ev (Ev.extract rfl rfl) rfl ?_
       refine WL.ev (Ev.extract rfl rfl) rfl ?_
       refine WL.allocB (l := [.bool false, .slice none 0 0, .int .i64 0]) rfl rfl fun b9 wm9 hb9 hcm9 hge9 => ?_
       have hgehch9 := Nat.le_trans hch.size hge9
       have hch := hch.trans (Chg.any hcm9)
       have hn := hn.keep0 hcm9
       have hd := hd.keep0 hcm9
       have hNy := hNy.keep0 hcm9
       have hneb9 : b ≠ b9 := by have := hB.lt; omega
       have hB := hB.keep0 hcm9
       have hneb79 : b7 ≠ b9 := by have := hb7.lt; omega
       have hb7 := hb7.keep0 hcm9
       refine WL.storeB rfl rfl rfl ao hb9 (by simp) rfl fun ws5 hb9_ hcs5 => ?_
       try simp only [Sx.splice, qt] at hb9_
       have hch := hch.s1 hcs5
       have hB := hB.keep hcs5 (by simp; omega)
       have hb7 := hb7.keep hcs5 (by simp; omega)
       have hn := hn.keepBK hb9 hcs5 an
       have hd := hd.keepBK hb9 hcs5 an
       have hNy := hNy.keepBK hb9 hcs5 an
       have hb9 := hb9_
       refine As rfl rfl ?_
       refine WL.nil (kr39 _ _ _ (kh38 _ _ _ ?_))
       refine CW.seq fun _ kh40 => ?_
       refine Sq fun _ kh41 _ kr42 => ?_
       refine Mv rfl rfl ?_
       refine WL.ev (Ev.not rfl) rfl ?_
       refine Mv rfl rfl ?_
       refine WL.pass rfl rfl rfl rfl rfl ?_
       refine WL.pass rfl rfl rfl rfl rfl ?_
       refine WL.ev (Ev.pickT rfl rfl rfl) rfl ?_
       refine WL.nil (kr42 _ _ _ (kh41 _ _ _ ?_))
       refine CW.condT rfl ?_
       refine Sq fun _ kh43 _ kr44 => ?_
       refine As rfl rfl ?_
       refine As rfl rfl ?_
       refine WL.nil (kr44 _ _ _ (kh43 _ _ _ ?_))
       refine CW.ret ?_
       refine bodyA.ret2 rfl rfl rfl ?_
       exact ⟨.inr (.inl ⟨hs1, by first | exact .inl he37 | exact .inr he46, rfl⟩), hch⟩
      ·
       refine Mv rfl rfl ?_
       refine WL.ev (Ev.extract rfl rfl) rfl ?_
       refine WL.ev (Ev.extract rfl rfl) rfl ?_
       refine WL.allocB (l := [.bool false, .slice none 0 0, .int .i64 0]) rfl rfl fun b9 wm9 hb9 hcm9 hge9 => ?_
       have hgehch9 := Nat.le_trans hch.size hge9
       have hch := hch.trans (Chg.any hcm9)
       have hn := hn.keep0 hcm9
       have hd := hd.keep0 hcm9
       have hneb9 : b ≠ b9 := by have := hB.lt; omega
       have hB := hB.keep0 hcm9
       have hneb79 : b7 ≠ b9 := by have := hb7.lt; omega
       have hb7 := hb7.keep0 hcm9
       refine WL.storeB rfl rfl rfl ao hb9 (by simp) rfl fun ws6 hb9_ hcs6 => ?_
       try simp only [Sx.splice, qt] at hb9_
       have hch := hch.s1 hcs6
       have hB := hB.keep hcs6 (by simp; omega)
       have hb7 := hb7.keep hcs6 (by simp; omega)
       have hn := hn.keepBK hb9 hcs6 an
       have hd := hd.keepBK hb9 hcs6 an
       have hb9 := hb9_
       refine As rfl rfl ?_
       refine WL.nil (kr39 _ _ _ (kh38 _ _ _ ?_))
       refine CW.seq fun _ kh45 => ?_
       refine Sq fun _ kh46 _ kr47 => ?_
       refine Mv rfl rfl ?_
       refine WL.ev (Ev.not rfl) rfl ?_
       refine Mv rfl rfl ?_
       refine WL.pass rfl rfl rfl rfl rfl ?_
       refine WL.pass rfl rfl rfl rfl rfl ?_
       refine WL.ev (Ev.pickT rfl rfl rfl) rfl ?_
       refine WL.nil (kr47 _ _ _ (kh46 _ _ _ ?_))
       refine CW.condT rfl ?_
       refine Sq fun _ kh48 _ kr49 => ?_
       refine As rfl rfl ?_
       refine As rfl rfl ?_
       refine WL.nil (kr49 _ _ _ (kh48 _ _ _ ?_))
       refine CW.ret ?_
       refine bodyA.ret2 rfl rfl rfl ?_
       exact ⟨.inr (.inl ⟨hs1, by first | exact .inl he37 | exact .inr he46, rfl⟩), hch⟩
    ·
     try simp only [qs] at hc3
     have hi0 : i = 1 := by omega
     subst hi0
     obtain ⟨dx, dy, ad, c, rx, ry, hex, hey, rfl, hrc, hNx, hNy⟩ := ho rfl
     refine CW.exit ?_
     refine kh17 _ _ _ ?_
     refine CW.seq fun _ kh50 => ?_
     refine Sq fun _ kh51 _ kr52 => ?_
     refine As rfl rfl ?_
     refine WL.nil (kr52 _ _ _ (kh51 _ _ _ ?_))
     refine CW.block ?_
     refine CW.loop (S := fun i : Nat => [(5, .slice (some ⟨ad, 0, none⟩) 1 c), (11, .int .i64 (i : Int))]) (Inv := KF3 dx dy rx ry ad w) (mu := fun i => 1 - i) (0) ?_ ?_ ?_
     ·
      exact ⟨by decide, fun h => (by cases h), hrc, hNx, hNy, hch⟩
     ·
      repeat (first | exact Subs.nil | refine Subs.cons rfl ?_ | refine Subs.consI rfl (by omega) ?_)
     ·
      rintro i wr ⟨hi1, hz3, hrc, hNx, hNy, hch⟩
      have hrl := hrc.lt (by simp [ratC])
      refine CW.seq fun _ kh53 => ?_
      refine Sq fun _ kh54 _ kr55 => ?_
      refine Mv rfl rfl ?_
      refine Mv rfl rfl ?_
      refine WL.ev (Ev.len rfl) rfl ?_
      refine WL.ev (Ev.lss rfl rfl) rfl ?_
      refine WL.nil (kr55 _ _ _ (kh54 _ _ _ ?_))
      refine CW.cond rfl (fun hc4 => ?_) (fun hc4 => ?_)
      ·
       try simp only [qs] at hc4
       have hi0 : i = 0 := by omega
       subst hi0
       have hNy2 := hNy
       obtain ⟨⟨ay, cy, hey2, hcapy, hry⟩, hWy, hly⟩ := hNy2
       refine CW.skip ?_
       refine kh53 _ _ _ ?_
       refine CW.seq fun _ kh56 => ?_
       refine CW.block ?_
       refine Sq fun _ kh57 _ kr58 => ?_
       refine Mv rfl rfl ?_
       refine Mv rfl rfl ?_
       refine WL.ev (Ev.indexAddr rfl rfl (by omega) (by omega)) rfl ?_
       rw [show 0 + ((0 : Nat) : Int).toNat * 6 = 0 from rfl]
       refine WL.ev (Ev.fieldAddr rfl) rfl ?_
       refine WL.ev (Ev.fieldAddr rfl) rfl ?_
       refine WL.ev (Ev.load (v := ry) rfl rfl (hrc 4 ry rfl)) rfl ?_
       rw [hey2]
       refine WL.ev (Ev.len rfl) rfl ?_
       refine WL.ev (Ev.eql rfl rfl) rfl ?_
       refine WL.nil (kr58 _ _ _ (kh57 _ _ _ ?_))
       refine CW.cond rfl (fun hc5 => ?_) (fun hc5 => ?_)
       ·
        try simp only [qs] at hc5
        have hy0 : dy.m = 0 := wd_eq_nil.1 (List.length_eq_zero_iff.1 (by omega))
        refine Sq fun _ kh59 _ kr60 => ?_
        refine As rfl rfl ?_
        refine As rfl rfl ?_
        refine WL.nil (kr60 _ _ _ (kh59 _ _ _ ?_))
        refine CW.ret ?_
        refine bodyA.ret2 rfl rfl rfl ?_
        exact ⟨.inr (.inr (.inl ⟨hs1, dx, dy, hex, hey, hy0, rfl⟩)), hch⟩
       ·
        try simp only [qs] at hc5
        have hy0 : dy.m ≠ 0 := fun e => by rw [e, wd_zero] at hc5; exact hc5 rfl
        refine CW.skip ?_
        refine kh56 _ _ _ ?_
        refine CW.region fun kR61 kr61 => ?_
        refine Mv rfl rfl ?_
        first | refine WL.ev (Ev.addIn rfl rfl (by omega)) rfl ?_ | refine WL.ev (Ev.add rfl rfl) rfl ?_
        refine As rfl rfl ?_
        refine WL.nil (kr61 _ _ _ ?_)
        refine ⟨rfl, 1, ?_, ?_, ?_⟩
        ·
         repeat (first | exact Subs.nil | refine Subs.cons rfl ?_ | refine Subs.consI rfl (by omega) ?_)
        ·
         exact ⟨by decide, fun _ => hy0, hrc, hNx, hNy, hch⟩
        ·
         decide
      ·
       try simp only [qs] at hc4
       have hi0 : i = 1 := by omega
       subst hi0
       have hy0 := hz3 rfl
       refine CW.exit ?_
       refine kh50 _ _ _ ?_
       refine Sq fun _ kh62 _ kr63 => ?_
       refine Mv rfl rfl ?_
       refine As rfl rfl ?_
       refine As rfl rfl ?_
       refine WL.nil (kr63 _ _ _ (kh62 _ _ _ ?_))
       refine CW.ret ?_
       refine bodyA.ret2 rfl rfl rfl ?_
       exact ⟨.inr (.inr (.inr ⟨hs1, dx, dy, hex, hey, hy0, ad, c, rx, ry, rfl, hrc, hNx, hNy⟩)), hch⟩

end Go.Proofs.YtkkklaodligpdaaGreatDoor

/- Reference of layer 11: Against, half, Nearby. No condition. -/
namespace Go.Proofs.YtkkklaodligpdaaGreatDoor
open Go Sx Wd

set_option maxRecDepth 8000 in
set_option maxHeartbeats 2000000 in
theorem r11Against_spec (va : Value) (la : List Nat) (e : Int) (nn nd : Bool) (vn vd : Value) (ln ld : List Nat) (en ed : Int) (w : World) (ha : NU w va la) (he : -1099511627776 ≤ e ∧ e ≤ 1099511627776) (hla : la.length ≤ 1000000) (hn : NU w vn ln) (hd : NU w vd ld) (hen : -1048576 ≤ en ∧ en ≤ 1048576) (hed : -1048576 ≤ ed ∧ ed ≤ 1048576) (hln : ln.length ≤ 8192) (hld : ld.length ≤ 8192) : Ret Tryz.prog 201 [va, .int .i64 e, .agg [.bool nn, vn, .int .i64 en, .bool nd, vd, .int .i64 ed].toArray, .bool false] w fun u w' => u = .int .i64 (cmpX (val la * val ld) (e + ed) (val ln) en) ∧ Chg [] w w' := by
 have hch : Chg [] w w := Chg.refl _ _
 have hon := hn.one
 have hod := hd.one
 have hoa := ha.one
 refine Ret.enter Tryz.func201 rfl rfl ?_
 simp only [args0, Nat.zero_add, Nat.reduceAdd]
 refine Sq fun _ kh1 _ kr2 => ?_
 refine WL.boxB rfl rfl rfl fun b6 wm6 hb6 hcm6 hge6 => ?_
 have hgehch6 := Nat.le_trans hch.size hge6
 have hch := hch.trans (Chg.any hcm6)
 have ha := ha.keep0 hcm6
 have hn := hn.keep0 hcm6
 have hd := hd.keep0 hcm6
 refine As rfl rfl ?_
 refine WL.nil (kr2 _ _ _ (kh1 _ _ _ ?_))
 refine Sq fun _ kh3 _ kr4 => ?_
 refine Mv rfl rfl ?_
 refine As rfl rfl ?_
 refine WL.nil (kr4 _ _ _ (kh3 _ _ _ ?_))
 refine Sq fun _ kh5 _ kr6 => ?_
 refine Mv rfl rfl ?_
 refine As rfl rfl ?_
 refine WL.nil (kr6 _ _ _ (kh5 _ _ _ ?_))
 refine CW.seq fun _ kh7 => ?_
 refine Sq fun _ kh8 _ kr9 => ?_
 refine Mv rfl rfl ?_
 refine WL.nil (kr9 _ _ _ (kh8 _ _ _ ?_))
 refine CW.condF rfl ?_
 refine CW.skip ?_
 refine kh7 _ _ _ ?_
 refine CW.seq fun _ kh10 => ?_
 refine CW.regionHC 18 rfl hmix fun kR11 kr11 hS hdr => ?_
 have hch := hch.trans (Chg.any hdr)
 have hb6 := hb6.keep0 hdr
 have ha := ha.keep0 hdr
 have hn := hn.keep0 hdr
 have hd := hd.keep0 hdr
 have hch_r := hch
 have hb6_r := hb6
 refine WH.take 0 rfl (by kernel_rfl) (by kernel_rfl) (by kernel_rfl) hS (fun w' hw' => Ev.move rfl) rfl ?_
 refine WH.take 1 rfl (by kernel_rfl) (by kernel_rfl) (by kernel_rfl) hS (fun w' hw' => Ev.fieldAddr rfl) rfl ?_
 refine WH.take 2 rfl (by kernel_rfl) (by kernel_rfl) (by kernel_rfl) hS (fun w' hw' => Ev.fieldAddr rfl) rfl ?_
 refine WH.take 3 rfl (by kernel_rfl) (by kernel_rfl) (by kernel_rfl) hS (fun w' hw' => Ev.load rfl rfl ((hb6_r.keep0 hw').at_ rfl)) rfl ?_
 refine WH.take 5 rfl (by kernel_rfl) (by kernel_rfl) (by kernel_rfl) hS (fun w' hw' => Ev.move rfl) rfl ?_
 refine WH.take 6 rfl (by kernel_rfl) (by kernel_rfl) (by kernel_rfl) hS (fun w' hw' => Ev.fieldAddr rfl) rfl ?_
 refine WH.take 7 rfl (by kernel_rfl) (by kernel_rfl) (by kernel_rfl) hS (fun w' hw' => Ev.fieldAddr rfl) rfl ?_
 refine WH.take 8 rfl (by kernel_rfl) (by kernel_rfl) (by kernel_rfl) hS (fun w' hw' => Ev.load rfl rfl ((hb6_r.keep0 hw').at_ rfl)) rfl ?_
 refine WH.take 9 rfl (by kernel_rfl) (by kernel_rfl) (by kernel_rfl) hS (fun w' hw' => Ev.addIn rfl rfl (by omega)) rfl ?_
 refine WH.take 10 rfl (by kernel_rfl) (by kernel_rfl) (by kernel_rfl) hS (fun w' hw' => Ev.fieldAddr rfl) rfl ?_
 refine WH.take 11 rfl (by kernel_rfl) (by kernel_rfl) (by kernel_rfl) hS (fun w' hw' => Ev.fieldAddr rfl) rfl ?_
 refine WH.take 12 rfl (by kernel_rfl) (by kernel_rfl) (by kernel_rfl) hS (fun w' hw' => Ev.load rfl rfl ((hb6_r.keep0 hw').at_ rfl)) rfl ?_
 refine WH.take 13 rfl (by kernel_rfl) (by kernel_rfl) (by kernel_rfl) hS (fun w' hw' => Ev.fieldAddr rfl) rfl ?_
 refine WH.take 14 rfl (by kernel_rfl) (by kernel_rfl) (by kernel_rfl) hS (fun w' hw' => Ev.fieldAddr rfl) rfl ?_
 refine WH.take 15 rfl (by kernel_rfl) (by kernel_rfl) (by kernel_rfl) hS (fun w' hw' => Ev.load rfl rfl ((hb6_r.keep0 hw').at_ rfl)) rfl ?_
 refine WH.oneCall 4 rfl (by kernel_rfl) hasF114 rfl rfl (r2Times_spec _ _ _ _ _ ha hd (by omega)) fun v w1 h' => ?_
 obtain ⟨hNp, hC, hF⟩ := h'
 have hpl := mul_len (wd_length_val_le ha.hw) (wd_length_val_le hd.hw)
 have hch := hch.trans (Chg.any hC)
 have hb6 := hb6.keep0 hC
 have ha := ha.keep0 hC
 have hn := hn.keep0 hC
 have hd := hd.keep0 hC
 have hS := hS.trans hC
 refine ⟨hS, ?_⟩
 refine WH.oneCall 16 rfl (by kernel_rfl) hasF216 rfl rfl (r3Against_spec _ _ _ _ _ _ _ hNp hn (by omega) (by omega) (by omega) (by omega)) fun v w2 h' => ?_
 obtain ⟨rfl, hC⟩ := h'
 rw [val_wd]
 have hch := hch.trans (Chg.any hC)
 have hb6 := hb6.keep0 hC
 have ha := ha.keep0 hC
 have hn := hn.keep0 hC
 have hd := hd.keep0 hC
 have hNp := hNp.keep0 hC
 have hS := hS.trans hC
 refine ⟨hS, ?_⟩
 refine WH.take 17 rfl (by kernel_rfl) (by kernel_rfl) (by kernel_rfl) hS (fun w' hw' => Ev.assign rfl) rfl ?_
 refine WH.done (by kernel_rfl) (kr11 _ _ _ ?_)
 refine kh10 _ _ _ ?_
 refine CW.ret ?_
 refine bodyA.ret1 rfl rfl ?_
 exact ⟨rfl, hch⟩

end Go.Proofs.YtkkklaodligpdaaGreatDoor

/- Reference of layer 11: half, Nearby. No condition. -/
namespace Go.Proofs.YtkkklaodligpdaaGreatDoor
open Go Sx Wd

theorem nz_num (k : Nat) : nz k = numM k * 2 ^ (numE k + 1074).toNat := by
  unfold nz numM numE
  by_cases h : k < 4503599627370496
  · rw [if_pos h, if_pos (show k / 4503599627370496 = 0 by omega), if_pos (show k / 4503599627370496 = 0 by omega), show k % 4503599627370496 = k by omega]
    simp
  · rw [if_neg h, if_neg (show ¬ k / 4503599627370496 = 0 by omega), if_neg (show ¬ k / 4503599627370496 = 0 by omega), show (-1074 + ((k / 4503599627370496 : Nat) : Int) - 1 + 1074).toNat = k / 4503599627370496 - 1 by omega]
theorem numE_step (k : Nat) : numE k ≤ numE (k + 1) ∧ numE (k + 1) ≤ numE k + 1 := by
  unfold numE
  by_cases h : k / 4503599627370496 = 0
  · rw [if_pos h]
    by_cases h2 : (k + 1) / 4503599627370496 = 0
    · rw [if_pos h2]; omega
    · rw [if_neg h2]; omega
  · rw [if_neg h, if_neg (show ¬ (k + 1) / 4503599627370496 = 0 by omega)]; omega
theorem sgn_scale (x y c : Nat) : sgn (x * 2 ^ c) (y * 2 ^ c) = sgn x y := by
  have hp := Nat.two_pow_pos c
  have h1 : x * 2 ^ c < y * 2 ^ c ↔ x < y := Nat.mul_lt_mul_right hp
  have h2 : y * 2 ^ c < x * 2 ^ c ↔ y < x := Nat.mul_lt_mul_right hp
  unfold sgn
  simp only [h1, h2]
theorem cmpX_eq {m n a b : Nat} {e f : Int} (h : (a : Int) - b = e - f) : cmpX m e n f = sgn (m * 2 ^ a) (n * 2 ^ b) := by
  unfold cmpX
  obtain ⟨c, hc1, hc2⟩ : ∃ c, a = (e - min e f).toNat + c ∧ b = (f - min e f).toNat + c := by
    rcases Int.le_total e f with q | q
    · exact ⟨a, by omega, by omega⟩
    · exact ⟨b, by omega, by omega⟩
  rw [hc1, hc2, Nat.pow_add, Nat.pow_add, ← Nat.mul_assoc, ← Nat.mul_assoc, sgn_scale]
theorem cmp_num {x y : Nat} {ex ey : Int} {k : Nat} (hk : k < 18446744073709551616) : cmpX (numM k * y) (numE k + ey) x ex = sgn (2 * nz k * (y * dyB (ex - ey))) (dyA x (ex - ey)) := by
  have h1 := (numE_le k hk).1
  unfold dyA dyB
  rw [nz_num, cmpX_eq (a := (numE k + 1074).toNat + 1 + (-(ex - ey + 1075)).toNat) (b := (ex - ey + 1075).toNat) (by omega)]
  congr 1
  rw [Nat.pow_add, Nat.pow_succ]
  simp only [Nat.mul_comm, Nat.mul_left_comm, Nat.mul_assoc]
theorem cmp_mid {x y : Nat} {ex ey : Int} {k d : Nat} (hk : k < 9223372036854775808) (hd : (d : Int) = numE (k + 1) - numE k) : cmpX ((numM k + numM (k + 1) * 2 ^ d) * y) (numE k - 1 + ey) x ex = sgn ((nz k + nz (k + 1)) * (y * dyB (ex - ey))) (dyA x (ex - ey)) := by
  have h1 := (numE_le k (by omega)).1
  have e : nz k + nz (k + 1) = (numM k + numM (k + 1) * 2 ^ d) * 2 ^ (numE k + 1074).toNat := by
    rw [nz_num, nz_num, show (numE (k + 1) + 1074).toNat = d + (numE k + 1074).toNat by omega, Nat.pow_add, Nat.add_mul, Nat.mul_assoc]
  unfold dyA dyB
  rw [e, cmpX_eq (a := (numE k + 1074).toNat + (-(ex - ey + 1075)).toNat) (b := (ex - ey + 1075).toNat) (by omega)]
  congr 1
  rw [Nat.pow_add]
  simp only [Nat.mul_comm, Nat.mul_left_comm, Nat.mul_assoc]
theorem near_of {A B k : Nat} {neg : Bool} {mode : Int} {r : Nat} (hk : k < 9218868437227405312) (h1 : 2 * nz k * B ≤ A) (h2 : A < 2 * nz (k + 1) * B ∨ k + 1 = 9218868437227405312) (hne : 2 * nz k * B ≠ A) {on : Bool} (hup : upM mode neg k A ((nz k + nz (k + 1)) * B) = on) (hr : r = if on = true then k + 1 else k) : IsNear A B neg mode r :=
  ⟨k, hk, h1, h2, by rw [if_neg hne, hup, hr]⟩
theorem near_eq {A B k : Nat} {neg : Bool} {mode : Int} (hk : k < 9218868437227405312) (h2 : A < 2 * nz (k + 1) * B ∨ k + 1 = 9218868437227405312) (he : 2 * nz k * B = A) : IsNear A B neg mode k :=
  ⟨k, hk, Nat.le_of_eq he, h2, by rw [if_pos he]⟩
theorem up_even {neg : Bool} {k A M : Nat} : upM 0 neg k A M = (decide (M < A) || (decide (M = A) && decide (k % 2 = 1))) := by unfold upM; rw [if_pos rfl]
theorem up_up {neg : Bool} {k A M : Nat} : upM 2 neg k A M = !neg := by unfold upM; rw [if_neg (by decide), if_pos rfl]
theorem up_down {neg : Bool} {k A M : Nat} : upM 3 neg k A M = neg := by unfold upM; rw [if_neg (by decide), if_neg (by decide), if_pos rfl]
theorem up_away {neg : Bool} {k A M : Nat} : upM 4 neg k A M = decide (M ≤ A) := by unfold upM; rw [if_neg (by decide), if_neg (by decide), if_neg (by decide), if_pos rfl]
theorem up_zero {neg : Bool} {k A M : Nat} : upM 1 neg k A M = false := by unfold upM; rw [if_neg (by decide), if_neg (by decide), if_neg (by decide), if_neg (by decide)]
structure KNb (x y : Dy) (A B : Nat) (w0 : World) (b4 b5 : Nat) (vn vd : Value) (g : Nat × Nat) (w : World) : Prop where
  lt : g.1 < g.2
  le : g.2 ≤ 9218868437227405312
  lo : 2 * nz g.1 * B ≤ A
  hi : A < 2 * nz g.2 * B ∨ g.2 = 9218868437227405312
  h4 : BK w b4 141 [.int .i64 53, .int .i64 (-1074), .int .u64 9218868437227405312]
  h5 : BK w b5 83 [.bool x.neg, vn, .int .i64 x.e, .bool y.neg, vd, .int .i64 y.e]
  hn : NU w vn (wd x.m)
  hd : NU w vd (wd y.m)
  ch : Chg [] w0 w
theorem num_len (k : Nat) : (wd (numM k)).length ≤ 2 := wd_length_le.2 (by have := numM_lt k; omega)

set_option maxRecDepth 8000 in
set_option maxHeartbeats 2000000 in
theorem r11half_spec (k : Nat) (nn nd : Bool) (vn vd : Value) (ln ld : List Nat) (en ed : Int) (w : World) (hk : k < 9218868437227405312) (hn : NU w vn ln) (hd : NU w vd ld) (hen : -1048576 ≤ en ∧ en ≤ 1048576) (hed : -1048576 ≤ ed ∧ ed ≤ 1048576) (hln : ln.length ≤ 8192) (hld : ld.length ≤ 8192) : Ret Tryz.prog 202 [.agg [.int .i64 53, .int .i64 (-1074), .int .u64 9218868437227405312].toArray, .int .u64 (k : Int), .agg [.bool nn, vn, .int .i64 en, .bool nd, vd, .int .i64 ed].toArray, .bool false] w fun u w' => u = .int .i64 (cmpX ((numM k + numM (k + 1) * 2 ^ (numE (k + 1) - numE k).toNat) * val ld) (numE k - 1 + ed) (val ln) en) ∧ Chg [] w w' := by
 have hch : Chg [] w w := Chg.refl _ _
 have hon := hn.one
 have hod := hd.one
 have hes := numE_step k
 have he1 := numE_le k (by omega)
 have hm1 := num_len k
 have hm2 := num_len (k + 1)
 obtain ⟨d, hdd⟩ : ∃ d : Nat, (d : Int) = numE (k + 1) - numE k := ⟨(numE (k + 1) - numE k).toNat, by omega⟩
 rw [show (numE (k + 1) - numE k).toNat = d by omega]
 refine Ret.enter Tryz.func202 rfl rfl ?_
 simp only [args0, Nat.zero_add, Nat.reduceAdd]
 refine Sq fun _ kh1 _ kr2 => ?_
 refine WL.boxB rfl rfl rfl fun b4 wm4 hb4 hcm4 hge4 => ?_
 have hgehch4 := Nat.le_trans hch.size hge4
 have hch := hch.trans (Chg.any hcm4)
 have hn := hn.keep0 hcm4
 have hd := hd.keep0 hcm4
 refine WL.boxB rfl rfl rfl fun b6 wm6 hb6 hcm6 hge6 => ?_
 have hgehch6 := Nat.le_trans hch.size hge6
 have hch := hch.trans (Chg.any hcm6)
 have hn := hn.keep0 hcm6
 have hd := hd.keep0 hcm6
 have hneb46 : b4 ≠ b6 := by have := hb4.lt; omega
 have hb4 := hb4.keep0 hcm6
 refine As rfl rfl ?_
 refine WL.nil (kr2 _ _ _ (kh1 _ _ _ ?_))
 refine Sq fun _ kh3 _ kr4 => ?_
 refine WL.ev (Ev.loadA rfl rfl hb4 rfl) rfl ?_
 refine Mv rfl rfl ?_
 refine WL.call hasF162 rfl rfl (r3Number_spec (k) _ (by omega)) fun v w1 h' => ?_
 obtain ⟨⟨va, rfl, hNa⟩, hC⟩ := h'
 have hch := hch.trans (Chg.any hC)
 have hb4 := hb4.keep0 hC
 have hb6 := hb6.keep0 hC
 have hn := hn.keep0 hC
 have hd := hd.keep0 hC
 refine Mv rfl rfl ?_
 refine WL.ev (Ev.extract rfl rfl) rfl ?_
 refine WL.ev (Ev.extract rfl rfl) rfl ?_
 refine As rfl rfl ?_
 refine As rfl rfl ?_
 refine WL.nil (kr4 _ _ _ (kh3 _ _ _ ?_))
 refine Sq fun _ kh5 _ kr6 => ?_
 refine WL.ev (Ev.loadA rfl rfl hb4 rfl) rfl ?_
 refine Mv rfl rfl ?_
 first | refine WL.ev (Ev.add64In (b := 1) rfl rfl (by omega)) rfl ?_ | refine WL.ev (Ev.add64 (b := 1) rfl rfl) rfl ?_
 refine WL.call hasF162 rfl rfl (r3Number_spec (k + 1) _ (by omega)) fun v w2 h' => ?_
 obtain ⟨⟨vb, rfl, hNb⟩, hC⟩ := h'
 have hch := hch.trans (Chg.any hC)
 have hb4 := hb4.keep0 hC
 have hb6 := hb6.keep0 hC
 have hn := hn.keep0 hC
 have hd := hd.keep0 hC
 have hNa := hNa.keep0 hC
 refine Mv rfl rfl ?_
 refine WL.ev (Ev.extract rfl rfl) rfl ?_
 refine WL.ev (Ev.extract rfl rfl) rfl ?_
 refine As rfl rfl ?_
 refine As rfl rfl ?_
 refine WL.nil (kr6 _ _ _ (kh5 _ _ _ ?_))
 refine Sq fun _ kh7 _ kr8 => ?_
 refine Mv rfl rfl ?_
 refine Mv rfl rfl ?_
 refine Mv rfl rfl ?_
 refine Mv rfl rfl ?_
 refine WL.ev (Ev.subIn rfl rfl (by omega)) rfl ?_
 rw [← hdd]
 refine WL.call hasF115 rfl rfl (r2MovedUp_spec _ _ _ hNb d (by omega) (by omega)) fun v w3 h' => ?_
 obtain ⟨hNc, hC, hF⟩ := h'
 rw [val_wd] at hNc
 have hcl : (wd (numM (k + 1) * 2 ^ d)).length ≤ 3 := wd_length_le.2 (by have h7 := numM_lt (k + 1); have h8 : 2 ^ d ≤ 2 ^ 1 := Nat.pow_le_pow_right (by decide) (by omega); have h9 := Nat.mul_le_mul (Nat.le_of_lt h7) h8; omega)
 have hch := hch.trans (Chg.any hC)
 have hb4 := hb4.keep0 hC
 have hb6 := hb6.keep0 hC
 have hn := hn.keep0 hC
 have hd := hd.keep0 hC
 have hNa := hNa.keep0 hC
 have hNb := hNb.keep0 hC
 refine WL.call hasF116 rfl rfl (r2Plus_spec _ _ _ _ _ hNa hNc (by omega) (by omega)) fun v w4 h' => ?_
 obtain ⟨hNs, hC, hF⟩ := h'
 rw [val_wd, val_wd] at hNs
 have hsl : (wd (numM k + numM (k + 1) * 2 ^ d)).length ≤ 4 := wd_length_le.2 (by have h5 := numM_lt k; have h6 := wd_length_le.1 hcl; omega)
 have hch := hch.trans (Chg.any hC)
 have hb4 := hb4.keep0 hC
 have hb6 := hb6.keep0 hC
 have hn := hn.keep0 hC
 have hd := hd.keep0 hC
 have hNa := hNa.keep0 hC
 have hNb := hNb.keep0 hC
 have hNc := hNc.keep0 hC
 refine As rfl rfl ?_
 refine WL.nil (kr8 _ _ _ (kh7 _ _ _ ?_))
 refine Sq fun _ kh9 _ kr10 => ?_
 refine Mv rfl rfl ?_
 refine Mv rfl rfl ?_
 refine WL.ev (Ev.subIn rfl rfl (by omega)) rfl ?_
 refine WL.ev (Ev.loadA rfl rfl hb6 rfl) rfl ?_
 refine Mv rfl rfl ?_
 refine WL.call hasF201 rfl rfl (r11Against_spec _ _ _ _ _ _ _ _ _ _ _ _ hNs (by omega) (by omega) hn hd hen hed hln hld) fun v w5 h' => ?_
 obtain ⟨rfl, hC⟩ := h'
 rw [val_wd]
 have hch := hch.trans (Chg.any hC)
 have hb4 := hb4.keep0 hC
 have hb6 := hb6.keep0 hC
 have hn := hn.keep0 hC
 have hd := hd.keep0 hC
 have hNa := hNa.keep0 hC
 have hNb := hNb.keep0 hC
 have hNc := hNc.keep0 hC
 have hNs := hNs.keep0 hC
 refine As rfl rfl ?_
 refine WL.nil (kr10 _ _ _ (kh9 _ _ _ ?_))
 refine CW.ret ?_
 refine bodyA.ret1 rfl rfl ?_
 exact ⟨rfl, hch⟩

end Go.Proofs.YtkkklaodligpdaaGreatDoor

/- Reference of layer 11: Nearby. No condition. -/
namespace Go.Proofs.YtkkklaodligpdaaGreatDoor
open Go Sx Wd

set_option maxRecDepth 8000 in
set_option maxHeartbeats 2000000 in
theorem r11Nearby_spec (x y : Dy) (vn vd : Value) (mode : Int) (w : World) (hm : 0 ≤ mode ∧ mode ≤ 4) (hn : NU w vn (wd x.m)) (hd : NU w vd (wd y.m)) (hx : x.ok) (hy : y.ok) : Ret Tryz.prog 169 [.agg [.int .i64 53, .int .i64 (-1074), .int .u64 9218868437227405312].toArray, .agg [.bool x.neg, vn, .int .i64 x.e, .bool y.neg, vd, .int .i64 y.e].toArray, .bool false, .int .i64 mode] w fun u w' => ∃ r : Nat, u = .int .u64 (r : Int) ∧ IsNear (dyA x.m (x.e - y.e)) (y.m * dyB (x.e - y.e)) x.neg mode r ∧ r ≤ 9218868437227405312 ∧ Chg [] w w' := by
 have hch : Chg [] w w := Chg.refl _ _
 have hon1 := hn.one
 have hod1 := hd.one
 obtain ⟨A, hA⟩ : ∃ A, A = (dyA x.m (x.e - y.e)) := ⟨_, rfl⟩
 obtain ⟨B, hB⟩ : ∃ B, B = (y.m * dyB (x.e - y.e)) := ⟨_, rfl⟩
 rw [← hA, ← hB]
 refine Ret.enter Tryz.func169 rfl rfl ?_
 simp only [args0, Nat.zero_add, Nat.reduceAdd]
 refine Sq fun _ kh1 _ kr2 => ?_
 refine WL.boxB rfl rfl rfl fun b4 wm4 hb4 hcm4 hge4 => ?_
 have hgehch4 := Nat.le_trans hch.size hge4
 have hch := hch.trans (Chg.any hcm4)
 have hn := hn.keep0 hcm4
 have hd := hd.keep0 hcm4
 refine WL.boxB rfl rfl rfl fun b5 wm5 hb5 hcm5 hge5 => ?_
 have hgehch5 := Nat.le_trans hch.size hge5
 have hch := hch.trans (Chg.any hcm5)
 have hn := hn.keep0 hcm5
 have hd := hd.keep0 hcm5
 have hneb45 : b4 ≠ b5 := by have := hb4.lt; omega
 have hb4 := hb4.keep0 hcm5
 refine As rfl rfl ?_
 refine WL.nil (kr2 _ _ _ (kh1 _ _ _ ?_))
 refine Sq fun _ kh3 _ kr4 => ?_
 refine As rfl rfl ?_
 refine WL.nil (kr4 _ _ _ (kh3 _ _ _ ?_))
 refine Sq fun _ kh5 _ kr6 => ?_
 refine WL.ev (Ev.fieldAddr rfl) rfl ?_
 refine WL.ev (Ev.load rfl rfl (hb4.at_ rfl)) rfl ?_
 refine As rfl rfl ?_
 refine WL.nil (kr6 _ _ _ (kh5 _ _ _ ?_))
 refine CW.seq fun _ kh7 => ?_
 refine CW.block ?_
 refine CW.loop (S := fun g : Nat × Nat => [(2, .bool false), (3, .int .i64 mode), (4, .pointer (some ⟨b4, 0, none⟩)), (5, .pointer (some ⟨b5, 0, none⟩)), (9, .int .u64 (g.1 : Int)), (10, .int .u64 (g.2 : Int))]) (Inv := KNb x y A B w b4 b5 vn vd) (mu := fun g => g.2 - g.1) ((0, 9218868437227405312)) ?_ ?_ ?_
 ·
  exact ⟨by decide, Nat.le_refl _, by rw [show nz 0 = 0 from rfl, Nat.mul_zero, Nat.zero_mul]; exact Nat.zero_le _, .inr rfl, hb4, hb5, hn, hd, hch⟩
 ·
  repeat (first | exact Subs.nil | refine Subs.cons rfl ?_ | refine Subs.consI rfl (by omega) ?_)
 ·
  rintro ⟨f, t⟩ wr ⟨hft, ht, hlo, hhi, hb4, hb5, hn, hd, hch⟩
  dsimp only at hft ht hlo hhi
  dsimp only
  refine CW.seq fun _ kh8 => ?_
  refine Sq fun _ kh9 _ kr10 => ?_
  refine Mv rfl rfl ?_
  refine Mv rfl rfl ?_
  first | refine WL.ev (Ev.sub64In rfl rfl (by omega) (by omega)) rfl ?_ | refine WL.ev (Ev.sub64 rfl rfl (by omega)) rfl ?_
  refine WL.ev (Ev.gtr rfl rfl) rfl ?_
  refine WL.nil (kr10 _ _ _ (kh9 _ _ _ ?_))
  refine CW.cond rfl (fun hc1 => ?_) (fun hc1 => ?_)
  ·
   try simp only [qs] at hc1
   have hm1 : f < (f + t) / 2 := by omega
   have hm2 : (f + t) / 2 < t := by omega
   refine CW.skip ?_
   refine kh8 _ _ _ ?_
   refine CW.block ?_
   refine Sq fun _ kh11 _ kr12 => ?_
   refine Mv rfl rfl ?_
   refine Mv rfl rfl ?_
   first | refine WL.ev (Ev.add64In rfl rfl (by omega)) rfl ?_ | refine WL.ev (Ev.add64 rfl rfl) rfl ?_
   refine WL.ev (Ev.quoU (b := 2) rfl rfl (by omega) (in_u64 (by omega)).2) rfl ?_
   refine As rfl rfl ?_
   refine WL.nil (kr12 _ _ _ (kh11 _ _ _ ?_))
   refine Sq fun _ kh13 _ kr14 => ?_
   refine WL.ev (Ev.loadA rfl rfl hb4 rfl) rfl ?_
   refine Mv rfl rfl ?_
   refine WL.call hasF162 rfl rfl (r3Number_spec ((f + t) / 2) _ (by omega)) fun v w1 h' => ?_
   obtain ⟨⟨va, rfl, hNa⟩, hC⟩ := h'
   have hch := hch.trans (Chg.any hC)
   have hb4 := hb4.keep0 hC
   have hb5 := hb5.keep0 hC
   have hn := hn.keep0 hC
   have hd := hd.keep0 hC
   refine Mv rfl rfl ?_
   refine WL.ev (Ev.extract rfl rfl) rfl ?_
   refine WL.ev (Ev.extract rfl rfl) rfl ?_
   refine As rfl rfl ?_
   refine As rfl rfl ?_
   refine WL.nil (kr14 _ _ _ (kh13 _ _ _ ?_))
   refine Sq fun _ kh15 _ kr16 => ?_
   refine Mv rfl rfl ?_
   refine Mv rfl rfl ?_
   refine WL.ev (Ev.loadA rfl rfl hb5 rfl) rfl ?_
   refine Mv rfl rfl ?_
   refine WL.call hasF201 rfl rfl (r11Against_spec _ _ _ _ _ _ _ _ _ _ _ _ hNa (by have := numE_le ((f + t) / 2) (by omega); omega) (by have := num_len ((f + t) / 2); omega) hn hd hx.e hy.e hx.len hy.len) fun v w2 h' => ?_
   obtain ⟨rfl, hC⟩ := h'
   rw [val_wd, val_wd, val_wd, cmp_num (by omega), ← hB, ← hA]
   have hch := hch.trans (Chg.any hC)
   have hb4 := hb4.keep0 hC
   have hb5 := hb5.keep0 hC
   have hn := hn.keep0 hC
   have hd := hd.keep0 hC
   have hNa := hNa.keep0 hC
   refine WL.ev (Ev.leq rfl rfl) rfl ?_
   refine WL.nil (kr16 _ _ _ (kh15 _ _ _ ?_))
   refine CW.cond rfl (fun hc2 => ?_) (fun hc2 => ?_)
   ·
    try simp only [qs] at hc2
    have hle : 2 * nz ((f + t) / 2) * B ≤ A := sgn_le.1 hc2
    refine CW.region fun kR17 kr17 => ?_
    refine Mv rfl rfl ?_
    refine As rfl rfl ?_
    refine WL.nil (kr17 _ _ _ ?_)
    refine ⟨rfl, ((f + t) / 2, t), ?_, ?_, ?_⟩
    ·
     repeat (first | exact Subs.nil | refine Subs.cons rfl ?_ | refine Subs.consI rfl (by omega) ?_)
    ·
     exact ⟨hm2, ht, hle, hhi, hb4, hb5, hn, hd, hch⟩
    ·
     show t - (f + t) / 2 < t - f; omega
   ·
    try simp only [qs] at hc2
    have hle : A < 2 * nz ((f + t) / 2) * B := Nat.lt_of_not_le fun q => by have := sgn_le.2 q; omega
    refine CW.region fun kR18 kr18 => ?_
    refine Mv rfl rfl ?_
    refine As rfl rfl ?_
    refine WL.nil (kr18 _ _ _ ?_)
    refine ⟨rfl, (f, (f + t) / 2), ?_, ?_, ?_⟩
    ·
     repeat (first | exact Subs.nil | refine Subs.cons rfl ?_ | refine Subs.consI rfl (by omega) ?_)
    ·
     exact ⟨hm1, by dsimp only; omega, hlo, .inl hle, hb4, hb5, hn, hd, hch⟩
    ·
     show (f + t) / 2 - f < t - f; omega
  ·
   try simp only [qs] at hc1
   have et : t = f + 1 := by omega
   subst et
   have hft' : f < 9218868437227405312 := by omega
   have hhi' := hhi
   refine CW.exit ?_
   refine kh7 _ _ _ ?_
   refine Sq fun _ kh19 _ kr20 => ?_
   refine WL.ev (Ev.loadA rfl rfl hb4 rfl) rfl ?_
   refine Mv rfl rfl ?_
   refine WL.call hasF162 rfl rfl (r3Number_spec (f) _ (by omega)) fun v w3 h' => ?_
   obtain ⟨⟨vc, rfl, hNc⟩, hC⟩ := h'
   have hch := hch.trans (Chg.any hC)
   have hb4 := hb4.keep0 hC
   have hb5 := hb5.keep0 hC
   have hn := hn.keep0 hC
   have hd := hd.keep0 hC
   refine Mv rfl rfl ?_
   refine WL.ev (Ev.extract rfl rfl) rfl ?_
   refine WL.ev (Ev.extract rfl rfl) rfl ?_
   refine As rfl rfl ?_
   refine As rfl rfl ?_
   refine WL.nil (kr20 _ _ _ (kh19 _ _ _ ?_))
   refine CW.seq fun _ kh21 => ?_
   refine Sq fun _ kh22 _ kr23 => ?_
   refine Mv rfl rfl ?_
   refine Mv rfl rfl ?_
   refine WL.ev (Ev.loadA rfl rfl hb5 rfl) rfl ?_
   refine Mv rfl rfl ?_
   refine WL.call hasF201 rfl rfl (r11Against_spec _ _ _ _ _ _ _ _ _ _ _ _ hNc (by have := numE_le (f) (by omega); omega) (by have := num_len (f); omega) hn hd hx.e hy.e hx.len hy.len) fun v w4 h' => ?_
   obtain ⟨rfl, hC⟩ := h'
   rw [val_wd, val_wd, val_wd, cmp_num (by omega), ← hB, ← hA]
   have hch := hch.trans (Chg.any hC)
   have hb4 := hb4.keep0 hC
   have hb5 := hb5.keep0 hC
   have hn := hn.keep0 hC
   have hd := hd.keep0 hC
   have hNc := hNc.keep0 hC
   refine WL.ev (Ev.eql rfl rfl) rfl ?_
   refine WL.nil (kr23 _ _ _ (kh22 _ _ _ ?_))
   refine CW.cond rfl (fun hc3 => ?_) (fun hc3 => ?_)
   ·
    try simp only [qs] at hc3
    have he := sgn_zero.1 hc3
    refine Sq fun _ kh24 _ kr25 => ?_
    refine Mv rfl rfl ?_
    refine As rfl rfl ?_
    refine WL.nil (kr25 _ _ _ (kh24 _ _ _ ?_))
    refine CW.ret ?_
    refine bodyA.ret1 rfl rfl ?_
    exact ⟨f, rfl, near_eq hft' hhi' he, by omega, hch⟩
   ·
    try simp only [qs] at hc3
    have hne : 2 * nz f * B ≠ A := fun q => hc3 (sgn_zero.2 q)
    have hes := numE_step f
    obtain ⟨d, hdd⟩ : ∃ d : Nat, (d : Int) = numE (f + 1) - numE f := ⟨(numE (f + 1) - numE f).toNat, by omega⟩
    refine CW.skip ?_
    refine kh21 _ _ _ ?_
    refine Sq fun _ kh26 _ kr27 => ?_
    refine WL.ev (Ev.loadA rfl rfl hb4 rfl) rfl ?_
    refine Mv rfl rfl ?_
    refine WL.ev (Ev.loadA rfl rfl hb5 rfl) rfl ?_
    refine Mv rfl rfl ?_
    refine WL.call hasF202 rfl rfl (r11half_spec f _ _ _ _ _ _ _ _ _ hft' hn hd hx.e hy.e hx.len hy.len) fun v w5 h' => ?_
    obtain ⟨rfl, hC⟩ := h'
    rw [val_wd, val_wd, show (numE (f + 1) - numE f).toNat = d by omega, cmp_mid (by omega) hdd, ← hB, ← hA]
    obtain ⟨M, hM⟩ : ∃ M, M = (nz f + nz (f + 1)) * B := ⟨_, rfl⟩
    rw [← hM]
    have hs1 := sgn_le (a := M) (b := A)
    have hs2 := sgn_zero (a := M) (b := A)
    obtain ⟨h, hh⟩ : ∃ h, h = sgn M A := ⟨_, rfl⟩
    rw [← hh] at hs1 hs2
    rw [← hh]
    have hch := hch.trans (Chg.any hC)
    have hb4 := hb4.keep0 hC
    have hb5 := hb5.keep0 hC
    have hn := hn.keep0 hC
    have hd := hd.keep0 hC
    have hNc := hNc.keep0 hC
    refine As rfl rfl ?_
    refine WL.nil (kr27 _ _ _ (kh26 _ _ _ ?_))
    refine Sq fun _ kh28 _ kr29 => ?_
    refine As rfl rfl ?_
    refine WL.nil (kr29 _ _ _ (kh28 _ _ _ ?_))
    refine CW.seq fun _ kh30 => ?_
    refine Sq fun _ kh31 _ kr32 => ?_
    refine Mv rfl rfl ?_
    refine WL.nil (kr32 _ _ _ (kh31 _ _ _ ?_))
    refine CW.block ?_
    refine Sq fun _ kh33 _ kr34 => ?_
    refine WL.ev (Ev.eql rfl rfl) rfl ?_
    refine As rfl rfl ?_
    refine WL.nil (kr34 _ _ _ (kh33 _ _ _ ?_))
    refine CW.cond rfl (fun hc4 => ?_) (fun hc4 => ?_)
    ·
     try simp only [qs] at hc4
     have hmo : mode = 0 := hc4
     refine CW.region fun kR35 kr35 => ?_
     refine Mv rfl rfl ?_
     refine WL.ev (Ev.lss rfl rfl) rfl ?_
     refine Mv rfl rfl ?_
     refine WL.boolCase (fun hg5 => ?_) (fun hg5 => ?_)
     ·
      try simp only [qs] at hg5
      have hup : upM mode x.neg f A ((nz f + nz (f + 1)) * B) = true := by
       rw [← hM, hmo, up_even, decide_eq_true (show M < A by omega)]; rfl
      refine WL.pass rfl rfl rfl rfl rfl ?_
      refine WL.pass rfl rfl rfl rfl rfl ?_
      refine WL.pass rfl rfl rfl rfl rfl ?_
      refine WL.passU rfl rfl rfl rfl ?_
      refine WL.passU rfl rfl rfl rfl ?_
      refine WL.passU rfl rfl rfl rfl ?_
      refine WL.pass rfl rfl rfl rfl rfl ?_
      refine WL.ev (Ev.pickT rfl rfl rfl) rfl ?_
      refine As rfl rfl ?_
      refine WL.nil (kr35 _ _ _ (kh30 _ _ _ ?_))
      refine CW.seq fun _ kh36 => ?_
      refine Sq fun _ kh37 _ kr38 => ?_
      refine Mv rfl rfl ?_
      refine WL.nil (kr38 _ _ _ (kh37 _ _ _ ?_))
      refine CW.condT rfl ?_
      refine CW.region fun kR39 kr39 => ?_
      refine Mv rfl rfl ?_
      first | refine WL.ev (Ev.add64In (b := 1) rfl rfl (by omega)) rfl ?_ | refine WL.ev (Ev.add64 (b := 1) rfl rfl) rfl ?_
      refine As rfl rfl ?_
      refine WL.nil (kr39 _ _ _ (kh36 _ _ _ ?_))
      refine Sq fun _ kh40 _ kr41 => ?_
      refine Mv rfl rfl ?_
      refine As rfl rfl ?_
      refine WL.nil (kr41 _ _ _ (kh40 _ _ _ ?_))
      refine CW.ret ?_
      refine bodyA.ret1 rfl rfl ?_
      exact ⟨f + 1, rfl, near_of hft' hlo hhi' hne (on := true) (by first | exact hup | exact hup.trans hon) rfl, by omega, hch⟩
     ·
      try simp only [qs] at hg5
      refine WL.want rfl rfl rfl rfl ?_
      refine Mv rfl rfl ?_
      refine WL.want rfl rfl rfl rfl ?_
      refine WL.ev (Ev.eql rfl rfl) rfl ?_
      refine WL.want rfl rfl rfl rfl ?_
      refine Mv rfl rfl ?_
      refine WL.boolCase (fun hg6 => ?_) (fun hg6 => ?_)
      ·
       try simp only [qs] at hg6
       have hup : upM mode x.neg f A ((nz f + nz (f + 1)) * B) = decide (f % 2 = 1) := by
        rw [← hM, hmo, up_even, decide_eq_false (show ¬ M < A by omega), decide_eq_true (show M = A by omega)]; simp
       refine WL.want rfl rfl rfl rfl ?_
       refine Mv rfl rfl ?_
       refine WL.want rfl rfl rfl rfl ?_
       refine WL.ev (Ev.remU (b := 2) rfl rfl (by omega)) rfl ?_
       refine WL.want rfl rfl rfl rfl ?_
       refine WL.ev (Ev.eql rfl rfl) rfl ?_
       rw [show decide (((f % 2 : Nat) : Int) = 1) = decide (f % 2 = 1) from decide_eq_decide.2 (by omega)]
       refine WL.want rfl rfl rfl rfl ?_
       refine WL.ev (Ev.pickT rfl rfl rfl) rfl ?_
       refine WL.ev (Ev.pickF rfl rfl rfl) rfl ?_
       refine As rfl rfl ?_
       refine WL.nil (kr35 _ _ _ (kh30 _ _ _ ?_))
       refine CW.seq fun _ kh42 => ?_
       refine Sq fun _ kh43 _ kr44 => ?_
       refine Mv rfl rfl ?_
       refine WL.nil (kr44 _ _ _ (kh43 _ _ _ ?_))
       refine CW.cond rfl (fun hc7 => ?_) (fun hc7 => ?_)
       ·
        try simp only [qs] at hc7
        have hon := decide_eq_true hc7
        refine CW.region fun kR45 kr45 => ?_
        refine Mv rfl rfl ?_
        first | refine WL.ev (Ev.add64In (b := 1) rfl rfl (by omega)) rfl ?_ | refine WL.ev (Ev.add64 (b := 1) rfl rfl) rfl ?_
        refine As rfl rfl ?_
        refine WL.nil (kr45 _ _ _ (kh42 _ _ _ ?_))
        refine Sq fun _ kh46 _ kr47 => ?_
        refine Mv rfl rfl ?_
        refine As rfl rfl ?_
        refine WL.nil (kr47 _ _ _ (kh46 _ _ _ ?_))
        refine CW.ret ?_
        refine bodyA.ret1 rfl rfl ?_
        exact ⟨f + 1, rfl, near_of hft' hlo hhi' hne (on := true) (by first | exact hup | exact hup.trans hon) rfl, by omega, hch⟩
       ·
        try simp only [qs] at hc7
        have hon := decide_eq_false hc7
        refine CW.skip ?_
        refine kh42 _ _ _ ?_
        refine Sq fun _ kh48 _ kr49 => ?_
        refine Mv rfl rfl ?_
        refine As rfl rfl ?_
        refine WL.nil (kr49 _ _ _ (kh48 _ _ _ ?_))
        refine CW.ret ?_
        refine bodyA.ret1 rfl rfl ?_
        exact ⟨f, rfl, near_of hft' hlo hhi' hne (on := false) (by first | exact hup | exact hup.trans hon) rfl, by omega, hch⟩
      ·
       try simp only [qs] at hg6
       have hup : upM mode x.neg f A ((nz f + nz (f + 1)) * B) = false := by
        rw [← hM, hmo, up_even, decide_eq_false (show ¬ M < A by omega), decide_eq_false (show ¬ M = A by omega)]; rfl
       refine WL.pass rfl rfl rfl rfl rfl ?_
       refine WL.pass rfl rfl rfl rfl rfl ?_
       refine WL.pass rfl rfl rfl rfl rfl ?_
       refine WL.want rfl rfl rfl rfl ?_
       refine WL.ev (Ev.pickF rfl rfl rfl) rfl ?_
       refine WL.ev (Ev.pickF rfl rfl rfl) rfl ?_
       refine As rfl rfl ?_
       refine WL.nil (kr35 _ _ _ (kh30 _ _ _ ?_))
       refine CW.seq fun _ kh50 => ?_
       refine Sq fun _ kh51 _ kr52 => ?_
       refine Mv rfl rfl ?_
       refine WL.nil (kr52 _ _ _ (kh51 _ _ _ ?_))
       refine CW.condF rfl ?_
       refine CW.skip ?_
       refine kh50 _ _ _ ?_
       refine Sq fun _ kh53 _ kr54 => ?_
       refine Mv rfl rfl ?_
       refine As rfl rfl ?_
       refine WL.nil (kr54 _ _ _ (kh53 _ _ _ ?_))
       refine CW.ret ?_
       refine bodyA.ret1 rfl rfl ?_
       exact ⟨f, rfl, near_of hft' hlo hhi' hne (on := false) (by first | exact hup | exact hup.trans hon) rfl, by omega, hch⟩
    ·
     try simp only [qs] at hc4
     refine Sq fun _ kh55 _ kr56 => ?_
     refine WL.ev (Ev.eql rfl rfl) rfl ?_
     refine As rfl rfl ?_
     refine WL.nil (kr56 _ _ _ (kh55 _ _ _ ?_))
     refine CW.cond rfl (fun hc8 => ?_) (fun hc8 => ?_)
     ·
      try simp only [qs] at hc8
      have hmo : mode = 2 := hc8
      have hup : upM mode x.neg f A ((nz f + nz (f + 1)) * B) = !x.neg := by rw [hmo, up_up]
      refine CW.region fun kR57 kr57 => ?_
      refine WL.ev (Ev.fieldAddr rfl) rfl ?_
      refine WL.ev (Ev.fieldAddr rfl) rfl ?_
      refine WL.ev (Ev.load rfl rfl (hb5.at_ rfl)) rfl ?_
      refine WL.ev (Ev.not rfl) rfl ?_
      refine As rfl rfl ?_
      refine WL.nil (kr57 _ _ _ (kh30 _ _ _ ?_))
      refine CW.seq fun _ kh58 => ?_
      refine Sq fun _ kh59 _ kr60 => ?_
      refine Mv rfl rfl ?_
      refine WL.nil (kr60 _ _ _ (kh59 _ _ _ ?_))
      refine CW.cond rfl (fun hc9 => ?_) (fun hc9 => ?_)
      ·
       try simp only [qs] at hc9
       have hon : (!x.neg) = true := by simpa using hc9
       refine CW.region fun kR61 kr61 => ?_
       refine Mv rfl rfl ?_
       first | refine WL.ev (Ev.add64In (b := 1) rfl rfl (by omega)) rfl ?_ | refine WL.ev (Ev.add64 (b := 1) rfl rfl) rfl ?_
       refine As rfl rfl ?_
       refine WL.nil (kr61 _ _ _ (kh58 _ _ _ ?_))
       refine Sq fun _ kh62 _ kr63 => ?_
       refine Mv rfl rfl ?_
       refine As rfl rfl ?_
       refine WL.nil (kr63 _ _ _ (kh62 _ _ _ ?_))
       refine CW.ret ?_
       refine bodyA.ret1 rfl rfl ?_
       exact ⟨f + 1, rfl, near_of hft' hlo hhi' hne (on := true) (by first | exact hup | exact hup.trans hon) rfl, by omega, hch⟩
      ·
       try simp only [qs] at hc9
       have hon : (!x.neg) = false := by simpa using hc9
       refine CW.skip ?_
       refine kh58 _ _ _ ?_
       refine Sq fun _ kh64 _ kr65 => ?_
       refine Mv rfl rfl ?_
       refine As rfl rfl ?_
       refine WL.nil (kr65 _ _ _ (kh64 _ _ _ ?_))
       refine CW.ret ?_
       refine bodyA.ret1 rfl rfl ?_
       exact ⟨f, rfl, near_of hft' hlo hhi' hne (on := false) (by first | exact hup | exact hup.trans hon) rfl, by omega, hch⟩
     ·
      try simp only [qs] at hc8
      refine Sq fun _ kh66 _ kr67 => ?_
      refine WL.ev (Ev.eql rfl rfl) rfl ?_
      refine As rfl rfl ?_
      refine WL.nil (kr67 _ _ _ (kh66 _ _ _ ?_))
      refine CW.cond rfl (fun hc10 => ?_) (fun hc10 => ?_)
      ·
       try simp only [qs] at hc10
       have hmo : mode = 3 := hc10
       have hup : upM mode x.neg f A ((nz f + nz (f + 1)) * B) = x.neg := by rw [hmo, up_down]
       refine CW.region fun kR68 kr68 => ?_
       refine WL.ev (Ev.fieldAddr rfl) rfl ?_
       refine WL.ev (Ev.fieldAddr rfl) rfl ?_
       refine WL.ev (Ev.load rfl rfl (hb5.at_ rfl)) rfl ?_
       refine As rfl rfl ?_
       refine WL.nil (kr68 _ _ _ (kh30 _ _ _ ?_))
       refine CW.seq fun _ kh69 => ?_
       refine Sq fun _ kh70 _ kr71 => ?_
       refine Mv rfl rfl ?_
       refine WL.nil (kr71 _ _ _ (kh70 _ _ _ ?_))
       refine CW.cond rfl (fun hc11 => ?_) (fun hc11 => ?_)
       ·
        try simp only [qs] at hc11
        have hon : x.neg = true := by simpa using hc11
        refine CW.region fun kR72 kr72 => ?_
        refine Mv rfl rfl ?_
        first | refine WL.ev (Ev.add64In (b := 1) rfl rfl (by omega)) rfl ?_ | refine WL.ev (Ev.add64 (b := 1) rfl rfl) rfl ?_
        refine As rfl rfl ?_
        refine WL.nil (kr72 _ _ _ (kh69 _ _ _ ?_))
        refine Sq fun _ kh73 _ kr74 => ?_
        refine Mv rfl rfl ?_
        refine As rfl rfl ?_
        refine WL.nil (kr74 _ _ _ (kh73 _ _ _ ?_))
        refine CW.ret ?_
        refine bodyA.ret1 rfl rfl ?_
        exact ⟨f + 1, rfl, near_of hft' hlo hhi' hne (on := true) (by first | exact hup | exact hup.trans hon) rfl, by omega, hch⟩
       ·
        try simp only [qs] at hc11
        have hon : x.neg = false := by simpa using hc11
        refine CW.skip ?_
        refine kh69 _ _ _ ?_
        refine Sq fun _ kh75 _ kr76 => ?_
        refine Mv rfl rfl ?_
        refine As rfl rfl ?_
        refine WL.nil (kr76 _ _ _ (kh75 _ _ _ ?_))
        refine CW.ret ?_
        refine bodyA.ret1 rfl rfl ?_
        exact ⟨f, rfl, near_of hft' hlo hhi' hne (on := false) (by first | exact hup | exact hup.trans hon) rfl, by omega, hch⟩
      ·
       try simp only [qs] at hc10
       refine Sq fun _ kh77 _ kr78 => ?_
       refine WL.ev (Ev.eql rfl rfl) rfl ?_
       refine As rfl rfl ?_
       refine WL.nil (kr78 _ _ _ (kh77 _ _ _ ?_))
       refine CW.cond rfl (fun hc12 => ?_) (fun hc12 => ?_)
       ·
        try simp only [qs] at hc12
        have hmo : mode = 4 := hc12
        have hup : upM mode x.neg f A ((nz f + nz (f + 1)) * B) = decide (h ≤ 0) := by rw [← hM, hmo, up_away]; exact decide_eq_decide.2 hs1.symm
        refine CW.region fun kR79 kr79 => ?_
        refine Mv rfl rfl ?_
        refine WL.ev (Ev.leq rfl rfl) rfl ?_
        refine As rfl rfl ?_
        refine WL.nil (kr79 _ _ _ (kh30 _ _ _ ?_))
        refine CW.seq fun _ kh80 => ?_
        refine Sq fun _ kh81 _ kr82 => ?_
        refine Mv rfl rfl ?_
        refine WL.nil (kr82 _ _ _ (kh81 _ _ _ ?_))
        refine CW.cond rfl (fun hc13 => ?_) (fun hc13 => ?_)
        ·
         try simp only [qs] at hc13
         have hon : decide (h ≤ 0) = true := decide_eq_true (by have := hc13; omega)
         refine CW.region fun kR83 kr83 => ?_
         refine Mv rfl rfl ?_
         first | refine WL.ev (Ev.add64In (b := 1) rfl rfl (by omega)) rfl ?_ | refine WL.ev (Ev.add64 (b := 1) rfl rfl) rfl ?_
         refine As rfl rfl ?_
         refine WL.nil (kr83 _ _ _ (kh80 _ _ _ ?_))
         refine Sq fun _ kh84 _ kr85 => ?_
         refine Mv rfl rfl ?_
         refine As rfl rfl ?_
         refine WL.nil (kr85 _ _ _ (kh84 _ _ _ ?_))
         refine CW.ret ?_
         refine bodyA.ret1 rfl rfl ?_
         exact ⟨f + 1, rfl, near_of hft' hlo hhi' hne (on := true) (by first | exact hup | exact hup.trans hon) rfl, by omega, hch⟩
        ·
         try simp only [qs] at hc13
         have hon : decide (h ≤ 0) = false := decide_eq_false (by have := hc13; omega)
         refine CW.skip ?_
         refine kh80 _ _ _ ?_
         refine Sq fun _ kh86 _ kr87 => ?_
         refine Mv rfl rfl ?_
         refine As rfl rfl ?_
         refine WL.nil (kr87 _ _ _ (kh86 _ _ _ ?_))
         refine CW.ret ?_
         refine bodyA.ret1 rfl rfl ?_
         exact ⟨f, rfl, near_of hft' hlo hhi' hne (on := false) (by first | exact hup | exact hup.trans hon) rfl, by omega, hch⟩
       ·
        try simp only [qs] at hc12
        have hmo : mode = 1 := by omega
        have hup : upM mode x.neg f A ((nz f + nz (f + 1)) * B) = false := by rw [hmo, up_zero]
        refine CW.skip ?_
        refine kh30 _ _ _ ?_
        refine CW.seq fun _ kh88 => ?_
        refine Sq fun _ kh89 _ kr90 => ?_
        refine Mv rfl rfl ?_
        refine WL.nil (kr90 _ _ _ (kh89 _ _ _ ?_))
        refine CW.condF rfl ?_
        refine CW.skip ?_
        refine kh88 _ _ _ ?_
        refine Sq fun _ kh91 _ kr92 => ?_
        refine Mv rfl rfl ?_
        refine As rfl rfl ?_
        refine WL.nil (kr92 _ _ _ (kh91 _ _ _ ?_))
        refine CW.ret ?_
        refine bodyA.ret1 rfl rfl ?_
        exact ⟨f, rfl, near_of hft' hlo hhi' hne (on := false) (by first | exact hup | exact hup.trans hon) rfl, by omega, hch⟩

end Go.Proofs.YtkkklaodligpdaaGreatDoor

/- Reference of layer 11: rounded, Quot. No condition. -/
namespace Go.Proofs.YtkkklaodligpdaaGreatDoor
open Go Sx Wd

/-- What rounded answers. -/
def RdP (u : Value) (nn nd : Bool) (ln ld : Nat) (en ed mode : Int) : Prop :=
  (¬ (0 ≤ mode ∧ mode ≤ 4) ∧ u = .tuple [.int .u64 0, .bool false, .int .i64 1].toArray) ∨ ((0 ≤ mode ∧ mode ≤ 4) ∧
    ((sgD nd ld < 0 ∧ u = .tuple [.int .u64 0, .bool false, .int .i64 1].toArray) ∨ (0 ≤ sgD nd ld ∧ (formD nn ln en = none ∨ formD nd ld ed = none) ∧ u = .tuple [.int .u64 0, .bool false, .int .i64 2].toArray) ∨
     (0 ≤ sgD nd ld ∧ ∃ x y, formD nn ln en = some x ∧ formD nd ld ed = some y ∧ ((y.m = 0 ∧ u = .tuple [.int .u64 0, .bool false, .int .i64 21].toArray) ∨
       (y.m ≠ 0 ∧ ∃ r : Nat, IsNear (dyA x.m (x.e - y.e)) (y.m * dyB (x.e - y.e)) x.neg mode r ∧ r ≤ 9218868437227405312 ∧ u = .tuple [.int .u64 (r : Int), .bool x.neg, .int .i64 0].toArray)))))

set_option maxRecDepth 8000 in
set_option maxHeartbeats 2000000 in
theorem r11rounded_spec (nn nd : Bool) (vn vd : Value) (ln ld : List Nat) (en ed : Int) (mode : Int) (w : World) (hn : NU w vn ln) (hd : NU w vd ld) (hen : -9223372036854775808 ≤ en ∧ en ≤ 9223372036854775807) (hed : -9223372036854775808 ≤ ed ∧ ed ≤ 9223372036854775807) (hln : ln.length ≤ 34359738368) (hld : ld.length ≤ 34359738368) : Ret Tryz.prog 120 [.agg [.int .i64 53, .int .i64 (-1074), .int .u64 9218868437227405312].toArray, .agg [.bool nn, vn, .int .i64 en, .bool nd, vd, .int .i64 ed].toArray, .bool false, .int .i64 mode] w fun u w' => RdP u nn nd (val ln) (val ld) en ed mode ∧ Chg [] w w' := by
 have hch : Chg [] w w := Chg.refl _ _
 have hon1 := hn.one
 have hod1 := hd.one
 refine Ret.enter Tryz.func120 rfl rfl ?_
 simp only [args0, Nat.zero_add, Nat.reduceAdd]
 refine Sq fun _ kh1 _ kr2 => ?_
 refine WL.boxB rfl rfl rfl fun b4 wm4 hb4 hcm4 hge4 => ?_
 have hgehch4 := Nat.le_trans hch.size hge4
 have hch := hch.trans (Chg.any hcm4)
 have hn := hn.keep0 hcm4
 have hd := hd.keep0 hcm4
 refine WL.boxB rfl rfl rfl fun b5 wm5 hb5 hcm5 hge5 => ?_
 have hgehch5 := Nat.le_trans hch.size hge5
 have hch := hch.trans (Chg.any hcm5)
 have hn := hn.keep0 hcm5
 have hd := hd.keep0 hcm5
 have hneb45 : b4 ≠ b5 := by have := hb4.lt; omega
 have hb4 := hb4.keep0 hcm5
 refine As rfl rfl ?_
 refine As rfl rfl ?_
 refine As rfl rfl ?_
 refine WL.nil (kr2 _ _ _ (kh1 _ _ _ ?_))
 refine CW.seq fun _ kh3 => ?_
 refine CW.seqM 18 (decide (mode < 0 ∨ 4 < mode)) ?_ ?_
 ·
  refine CW.region fun kR4 kr4 => ?_
  refine Mv rfl rfl ?_
  refine WL.ev (Ev.lss rfl rfl) rfl ?_
  refine Mv rfl rfl ?_
  refine WL.boolCase (fun hg1 => ?_) (fun hg1 => ?_)
  ·
   try simp only [qs] at hg1
   refine WL.pass rfl rfl rfl rfl rfl ?_
   refine WL.pass rfl rfl rfl rfl rfl ?_
   refine WL.ev (Ev.pickT rfl rfl rfl) rfl ?_
   refine WL.nil (kr4 _ _ _ ?_)
   refine ⟨rfl, rfl, Subs.consB rfl ?_ ?_⟩
   ·
    first | (simp; omega) | (simp_all; done) | (refine decide_eq_decide.2 ?_; omega)
   ·
    first | ((repeat (first | exact Subs.refl | refine Subs.drop1 (by rfl) ?_)); done) | ((repeat (first | exact Subs.nil | refine Subs.cons rfl ?_)); done)
  ·
   try simp only [qs] at hg1
   refine WL.want rfl rfl rfl rfl ?_
   refine Mv rfl rfl ?_
   refine WL.want rfl rfl rfl rfl ?_
   refine WL.ev (Ev.gtr rfl rfl) rfl ?_
   refine WL.ev (Ev.pickF rfl rfl rfl) rfl ?_
   refine WL.nil (kr4 _ _ _ ?_)
   refine ⟨rfl, rfl, Subs.consB rfl ?_ ?_⟩
   ·
    first | (simp; omega) | (simp_all; done) | (refine decide_eq_decide.2 ?_; omega)
   ·
    first | ((repeat (first | exact Subs.refl | refine Subs.drop1 (by rfl) ?_)); done) | ((repeat (first | exact Subs.nil | refine Subs.cons rfl ?_)); done)
 ·
  refine CW.cond rfl (fun hc2 => ?_) (fun hc2 => ?_)
  ·
   try simp only [qs] at hc2
   have hm := hc2
   refine Sq fun _ kh5 _ kr6 => ?_
   refine As rfl rfl ?_
   refine As rfl rfl ?_
   refine As rfl rfl ?_
   refine WL.nil (kr6 _ _ _ (kh5 _ _ _ ?_))
   refine CW.ret ?_
   refine bodyA.ret3 rfl rfl rfl rfl ?_
   exact ⟨.inl ⟨by omega, rfl⟩, hch⟩
  ·
   try simp only [qs] at hc2
   have hm : 0 ≤ mode ∧ mode ≤ 4 := by have := hc2; omega
   refine CW.skip ?_
   refine kh3 _ _ _ ?_
   refine Sq fun _ kh7 _ kr8 => ?_
   refine WL.ev (Ev.loadA rfl rfl hb5 rfl) rfl ?_
   refine WL.buildSlice (m := 1) (cs := [.bool nn, vn, .int .i64 en, .bool nd, vd, .int .i64 ed]) (by decide) (by decide) rfl (by kernel_rfl) rfl fun b21 w21 hn21 => ?_
   have hcm21 := hn21.chg
   have hb21 : BK w21 b21 _ [.bool nn, vn, .int .i64 en, .bool nd, vd, .int .i64 ed] := hn21.at_
   have hge21 := hn21.ge
   have hch := hch.trans hcm21
   have hn := hn.keep0 hcm21
   have hd := hd.keep0 hcm21
   have hb4 := hb4.keep0 hcm21
   have hb5 := hb5.keep0 hcm21
   refine WL.call hasF168 rfl rfl (r11may_spec b21 _ _ _ _ _ _ _ _ _ hb21 hn hd hen hed hln hld) fun v w1 h' => ?_
   obtain ⟨hD, hC22⟩ := h'
   have hch := hch.trans (Chg.any hC22)
   have hb4 := hb4.keep0 hC22
   have hb5 := hb5.keep0 hC22
   have hn := hn.keep0 hC22
   have hd := hd.keep0 hC22
   rcases hD with ⟨hs, rfl⟩ | ⟨hs, hno, rfl⟩ | ⟨hs, dx, dy, hex, hey, hy0, rfl⟩ | ⟨hs, dx, dy, hex, hey, hy0, gg, cc, rx, ry, rfl, hrc, hNx, hNy⟩
   ·
    refine Mv rfl rfl ?_
    refine WL.ev (Ev.extract rfl rfl) rfl ?_
    refine WL.ev (Ev.extract rfl rfl) rfl ?_
    refine As rfl rfl ?_
    refine As rfl rfl ?_
    refine WL.nil (kr8 _ _ _ (kh7 _ _ _ ?_))
    refine CW.seq fun _ kh9 => ?_
    refine Sq fun _ kh10 _ kr11 => ?_
    refine Mv rfl rfl ?_
    refine WL.ev (Ev.neq rfl rfl) rfl ?_
    refine WL.nil (kr11 _ _ _ (kh10 _ _ _ ?_))
    refine CW.condT rfl ?_
    refine Sq fun _ kh12 _ kr13 => ?_
    refine Mv rfl rfl ?_
    refine As rfl rfl ?_
    refine As rfl rfl ?_
    refine As rfl rfl ?_
    refine WL.nil (kr13 _ _ _ (kh12 _ _ _ ?_))
    refine CW.ret ?_
    refine bodyA.ret3 rfl rfl rfl rfl ?_
    exact ⟨.inr ⟨hm, .inl ⟨hs, rfl⟩⟩, hch⟩
   ·
    refine Mv rfl rfl ?_
    refine WL.ev (Ev.extract rfl rfl) rfl ?_
    refine WL.ev (Ev.extract rfl rfl) rfl ?_
    refine As rfl rfl ?_
    refine As rfl rfl ?_
    refine WL.nil (kr8 _ _ _ (kh7 _ _ _ ?_))
    refine CW.seq fun _ kh14 => ?_
    refine Sq fun _ kh15 _ kr16 => ?_
    refine Mv rfl rfl ?_
    refine WL.ev (Ev.neq rfl rfl) rfl ?_
    refine WL.nil (kr16 _ _ _ (kh15 _ _ _ ?_))
    refine CW.condT rfl ?_
    refine Sq fun _ kh17 _ kr18 => ?_
    refine Mv rfl rfl ?_
    refine As rfl rfl ?_
    refine As rfl rfl ?_
    refine As rfl rfl ?_
    refine WL.nil (kr18 _ _ _ (kh17 _ _ _ ?_))
    refine CW.ret ?_
    refine bodyA.ret3 rfl rfl rfl rfl ?_
    exact ⟨.inr ⟨hm, .inr (.inl ⟨hs, hno, rfl⟩)⟩, hch⟩
   ·
    refine Mv rfl rfl ?_
    refine WL.ev (Ev.extract rfl rfl) rfl ?_
    refine WL.ev (Ev.extract rfl rfl) rfl ?_
    refine As rfl rfl ?_
    refine As rfl rfl ?_
    refine WL.nil (kr8 _ _ _ (kh7 _ _ _ ?_))
    refine CW.seq fun _ kh19 => ?_
    refine Sq fun _ kh20 _ kr21 => ?_
    refine Mv rfl rfl ?_
    refine WL.ev (Ev.neq rfl rfl) rfl ?_
    refine WL.nil (kr21 _ _ _ (kh20 _ _ _ ?_))
    refine CW.condT rfl ?_
    refine Sq fun _ kh22 _ kr23 => ?_
    refine Mv rfl rfl ?_
    refine As rfl rfl ?_
    refine As rfl rfl ?_
    refine As rfl rfl ?_
    refine WL.nil (kr23 _ _ _ (kh22 _ _ _ ?_))
    refine CW.ret ?_
    refine bodyA.ret3 rfl rfl rfl rfl ?_
    exact ⟨.inr ⟨hm, .inr (.inr ⟨hs, dx, dy, hex, hey, .inl ⟨hy0, rfl⟩⟩)⟩, hch⟩
   ·
    have hokx := formD_ok hex
    have hoky := formD_ok hey
    have hrl := hrc.lt (by simp [ratC])
    refine Mv rfl rfl ?_
    refine WL.ev (Ev.extract rfl rfl) rfl ?_
    refine WL.ev (Ev.extract rfl rfl) rfl ?_
    refine As rfl rfl ?_
    refine As rfl rfl ?_
    refine WL.nil (kr8 _ _ _ (kh7 _ _ _ ?_))
    refine CW.seq fun _ kh24 => ?_
    refine Sq fun _ kh25 _ kr26 => ?_
    refine Mv rfl rfl ?_
    refine WL.ev (Ev.neq rfl rfl) rfl ?_
    refine WL.nil (kr26 _ _ _ (kh25 _ _ _ ?_))
    refine CW.condF rfl ?_
    refine CW.skip ?_
    refine kh24 _ _ _ ?_
    refine CW.seq fun _ kh27 => ?_
    refine Sq fun _ kh28 _ kr29 => ?_
    refine Mv rfl rfl ?_
    refine Mv rfl rfl ?_
    refine WL.pass rfl rfl rfl rfl rfl ?_
    refine WL.pass rfl rfl rfl rfl rfl ?_
    refine WL.pass rfl rfl rfl rfl rfl ?_
    refine WL.pass rfl rfl rfl rfl rfl ?_
    refine WL.pass rfl rfl rfl rfl rfl ?_
    refine WL.ev (Ev.pickF rfl rfl rfl) rfl ?_
    refine WL.nil (kr29 _ _ _ (kh28 _ _ _ ?_))
    refine CW.condF rfl ?_
    refine CW.skip ?_
    refine kh27 _ _ _ ?_
    refine CW.seq fun _ kh30 => ?_
    refine CW.regionHC 15 rfl hmix fun kR31 kr31 hS hdr => ?_
    have hch := hch.trans (Chg.any hdr)
    have hb4 := hb4.keep0 hdr
    have hb5 := hb5.keep0 hdr
    have hn := hn.keep0 hdr
    have hd := hd.keep0 hdr
    have hrc := hrc.keep0 hdr
    have hNx := hNx.keep0 hdr
    have hNy := hNy.keep0 hdr
    have hch_r := hch
    have hb4_r := hb4
    have hb5_r := hb5
    have hrc_r := hrc
    refine WH.take 0 rfl (by kernel_rfl) (by kernel_rfl) (by kernel_rfl) hS (fun w' hw' => Ev.loadA rfl rfl (hb4_r.keep0 hw') rfl) rfl ?_
    refine WH.take 1 rfl (by kernel_rfl) (by kernel_rfl) (by kernel_rfl) hS (fun w' hw' => Ev.move rfl) rfl ?_
    refine WH.take 2 rfl (by kernel_rfl) (by kernel_rfl) (by kernel_rfl) hS (fun w' hw' => Ev.indexAddr (i := 0) rfl rfl (by decide) (by decide)) rfl ?_
    refine WH.take 3 rfl (by kernel_rfl) (by kernel_rfl) (by kernel_rfl) hS (fun w' hw' => Ev.loadAgg (cs := ratC dx dy rx ry) rfl rfl rfl (hrc_r.keep0 hw')) rfl ?_
    unfold ratC
    refine WH.take 4 rfl (by kernel_rfl) (by kernel_rfl) (by kernel_rfl) hS (fun w' hw' => Ev.move rfl) rfl ?_
    refine WH.take 5 rfl (by kernel_rfl) (by kernel_rfl) (by kernel_rfl) hS (fun w' hw' => Ev.move rfl) rfl ?_
    refine WH.take 7 rfl (by kernel_rfl) (by kernel_rfl) (by kernel_rfl) hS (fun w' hw' => Ev.move rfl) rfl ?_
    refine WH.take 8 rfl (by kernel_rfl) (by kernel_rfl) (by kernel_rfl) hS (fun w' hw' => Ev.indexAddr (i := 0) rfl rfl (by decide) (by decide)) rfl ?_
    refine WH.take 9 rfl (by kernel_rfl) (by kernel_rfl) (by kernel_rfl) hS (fun w' hw' => Ev.fieldAddr rfl) rfl ?_
    refine WH.take 10 rfl (by kernel_rfl) (by kernel_rfl) (by kernel_rfl) hS (fun w' hw' => Ev.fieldAddr rfl) rfl ?_
    refine WH.take 11 rfl (by kernel_rfl) (by kernel_rfl) (by kernel_rfl) hS (fun w' hw' => Ev.load (v := .bool dx.neg) rfl rfl ((hrc_r.keep0 hw') 0 _ rfl)) rfl ?_
    refine WH.oneCall 6 rfl (by kernel_rfl) hasF169 rfl rfl (r11Nearby_spec dx dy rx ry mode _ hm hNx hNy hokx hoky) fun v w2 h' => ?_
    obtain ⟨r, rfl, hNr, hr, hC⟩ := h'
    have hch := hch.trans (Chg.any hC)
    have hb4 := hb4.keep0 hC
    have hb5 := hb5.keep0 hC
    have hn := hn.keep0 hC
    have hd := hd.keep0 hC
    have hrc := hrc.keep0 hC
    have hNx := hNx.keep0 hC
    have hNy := hNy.keep0 hC
    have hS := hS.trans hC
    refine ⟨hS, ?_⟩
    refine WH.take 12 rfl (by kernel_rfl) (by kernel_rfl) (by kernel_rfl) hS (fun w' hw' => Ev.assign rfl) rfl ?_
    refine WH.take 13 rfl (by kernel_rfl) (by kernel_rfl) (by kernel_rfl) hS (fun w' hw' => Ev.assign rfl) rfl ?_
    refine WH.take 14 rfl (by kernel_rfl) (by kernel_rfl) (by kernel_rfl) hS (fun w' hw' => Ev.assign rfl) rfl ?_
    refine WH.done (by kernel_rfl) (kr31 _ _ _ ?_)
    refine kh30 _ _ _ ?_
    refine CW.ret ?_
    refine bodyA.ret3 rfl rfl rfl rfl ?_
    exact ⟨.inr ⟨hm, .inr (.inr ⟨hs, dx, dy, hex, hey, .inr ⟨hy0, r, hNr, hr, rfl⟩⟩)⟩, hch⟩

set_option maxRecDepth 8000 in
set_option maxHeartbeats 2000000 in
theorem r11wide64_spec (k : Nat) (neg : Bool) (e : Int) (w : World) (hk : k ≤ 9218868437227405312) : Ret Tryz.prog 121 [.int .u64 (k : Int), .bool neg, .int .i64 e] w fun u w' => u = .tuple [.float .f64 (if neg then k + 9223372036854775808 else k), .int .i64 e].toArray ∧ w = w' := by
 refine Ret.enter Tryz.func121 rfl rfl ?_
 simp only [args0, Nat.zero_add, Nat.reduceAdd]
 refine Sq fun _ kh1 _ kr2 => ?_
 refine As rfl rfl ?_
 refine As rfl rfl ?_
 refine WL.nil (kr2 _ _ _ (kh1 _ _ _ ?_))
 refine CW.seq fun _ kh3 => ?_
 refine Sq fun _ kh4 _ kr5 => ?_
 refine Mv rfl rfl ?_
 refine WL.nil (kr5 _ _ _ (kh4 _ _ _ ?_))
 refine CW.cond rfl (fun hc1 => ?_) (fun hc1 => ?_)
 ·
  try simp only [qs] at hc1
  have hng := hc1
  refine CW.region fun kR6 kr6 => ?_
  refine Mv rfl rfl ?_
  refine WL.ev (Ev.add64In (b := 9223372036854775808) rfl rfl (by omega)) rfl ?_
  refine As rfl rfl ?_
  refine WL.nil (kr6 _ _ _ (kh3 _ _ _ ?_))
  refine Sq fun _ kh7 _ kr8 => ?_
  refine Mv rfl rfl ?_
  refine WL.ev (Ev.ext rfl (ext78 _ _)) rfl ?_
  refine Mv rfl rfl ?_
  refine As rfl rfl ?_
  refine As rfl rfl ?_
  refine WL.nil (kr8 _ _ _ (kh7 _ _ _ ?_))
  refine CW.ret ?_
  refine bodyA.ret2 rfl rfl rfl ?_
  rw [if_pos hng]
  exact ⟨rfl, rfl⟩
 ·
  try simp only [qs] at hc1
  have hng := hc1
  refine CW.skip ?_
  refine kh3 _ _ _ ?_
  refine Sq fun _ kh9 _ kr10 => ?_
  refine Mv rfl rfl ?_
  refine WL.ev (Ev.ext rfl (ext78 _ _)) rfl ?_
  refine Mv rfl rfl ?_
  refine As rfl rfl ?_
  refine As rfl rfl ?_
  refine WL.nil (kr10 _ _ _ (kh9 _ _ _ ?_))
  refine CW.ret ?_
  refine bodyA.ret2 rfl rfl rfl ?_
  rw [if_neg (by rw [hng]; decide)]
  exact ⟨rfl, rfl⟩

set_option maxRecDepth 8000 in
set_option maxHeartbeats 2000000 in
theorem r11Quot_spec (nn nd : Bool) (vn vd : Value) (ln ld : List Nat) (en ed : Int) (mode : Int) (w : World) (hn : NU w vn ln) (hd : NU w vd ld) (hen : -9223372036854775808 ≤ en ∧ en ≤ 9223372036854775807) (hed : -9223372036854775808 ≤ ed ∧ ed ≤ 9223372036854775807) (hln : ln.length ≤ 34359738368) (hld : ld.length ≤ 34359738368) : Ret Tryz.prog 61 [.agg [.bool nn, vn, .int .i64 en, .bool nd, vd, .int .i64 ed].toArray, .int .i64 mode] w fun u w' => (∃ bits e, u = .tuple [.float .f64 bits, .int .i64 e].toArray ∧ QuotP nn nd (val ln) (val ld) en ed mode bits e) ∧ Chg [] w w' := by
 have hch : Chg [] w w := Chg.refl _ _
 have hon1 := hn.one
 have hod1 := hd.one
 refine Ret.enter Tryz.func61 rfl rfl ?_
 simp only [args0, Nat.zero_add, Nat.reduceAdd]
 refine Sq fun _ kh1 _ kr2 => ?_
 refine WL.boxB rfl rfl rfl fun b2 wm2 hb2 hcm2 hge2 => ?_
 have hgehch2 := Nat.le_trans hch.size hge2
 have hch := hch.trans (Chg.any hcm2)
 have hn := hn.keep0 hcm2
 have hd := hd.keep0 hcm2
 refine As rfl rfl ?_
 refine As rfl rfl ?_
 refine WL.nil (kr2 _ _ _ (kh1 _ _ _ ?_))
 refine CW.seq fun _ kh3 => ?_
 refine CW.regionHC 11 rfl hmix fun kR4 kr4 hS hdr => ?_
 have hch := hch.trans (Chg.any hdr)
 have hb2 := hb2.keep0 hdr
 have hn := hn.keep0 hdr
 have hd := hd.keep0 hdr
 have hch_r := hch
 have hb2_r := hb2
 refine WH.take 1 rfl (by kernel_rfl) (by kernel_rfl) (by kernel_rfl) hS (fun w' hw' => Ev.loadA rfl rfl (hb2_r.keep0 hw') rfl) rfl ?_
 refine WH.take 2 rfl (by kernel_rfl) (by kernel_rfl) (by kernel_rfl) hS (fun w' hw' => Ev.move rfl) rfl ?_
 refine WH.oneCall 0 rfl (by kernel_rfl) hasF111 rfl rfl (r3Of64_spec _) fun v w1 h' => ?_
 obtain ⟨rfl, hC⟩ := h'
 have hch := hch.trans (Chg.any hC)
 have hb2 := hb2.keep0 hC
 have hn := hn.keep0 hC
 have hd := hd.keep0 hC
 have hS := hS.trans hC
 refine ⟨hS, ?_⟩
 refine WH.oneCall 3 rfl (by kernel_rfl) hasF120 rfl rfl (r11rounded_spec _ _ _ _ _ _ _ _ mode _ hn hd hen hed hln hld) fun v w2 h' => ?_
 obtain ⟨hD, hC13⟩ := h'
 have hch := hch.trans (Chg.any hC13)
 have hb2 := hb2.keep0 hC13
 have hn := hn.keep0 hC13
 have hd := hd.keep0 hC13
 have hS := hS.trans hC13
 refine ⟨hS, ?_⟩
 rcases hD with ⟨hm, rfl⟩ | ⟨hm, ⟨hs, rfl⟩ | ⟨hs, hno, rfl⟩ | ⟨hs, dx, dy, hex, hey, ⟨hy0, rfl⟩ | ⟨hy0, r, hNr, hr, rfl⟩⟩⟩
 ·
  refine WH.take 4 rfl (by kernel_rfl) (by kernel_rfl) (by kernel_rfl) hS (fun w' hw' => Ev.move rfl) rfl ?_
  refine WH.take 5 rfl (by kernel_rfl) (by kernel_rfl) (by kernel_rfl) hS (fun w' hw' => Ev.extract rfl rfl) rfl ?_
  refine WH.take 6 rfl (by kernel_rfl) (by kernel_rfl) (by kernel_rfl) hS (fun w' hw' => Ev.extract rfl rfl) rfl ?_
  refine WH.take 7 rfl (by kernel_rfl) (by kernel_rfl) (by kernel_rfl) hS (fun w' hw' => Ev.extract rfl rfl) rfl ?_
  refine WH.take 8 rfl (by kernel_rfl) (by kernel_rfl) (by kernel_rfl) hS (fun w' hw' => Ev.assign rfl) rfl ?_
  refine WH.take 9 rfl (by kernel_rfl) (by kernel_rfl) (by kernel_rfl) hS (fun w' hw' => Ev.assign rfl) rfl ?_
  refine WH.take 10 rfl (by kernel_rfl) (by kernel_rfl) (by kernel_rfl) hS (fun w' hw' => Ev.assign rfl) rfl ?_
  refine WH.done (by kernel_rfl) (kr4 _ _ _ ?_)
  refine kh3 _ _ _ ?_
  refine Sq fun _ kh5 _ kr6 => ?_
  refine Mv rfl rfl ?_
  refine Mv rfl rfl ?_
  refine Mv rfl rfl ?_
  refine WL.call hasF121 rfl rfl (r11wide64_spec 0 false 1 _ (by omega)) fun v w3 h' => ?_
  obtain ⟨rfl, rfl⟩ := h'
  refine WL.ev (Ev.extract rfl rfl) rfl ?_
  refine WL.ev (Ev.extract rfl rfl) rfl ?_
  refine As rfl rfl ?_
  refine As rfl rfl ?_
  refine WL.nil (kr6 _ _ _ (kh5 _ _ _ ?_))
  refine CW.ret ?_
  refine bodyA.ret2 rfl rfl rfl ?_
  exact ⟨⟨_, _, rfl, .inl ⟨hm, rfl, rfl⟩⟩, hch⟩
 ·
  refine WH.take 4 rfl (by kernel_rfl) (by kernel_rfl) (by kernel_rfl) hS (fun w' hw' => Ev.move rfl) rfl ?_
  refine WH.take 5 rfl (by kernel_rfl) (by kernel_rfl) (by kernel_rfl) hS (fun w' hw' => Ev.extract rfl rfl) rfl ?_
  refine WH.take 6 rfl (by kernel_rfl) (by kernel_rfl) (by kernel_rfl) hS (fun w' hw' => Ev.extract rfl rfl) rfl ?_
  refine WH.take 7 rfl (by kernel_rfl) (by kernel_rfl) (by kernel_rfl) hS (fun w' hw' => Ev.extract rfl rfl) rfl ?_
  refine WH.take 8 rfl (by kernel_rfl) (by kernel_rfl) (by kernel_rfl) hS (fun w' hw' => Ev.assign rfl) rfl ?_
  refine WH.take 9 rfl (by kernel_rfl) (by kernel_rfl) (by kernel_rfl) hS (fun w' hw' => Ev.assign rfl) rfl ?_
  refine WH.take 10 rfl (by kernel_rfl) (by kernel_rfl) (by kernel_rfl) hS (fun w' hw' => Ev.assign rfl) rfl ?_
  refine WH.done (by kernel_rfl) (kr4 _ _ _ ?_)
  refine kh3 _ _ _ ?_
  refine Sq fun _ kh7 _ kr8 => ?_
  refine Mv rfl rfl ?_
  refine Mv rfl rfl ?_
  refine Mv rfl rfl ?_
  refine WL.call hasF121 rfl rfl (r11wide64_spec 0 false 1 _ (by omega)) fun v w4 h' => ?_
  obtain ⟨rfl, rfl⟩ := h'
  refine WL.ev (Ev.extract rfl rfl) rfl ?_
  refine WL.ev (Ev.extract rfl rfl) rfl ?_
  refine As rfl rfl ?_
  refine As rfl rfl ?_
  refine WL.nil (kr8 _ _ _ (kh7 _ _ _ ?_))
  refine CW.ret ?_
  refine bodyA.ret2 rfl rfl rfl ?_
  exact ⟨⟨_, _, rfl, .inr ⟨hm, .inl ⟨hs, rfl, rfl⟩⟩⟩, hch⟩
 ·
  refine WH.take 4 rfl (by kernel_rfl) (by kernel_rfl) (by kernel_rfl) hS (fun w' hw' => Ev.move rfl) rfl ?_
  refine WH.take 5 rfl (by kernel_rfl) (by kernel_rfl) (by kernel_rfl) hS (fun w' hw' => Ev.extract rfl rfl) rfl ?_
  refine WH.take 6 rfl (by kernel_rfl) (by kernel_rfl) (by kernel_rfl) hS (fun w' hw' => Ev.extract rfl rfl) rfl ?_
  refine WH.take 7 rfl (by kernel_rfl) (by kernel_rfl) (by kernel_rfl) hS (fun w' hw' => Ev.extract rfl rfl) rfl ?_
  refine WH.take 8 rfl (by kernel_rfl) (by kernel_rfl) (by kernel_rfl) hS (fun w' hw' => Ev.assign rfl) rfl ?_
  refine WH.take 9 rfl (by kernel_rfl) (by kernel_rfl) (by kernel_rfl) hS (fun w' hw' => Ev.assign rfl) rfl ?_
  refine WH.take 10 rfl (by kernel_rfl) (by kernel_rfl) (by kernel_rfl) hS (fun w' hw' => Ev.assign rfl) rfl ?_
  refine WH.done (by kernel_rfl) (kr4 _ _ _ ?_)
  refine kh3 _ _ _ ?_
  refine Sq fun _ kh9 _ kr10 => ?_
  refine Mv rfl rfl ?_
  refine Mv rfl rfl ?_
  refine Mv rfl rfl ?_
  refine WL.call hasF121 rfl rfl (r11wide64_spec 0 false 2 _ (by omega)) fun v w5 h' => ?_
  obtain ⟨rfl, rfl⟩ := h'
  refine WL.ev (Ev.extract rfl rfl) rfl ?_
  refine WL.ev (Ev.extract rfl rfl) rfl ?_
  refine As rfl rfl ?_
  refine As rfl rfl ?_
  refine WL.nil (kr10 _ _ _ (kh9 _ _ _ ?_))
  refine CW.ret ?_
  refine bodyA.ret2 rfl rfl rfl ?_
  exact ⟨⟨_, _, rfl, .inr ⟨hm, .inr (.inl ⟨hs, hno, rfl, rfl⟩)⟩⟩, hch⟩
 ·
  refine WH.take 4 rfl (by kernel_rfl) (by kernel_rfl) (by kernel_rfl) hS (fun w' hw' => Ev.move rfl) rfl ?_
  refine WH.take 5 rfl (by kernel_rfl) (by kernel_rfl) (by kernel_rfl) hS (fun w' hw' => Ev.extract rfl rfl) rfl ?_
  refine WH.take 6 rfl (by kernel_rfl) (by kernel_rfl) (by kernel_rfl) hS (fun w' hw' => Ev.extract rfl rfl) rfl ?_
  refine WH.take 7 rfl (by kernel_rfl) (by kernel_rfl) (by kernel_rfl) hS (fun w' hw' => Ev.extract rfl rfl) rfl ?_
  refine WH.take 8 rfl (by kernel_rfl) (by kernel_rfl) (by kernel_rfl) hS (fun w' hw' => Ev.assign rfl) rfl ?_
  refine WH.take 9 rfl (by kernel_rfl) (by kernel_rfl) (by kernel_rfl) hS (fun w' hw' => Ev.assign rfl) rfl ?_
  refine WH.take 10 rfl (by kernel_rfl) (by kernel_rfl) (by kernel_rfl) hS (fun w' hw' => Ev.assign rfl) rfl ?_
  refine WH.done (by kernel_rfl) (kr4 _ _ _ ?_)
  refine kh3 _ _ _ ?_
  refine Sq fun _ kh11 _ kr12 => ?_
  refine Mv rfl rfl ?_
  refine Mv rfl rfl ?_
  refine Mv rfl rfl ?_
  refine WL.call hasF121 rfl rfl (r11wide64_spec 0 false 21 _ (by omega)) fun v w6 h' => ?_
  obtain ⟨rfl, rfl⟩ := h'
  refine WL.ev (Ev.extract rfl rfl) rfl ?_
  refine WL.ev (Ev.extract rfl rfl) rfl ?_
  refine As rfl rfl ?_
  refine As rfl rfl ?_
  refine WL.nil (kr12 _ _ _ (kh11 _ _ _ ?_))
  refine CW.ret ?_
  refine bodyA.ret2 rfl rfl rfl ?_
  exact ⟨⟨_, _, rfl, .inr ⟨hm, .inr (.inr ⟨hs, dx, dy, hex, hey, .inl ⟨hy0, rfl, rfl⟩⟩)⟩⟩, hch⟩
 ·
  refine WH.take 4 rfl (by kernel_rfl) (by kernel_rfl) (by kernel_rfl) hS (fun w' hw' => Ev.move rfl) rfl ?_
  refine WH.take 5 rfl (by kernel_rfl) (by kernel_rfl) (by kernel_rfl) hS (fun w' hw' => Ev.extract rfl rfl) rfl ?_
  refine WH.take 6 rfl (by kernel_rfl) (by kernel_rfl) (by kernel_rfl) hS (fun w' hw' => Ev.extract rfl rfl) rfl ?_
  refine WH.take 7 rfl (by kernel_rfl) (by kernel_rfl) (by kernel_rfl) hS (fun w' hw' => Ev.extract rfl rfl) rfl ?_
  refine WH.take 8 rfl (by kernel_rfl) (by kernel_rfl) (by kernel_rfl) hS (fun w' hw' => Ev.assign rfl) rfl ?_
  refine WH.take 9 rfl (by kernel_rfl) (by kernel_rfl) (by kernel_rfl) hS (fun w' hw' => Ev.assign rfl) rfl ?_
  refine WH.take 10 rfl (by kernel_rfl) (by kernel_rfl) (by kernel_rfl) hS (fun w' hw' => Ev.assign rfl) rfl ?_
  refine WH.done (by kernel_rfl) (kr4 _ _ _ ?_)
  refine kh3 _ _ _ ?_
  refine Sq fun _ kh13 _ kr14 => ?_
  refine Mv rfl rfl ?_
  refine Mv rfl rfl ?_
  refine Mv rfl rfl ?_
  refine WL.call hasF121 rfl rfl (r11wide64_spec r dx.neg 0 _ (by omega)) fun v w7 h' => ?_
  obtain ⟨rfl, rfl⟩ := h'
  refine WL.ev (Ev.extract rfl rfl) rfl ?_
  refine WL.ev (Ev.extract rfl rfl) rfl ?_
  refine As rfl rfl ?_
  refine As rfl rfl ?_
  refine WL.nil (kr14 _ _ _ (kh13 _ _ _ ?_))
  refine CW.ret ?_
  refine bodyA.ret2 rfl rfl rfl ?_
  exact ⟨⟨_, _, rfl, .inr ⟨hm, .inr (.inr ⟨hs, dx, dy, hex, hey, .inr ⟨hy0, r, hNr, hr, rfl, rfl⟩⟩)⟩⟩, hch⟩

end Go.Proofs.YtkkklaodligpdaaGreatDoor

/- Reference of layer 1: parts, classes. No condition. -/
namespace Go.Proofs.YtkkklaodligpdaaGreatDoor
open Go Sx Wd

set_option maxRecDepth 8000 in
set_option maxHeartbeats 2000000 in
theorem r1parts_spec (x : Nat) (w : World) (hx : x < 18446744073709551616) : Ret Tryz.prog 196 [.int .u64 (x : Int), .int .i64 11, .int .i64 52] w fun u w' => u = .agg [.bool (splitP x).neg, .int .i64 ((splitP x).cls : Int), .int .i64 (splitP x).exp, .int .u64 ((splitP x).frac : Int)].toArray ∧ Chg [] w w' := by
 have hch : Chg [] w w := Chg.refl _ _
 refine Ret.enter Tryz.func196 rfl rfl ?_
 simp only [args0, Nat.zero_add, Nat.reduceAdd]
 refine Sq fun _ kh1 _ kr2 => ?_
 refine WL.allocB (l := [.bool false, .int .i64 0, .int .i64 0, .int .u64 0]) rfl rfl fun b6 wm6 hb6 hcm6 hge6 => ?_
 have hgehch6 := Nat.le_trans hch.size hge6
 have hch := hch.trans (Chg.any hcm6)
 refine WL.nil (kr2 _ _ _ (kh1 _ _ _ ?_))
 refine Sq fun _ kh3 _ kr4 => ?_
 refine Mv rfl rfl ?_
 refine Mv rfl rfl ?_
 refine WL.ev (Ev.convIn rfl rfl (in_u64 (by omega))) rfl ?_
 refine WL.ev (Ev.shrU (b := 52) rfl rfl (by simp only [IntKind.bits]; omega)) rfl ?_
 rw [show x / 2 ^ 52 = x / 4503599627370496 from rfl]
 refine Mv rfl rfl ?_
 refine WL.ev (Ev.convIn rfl rfl (in_u64 (by omega))) rfl ?_
 refine WL.ev (Ev.shlU64 (a := 1) (b := 11) rfl rfl) rfl ?_
 rw [show 1 * 2 ^ 11 % 18446744073709551616 = 2048 from rfl]
 refine WL.ev (Ev.remU (b := 2048) rfl rfl (by omega)) rfl ?_
 refine WL.ev (Ev.convIn rfl rfl (in_i64 (by omega))) rfl ?_
 refine As rfl rfl ?_
 refine WL.nil (kr4 _ _ _ (kh3 _ _ _ ?_))
 refine Sq fun _ kh5 _ kr6 => ?_
 refine Mv rfl rfl ?_
 refine Mv rfl rfl ?_
 refine WL.ev (Ev.convIn rfl rfl (in_u64 (by omega))) rfl ?_
 refine WL.ev (Ev.shlU64 (a := 1) (b := 52) rfl rfl) rfl ?_
 rw [show 1 * 2 ^ 52 % 18446744073709551616 = 4503599627370496 from rfl]
 refine WL.ev (Ev.remU (b := 4503599627370496) rfl rfl (by omega)) rfl ?_
 refine As rfl rfl ?_
 refine WL.nil (kr6 _ _ _ (kh5 _ _ _ ?_))
 refine Sq fun _ kh7 _ kr8 => ?_
 refine Mv rfl rfl ?_
 refine Mv rfl rfl ?_
 refine Mv rfl rfl ?_
 refine WL.ev (Ev.addIn rfl rfl (by omega)) rfl ?_
 rw [show (11 : Int) + 52 = ((63 : Nat) : Int) by omega]
 refine WL.ev (Ev.convIn rfl rfl (in_u64 (by omega))) rfl ?_
 refine WL.ev (Ev.shrU (b := 63) rfl rfl (by simp only [IntKind.bits]; omega)) rfl ?_
 rw [show x / 2 ^ 63 = x / 9223372036854775808 from rfl]
 refine WL.ev (Ev.remU (b := 2) rfl rfl (by omega)) rfl ?_
 refine WL.ev (Ev.eql rfl rfl) rfl ?_
 rw [show decide (((x / 9223372036854775808 % 2 : Nat) : Int) = 1) = decide (x / 9223372036854775808 % 2 = 1) from decide_eq_decide.2 (by omega)]
 refine WL.ev (Ev.build (vs := _) (cs := [_, _, _, _]) rfl rfl) rfl ?_
 refine WL.allocB (l := [.bool false, .int .i64 0, .int .i64 0, .int .u64 0]) rfl rfl fun b9 wm9 hb9 hcm9 hge9 => ?_
 have hgehch9 := Nat.le_trans hch.size hge9
 have hch := hch.trans (Chg.any hcm9)
 have hneb69 : b6 ≠ b9 := by have := hb6.lt; omega
 have hb6 := hb6.keep0 hcm9
 refine WL.storeB rfl rfl rfl ao hb9 (by simp) rfl fun ws1 hb9_ hcs1 => ?_
 try simp only [Sx.splice, qt] at hb9_
 have hch := hch.s1 hcs1
 have hb6 := hb6.keep hcs1 (by simp; omega)
 have hb9 := hb9_
 refine WL.nil (kr8 _ _ _ (kh7 _ _ _ ?_))
 refine Sq fun _ kh9 _ kr10 => ?_
 refine Mv rfl rfl ?_
 refine WL.ev (Ev.subIn rfl rfl (by omega)) rfl ?_
 rw [show (11 : Int) - 1 = ((10 : Nat) : Int) by omega]
 refine WL.ev (Ev.convIn rfl rfl (in_u64 (by omega))) rfl ?_
 refine WL.ev (Ev.shlI (a := 1) (b := 10) (c := 1024) rfl rfl (by decide) (by decide)) rfl ?_
 refine WL.ev (Ev.subIn rfl rfl (by omega)) rfl ?_
 refine Mv rfl rfl ?_
 refine WL.ev (Ev.subIn rfl rfl (by omega)) rfl ?_
 rw [show (2 : Int) - 1024 - 52 = -1074 by omega]
 refine As rfl rfl ?_
 refine WL.nil (kr10 _ _ _ (kh9 _ _ _ ?_))
 refine CW.seq fun _ kh11 => ?_
 refine Sq fun _ kh12 _ kr13 => ?_
 refine Mv rfl rfl ?_
 refine Mv rfl rfl ?_
 refine WL.ev (Ev.convIn rfl rfl (in_u64 (by omega))) rfl ?_
 refine WL.ev (Ev.shlI (a := 1) (b := 11) (c := 2048) rfl rfl (by decide) (by decide)) rfl ?_
 refine WL.ev (Ev.subIn rfl rfl (by omega)) rfl ?_
 rw [show (2048 : Int) - 1 = ((2047 : Nat) : Int) by omega]
 refine WL.ev (Ev.eql rfl rfl) rfl ?_
 refine WL.nil (kr13 _ _ _ (kh12 _ _ _ ?_))
 refine CW.cond rfl (fun hc1 => ?_) (fun hc1 => ?_)
 ·
  try simp only [qs] at hc1
  have k1 : x / 4503599627370496 % 2048 = 2047 := by omega
  refine CW.seq fun _ kh14 => ?_
  refine Sq fun _ kh15 _ kr16 => ?_
  refine Mv rfl rfl ?_
  refine WL.ev (Ev.gtr rfl rfl) rfl ?_
  refine WL.nil (kr16 _ _ _ (kh15 _ _ _ ?_))
  refine CW.cond rfl (fun hc2 => ?_) (fun hc2 => ?_)
  ·
   try simp only [qs] at hc2
   have k2 : x % 4503599627370496 ≠ 0 := by omega
   refine Sq fun _ kh17 _ kr18 => ?_
   refine WL.ev (Ev.build (vs := _) (cs := [_, _, _, _]) rfl rfl) rfl ?_
   refine WL.storeB rfl rfl rfl ao hb6 (by simp) rfl fun ws2 hb6_ hcs2 => ?_
   try simp only [Sx.splice, qt] at hb6_
   have hch := hch.s1 hcs2
   have hb9 := hb9.keep hcs2 (by simp; omega)
   have hb6 := hb6_
   refine WL.nil (kr18 _ _ _ (kh17 _ _ _ ?_))
   refine CW.ret ?_
   refine bodyA.retR1 rfl (RVal.cell rfl (hb6.varA rfl rfl)) ?_
   unfold splitP; rw [if_pos ⟨k1, k2⟩]
   exact ⟨rfl, hch⟩
  ·
   try simp only [qs] at hc2
   have k2 : ¬ x % 4503599627370496 ≠ 0 := by omega
   refine CW.skip ?_
   refine kh14 _ _ _ ?_
   refine Sq fun _ kh19 _ kr20 => ?_
   refine WL.ev (Ev.fieldAddr rfl) rfl ?_
   refine WL.storeC rfl rfl (by first | rfl | assumption | exact NU.one (by assumption)) hb9 (by simp) rfl fun ws3 hb9_ hcs3 => ?_
   try simp only [Sx.splice, qt] at hb9_
   have hch := hch.s1 hcs3
   have hb6 := hb6.keep hcs3 (by simp; omega)
   have hb9 := hb9_
   refine WL.nil (kr20 _ _ _ (kh19 _ _ _ ?_))
   refine Sq fun _ kh21 _ kr22 => ?_
   refine WL.ev (Ev.loadA rfl rfl hb9 rfl) rfl ?_
   refine WL.storeB rfl rfl rfl ao hb6 (by simp) rfl fun ws4 hb6_ hcs4 => ?_
   try simp only [Sx.splice, qt] at hb6_
   have hch := hch.s1 hcs4
   have hb9 := hb9.keep hcs4 (by simp; omega)
   have hb6 := hb6_
   refine WL.nil (kr22 _ _ _ (kh21 _ _ _ ?_))
   refine CW.ret ?_
   refine bodyA.retR1 rfl (RVal.cell rfl (hb6.varA rfl rfl)) ?_
   unfold splitP; rw [if_neg (fun q => k2 q.2), if_pos k1]
   exact ⟨rfl, hch⟩
 ·
  try simp only [qs] at hc1
  have k1 : ¬ x / 4503599627370496 % 2048 = 2047 := by omega
  refine CW.skip ?_
  refine kh11 _ _ _ ?_
  refine Sq fun _ kh23 _ kr24 => ?_
  refine Mv rfl rfl ?_
  refine WL.ev (Ev.fieldAddr rfl) rfl ?_
  refine WL.storeC rfl rfl (by first | rfl | assumption | exact NU.one (by assumption)) hb9 (by simp) rfl fun ws5 hb9_ hcs5 => ?_
  try simp only [Sx.splice, qt] at hb9_
  have hch := hch.s1 hcs5
  have hb6 := hb6.keep hcs5 (by simp; omega)
  have hb9 := hb9_
  refine WL.nil (kr24 _ _ _ (kh23 _ _ _ ?_))
  refine Sq fun _ kh25 _ kr26 => ?_
  refine Mv rfl rfl ?_
  refine WL.ev (Ev.fieldAddr rfl) rfl ?_
  refine WL.storeC rfl rfl (by first | rfl | assumption | exact NU.one (by assumption)) hb9 (by simp) rfl fun ws6 hb9_ hcs6 => ?_
  try simp only [Sx.splice, qt] at hb9_
  have hch := hch.s1 hcs6
  have hb6 := hb6.keep hcs6 (by simp; omega)
  have hb9 := hb9_
  refine WL.nil (kr26 _ _ _ (kh25 _ _ _ ?_))
  refine CW.seq fun _ kh27 => ?_
  refine CW.block ?_
  refine Sq fun _ kh28 _ kr29 => ?_
  refine Mv rfl rfl ?_
  refine WL.ev (Ev.gtr rfl rfl) rfl ?_
  refine As rfl rfl ?_
  refine WL.nil (kr29 _ _ _ (kh28 _ _ _ ?_))
  refine CW.cond rfl (fun hc3 => ?_) (fun hc3 => ?_)
  ·
   try simp only [qs] at hc3
   have k3 : 0 < x / 4503599627370496 % 2048 := by omega
   refine Sq fun _ kh30 _ kr31 => ?_
   refine WL.ev (Ev.fieldAddr rfl) rfl ?_
   refine WL.storeC rfl rfl (by first | rfl | assumption | exact NU.one (by assumption)) hb9 (by simp) rfl fun ws7 hb9_ hcs7 => ?_
   try simp only [Sx.splice, qt] at hb9_
   have hch := hch.s1 hcs7
   have hb6 := hb6.keep hcs7 (by simp; omega)
   have hb9 := hb9_
   refine WL.nil (kr31 _ _ _ (kh30 _ _ _ ?_))
   refine Sq fun _ kh32 _ kr33 => ?_
   refine Mv rfl rfl ?_
   refine Mv rfl rfl ?_
   refine WL.ev (Ev.convIn rfl rfl (in_u64 (by omega))) rfl ?_
   refine WL.ev (Ev.shlU64 (a := 1) (b := 52) rfl rfl) rfl ?_
   rw [show 1 * 2 ^ 52 % 18446744073709551616 = 4503599627370496 from rfl]
   refine WL.ev (Ev.add64In rfl rfl (by omega)) rfl ?_
   refine WL.ev (Ev.fieldAddr rfl) rfl ?_
   refine WL.storeC rfl rfl (by first | rfl | assumption | exact NU.one (by assumption)) hb9 (by simp) rfl fun ws8 hb9_ hcs8 => ?_
   try simp only [Sx.splice, qt] at hb9_
   have hch := hch.s1 hcs8
   have hb6 := hb6.keep hcs8 (by simp; omega)
   have hb9 := hb9_
   refine WL.nil (kr33 _ _ _ (kh32 _ _ _ ?_))
   refine CW.region fun kR34 kr34 => ?_
   refine Mv rfl rfl ?_
   refine Mv rfl rfl ?_
   refine WL.ev (Ev.addIn rfl rfl (by omega)) rfl ?_
   refine WL.ev (Ev.subIn rfl rfl (by omega)) rfl ?_
   refine WL.ev (Ev.fieldAddr rfl) rfl ?_
   refine WL.storeC rfl rfl (by first | rfl | assumption | exact NU.one (by assumption)) hb9 (by simp) rfl fun ws9 hb9_ hcs9 => ?_
   try simp only [Sx.splice, qt] at hb9_
   have hch := hch.s1 hcs9
   have hb6 := hb6.keep hcs9 (by simp; omega)
   have hb9 := hb9_
   refine WL.nil (kr34 _ _ _ (kh27 _ _ _ ?_))
   refine Sq fun _ kh35 _ kr36 => ?_
   refine WL.ev (Ev.loadA rfl rfl hb9 rfl) rfl ?_
   refine WL.storeB rfl rfl rfl ao hb6 (by simp) rfl fun ws10 hb6_ hcs10 => ?_
   try simp only [Sx.splice, qt] at hb6_
   have hch := hch.s1 hcs10
   have hb9 := hb9.keep hcs10 (by simp; omega)
   have hb6 := hb6_
   refine WL.nil (kr36 _ _ _ (kh35 _ _ _ ?_))
   refine CW.ret ?_
   refine bodyA.retR1 rfl (RVal.cell rfl (hb6.varA rfl rfl)) ?_
   unfold splitP; rw [if_neg (fun q => k1 q.1), if_neg k1, if_pos k3]
   exact ⟨rfl, hch⟩
  ·
   try simp only [qs] at hc3
   have k3 : ¬ 0 < x / 4503599627370496 % 2048 := by omega
   refine Sq fun _ kh37 _ kr38 => ?_
   refine Mv rfl rfl ?_
   refine WL.ev (Ev.gtr rfl rfl) rfl ?_
   refine As rfl rfl ?_
   refine WL.nil (kr38 _ _ _ (kh37 _ _ _ ?_))
   refine CW.cond rfl (fun hc4 => ?_) (fun hc4 => ?_)
   ·
    try simp only [qs] at hc4
    have k4 : 0 < x % 4503599627370496 := by omega
    refine CW.region fun kR39 kr39 => ?_
    refine WL.ev (Ev.fieldAddr rfl) rfl ?_
    refine WL.storeC rfl rfl (by first | rfl | assumption | exact NU.one (by assumption)) hb9 (by simp) rfl fun ws11 hb9_ hcs11 => ?_
    try simp only [Sx.splice, qt] at hb9_
    have hch := hch.s1 hcs11
    have hb6 := hb6.keep hcs11 (by simp; omega)
    have hb9 := hb9_
    refine WL.nil (kr39 _ _ _ (kh27 _ _ _ ?_))
    refine Sq fun _ kh40 _ kr41 => ?_
    refine WL.ev (Ev.loadA rfl rfl hb9 rfl) rfl ?_
    refine WL.storeB rfl rfl rfl ao hb6 (by simp) rfl fun ws12 hb6_ hcs12 => ?_
    try simp only [Sx.splice, qt] at hb6_
    have hch := hch.s1 hcs12
    have hb9 := hb9.keep hcs12 (by simp; omega)
    have hb6 := hb6_
    refine WL.nil (kr41 _ _ _ (kh40 _ _ _ ?_))
    refine CW.ret ?_
    refine bodyA.retR1 rfl (RVal.cell rfl (hb6.varA rfl rfl)) ?_
    unfold splitP; rw [if_neg (fun q => k1 q.1), if_neg k1, if_neg k3, if_pos k4]
    exact ⟨rfl, hch⟩
   ·
    try simp only [qs] at hc4
    have k4 : ¬ 0 < x % 4503599627370496 := by omega
    refine CW.region fun kR42 kr42 => ?_
    refine WL.ev (Ev.fieldAddr rfl) rfl ?_
    refine WL.storeC rfl rfl (by first | rfl | assumption | exact NU.one (by assumption)) hb9 (by simp) rfl fun ws13 hb9_ hcs13 => ?_
    try simp only [Sx.splice, qt] at hb9_
    have hch := hch.s1 hcs13
    have hb6 := hb6.keep hcs13 (by simp; omega)
    have hb9 := hb9_
    refine WL.nil (kr42 _ _ _ (kh27 _ _ _ ?_))
    refine Sq fun _ kh43 _ kr44 => ?_
    refine WL.ev (Ev.loadA rfl rfl hb9 rfl) rfl ?_
    refine WL.storeB rfl rfl rfl ao hb6 (by simp) rfl fun ws14 hb6_ hcs14 => ?_
    try simp only [Sx.splice, qt] at hb6_
    have hch := hch.s1 hcs14
    have hb9 := hb9.keep hcs14 (by simp; omega)
    have hb6 := hb6_
    refine WL.nil (kr44 _ _ _ (kh43 _ _ _ ?_))
    refine CW.ret ?_
    refine bodyA.retR1 rfl (RVal.cell rfl (hb6.varA rfl rfl)) ?_
    unfold splitP; rw [if_neg (fun q => k1 q.1), if_neg k1, if_neg k3, if_neg k4, show x % 4503599627370496 = 0 by omega]
    exact ⟨rfl, hch⟩

/-- The bits of a number, of a NaN those of the one NaN. -/
def oneNaN (x : Nat) : Nat := if 9218868437227405312 < x % 9223372036854775808 then 9221120237041090560 else x
theorem oneNaN_lt {x : Nat} (h : x < 18446744073709551616) : oneNaN x < 18446744073709551616 := by unfold oneNaN; split <;> omega
theorem oneNaN_split (x : Nat) : splitP (oneNaN x) = splitP x := by
  unfold oneNaN
  by_cases h : 9218868437227405312 < x % 9223372036854775808
  · rw [if_pos h]
    have : splitP x = ⟨false, 4, 0, 0⟩ := by unfold splitP; rw [if_pos (by omega)]
    rw [this]; rfl
  · rw [if_neg h]

set_option maxRecDepth 8000 in
set_option maxHeartbeats 2000000 in
theorem r1Bits_spec (x : Nat) (w : World) (hx : x < 18446744073709551616) : Ret Tryz.prog 197 [.float .f64 x] w fun u w' => u = .int .u64 (oneNaN x : Int) ∧ w = w' := by
 refine Ret.enter Tryz.func197 rfl rfl ?_
 simp only [args0, Nat.zero_add, Nat.reduceAdd]
 refine Sq fun _ kh1 _ kr2 => ?_
 refine As rfl rfl ?_
 refine WL.nil (kr2 _ _ _ (kh1 _ _ _ ?_))
 refine Sq fun _ kh3 _ kr4 => ?_
 refine Mv rfl rfl ?_
 refine WL.ev (Ev.ext rfl (ext50 _ _)) rfl ?_
 refine As rfl rfl ?_
 refine WL.nil (kr4 _ _ _ (kh3 _ _ _ ?_))
 refine CW.seq fun _ kh5 => ?_
 refine Sq fun _ kh6 _ kr7 => ?_
 refine Mv rfl rfl ?_
 refine WL.ev (Ev.remU (b := 9223372036854775808) rfl rfl (by omega)) rfl ?_
 refine WL.ev (Ev.gtr rfl rfl) rfl ?_
 refine WL.nil (kr7 _ _ _ (kh6 _ _ _ ?_))
 refine CW.cond rfl (fun hc1 => ?_) (fun hc1 => ?_)
 ·
  try simp only [qs] at hc1
  have k : 9218868437227405312 < x % 9223372036854775808 := by omega
  refine Sq fun _ kh8 _ kr9 => ?_
  refine As rfl rfl ?_
  refine WL.nil (kr9 _ _ _ (kh8 _ _ _ ?_))
  refine CW.ret ?_
  refine bodyA.ret1 rfl rfl ?_
  unfold oneNaN; rw [if_pos k]
  exact ⟨rfl, rfl⟩
 ·
  try simp only [qs] at hc1
  have k : ¬ 9218868437227405312 < x % 9223372036854775808 := by omega
  refine CW.skip ?_
  refine kh5 _ _ _ ?_
  refine Sq fun _ kh10 _ kr11 => ?_
  refine Mv rfl rfl ?_
  refine As rfl rfl ?_
  refine WL.nil (kr11 _ _ _ (kh10 _ _ _ ?_))
  refine CW.ret ?_
  refine bodyA.ret1 rfl rfl ?_
  unfold oneNaN; rw [if_neg k]
  exact ⟨rfl, rfl⟩

set_option maxRecDepth 8000 in
set_option maxHeartbeats 2000000 in
theorem r1Split_spec (x : Nat) (w : World) (hx : x < 18446744073709551616) : Ret Tryz.prog 161 [.float .f64 x] w fun u w' => u = .agg [.bool (splitP x).neg, .int .i64 ((splitP x).cls : Int), .int .i64 (splitP x).exp, .int .u64 ((splitP x).frac : Int)].toArray ∧ Chg [] w w' := by
 have hch : Chg [] w w := Chg.refl _ _
 refine Ret.enter Tryz.func161 rfl rfl ?_
 simp only [args0, Nat.zero_add, Nat.reduceAdd]
 refine Sq fun _ kh1 _ kr2 => ?_
 refine WL.allocB (l := [.bool false, .int .i64 0, .int .i64 0, .int .u64 0]) rfl rfl fun b2 wm2 hb2 hcm2 hge2 => ?_
 have hgehch2 := Nat.le_trans hch.size hge2
 have hch := hch.trans (Chg.any hcm2)
 refine WL.nil (kr2 _ _ _ (kh1 _ _ _ ?_))
 refine Sq fun _ kh3 _ kr4 => ?_
 refine Mv rfl rfl ?_
 refine WL.call hasF197 rfl rfl (r1Bits_spec x _ hx) fun v w1 h' => ?_
 obtain ⟨rfl, rfl⟩ := h'
 refine WL.call hasF196 rfl rfl (r1parts_spec (oneNaN x) _ (oneNaN_lt hx)) fun v w2 h' => ?_
 obtain ⟨rfl, hC⟩ := h'
 rw [oneNaN_split]
 have hch := hch.trans (Chg.any hC)
 have hb2 := hb2.keep0 hC
 refine WL.storeB rfl rfl rfl ao hb2 (by simp) rfl fun ws15 hb2_ hcs15 => ?_
 try simp only [Sx.splice, qt] at hb2_
 have hch := hch.s1 hcs15
 have hb2 := hb2_
 refine WL.nil (kr4 _ _ _ (kh3 _ _ _ ?_))
 refine CW.ret ?_
 refine bodyA.retR1 rfl (RVal.cell rfl (hb2.varA rfl rfl)) ?_
 exact ⟨rfl, hch⟩

set_option maxRecDepth 8000 in
set_option maxHeartbeats 2000000 in
theorem r1Class_spec (x : Nat) (w : World) (hx : x < 18446744073709551616) : Ret Tryz.prog 110 [.float .f64 x] w fun u w' => u = .int .i64 ((splitP x).cls : Int) ∧ Chg [] w w' := by
 have hch : Chg [] w w := Chg.refl _ _
 refine Ret.enter Tryz.func110 rfl rfl ?_
 simp only [args0, Nat.zero_add, Nat.reduceAdd]
 refine Sq fun _ kh1 _ kr2 => ?_
 refine As rfl rfl ?_
 refine WL.nil (kr2 _ _ _ (kh1 _ _ _ ?_))
 refine Sq fun _ kh3 _ kr4 => ?_
 refine Mv rfl rfl ?_
 refine WL.call hasF161 rfl rfl (r1Split_spec x _ hx) fun v w1 h' => ?_
 obtain ⟨rfl, hC⟩ := h'
 have hch := hch.trans (Chg.any hC)
 refine WL.ev (Ev.field (ft := 3) rfl rfl rfl rfl rfl) rfl ?_
 refine As rfl rfl ?_
 refine WL.nil (kr4 _ _ _ (kh3 _ _ _ ?_))
 refine CW.ret ?_
 refine bodyA.ret1 rfl rfl ?_
 exact ⟨rfl, hch⟩

theorem r1Of_spec (x : Nat) (w : World) (hx : x < 18446744073709551616) : Ret Tryz.prog 36 [.int .u64 (x : Int)] w fun u w' => u = .float .f64 x ∧ w = w' := by
 refine Ret.enter Tryz.func36 rfl rfl ?_
 simp only [args0, Nat.zero_add, Nat.reduceAdd]
 refine Sq fun _ kh1 _ kr2 => ?_
 refine As rfl rfl ?_
 refine WL.nil (kr2 _ _ _ (kh1 _ _ _ ?_))
 refine Sq fun _ kh3 _ kr4 => ?_
 refine Mv rfl rfl ?_
 refine WL.ev (Ev.ext rfl (ext78 _ _)) rfl ?_
 refine As rfl rfl ?_
 refine WL.nil (kr4 _ _ _ (kh3 _ _ _ ?_))
 refine CW.ret ?_
 refine bodyA.ret1 rfl rfl ?_
 refine ⟨?_, rfl⟩
 first | rfl | simp

theorem r1raw_spec (x : Nat) (w : World) (hx : x < 18446744073709551616) : Ret Tryz.prog 43 [.float .f64 x] w fun u w' => u = .int .u64 (x : Int) ∧ w = w' := by
 refine Ret.enter Tryz.func43 rfl rfl ?_
 simp only [args0, Nat.zero_add, Nat.reduceAdd]
 refine Sq fun _ kh1 _ kr2 => ?_
 refine As rfl rfl ?_
 refine WL.nil (kr2 _ _ _ (kh1 _ _ _ ?_))
 refine Sq fun _ kh3 _ kr4 => ?_
 refine Mv rfl rfl ?_
 refine WL.ev (Ev.ext rfl (ext50 _ _)) rfl ?_
 refine As rfl rfl ?_
 refine WL.nil (kr4 _ _ _ (kh3 _ _ _ ?_))
 refine CW.ret ?_
 refine bodyA.ret1 rfl rfl ?_
 exact ⟨rfl, rfl⟩

end Go.Proofs.YtkkklaodligpdaaGreatDoor

/- Numbers of 64 bits as plain numbers: which are NaN, their order. No condition. -/
namespace Go.Proofs.YtkkklaodligpdaaGreatDoor.Fl
open Go

def isNaN (b : Nat) : Bool := decide (9218868437227405312 < b % 9223372036854775808)
def canon (b : Nat) : Nat := if isNaN b then 9221120237041090560 else b
/-- The program's key. -/
def key (b : Nat) : Int := if isNaN b then 9223372036854775807 else if 9223372036854775808 ≤ b then -1 - ((b : Int) - 9223372036854775808) else b
/-- The reference's place. -/
def place (b : Nat) : Int := if 9223372036854775808 ≤ canon b then -1 - ((canon b : Int) - 9223372036854775808) else canon b
theorem double_sign : Ieee.double.signWeight = 9223372036854775808 := by decide
theorem double_inf : Ieee.double.infRung = 9218868437227405312 := by decide
theorem double_bin : Ieee.double.binade = 4503599627370496 := by decide

theorem cmp_self (x : Int) : compare x x = .eq := by simp
theorem cmpN_self (x : Nat) : compare x x = .eq := by simp
theorem order_self (b : Nat) : (FloatKind.f64.format.order b b != some .eq) = isNaN b := by
  show ((Ieee.double.read b).order (Ieee.double.read b) != some .eq) = isNaN b
  unfold Ieee.Format.read isNaN
  simp only [double_sign, double_inf, double_bin]
  split
  · rename_i h
    have h2 : decide (9218868437227405312 < b % 9223372036854775808) = false := by simp; omega
    rw [h2]
    simp [Ieee.Datum.order, cmp_self]
  · split
    · rename_i h h'
      have h2 : decide (9218868437227405312 < b % 9223372036854775808) = false := by simp; omega
      rw [h2]
      simp [Ieee.Datum.order, cmp_self]
    · split
      · rename_i h h' h3
        have h2 : decide (9218868437227405312 < b % 9223372036854775808) = false := by simp; omega
        rw [h2]
        simp [Ieee.Datum.order, cmpN_self]
      · rename_i h h' h3
        have h2 : decide (9218868437227405312 < b % 9223372036854775808) = true := by simp; omega
        rw [h2]
        simp [Ieee.Datum.order]
theorem order_self_eq (b : Nat) : (FloatKind.f64.format.order b b == some .eq) = !isNaN b := by
  rw [← order_self b]; simp [bne]

theorem signed_zero (k : Nat) : Ieee.signed false 0 k = 0 := by simp [Ieee.signed]
theorem signed_eq (s : Bool) (m k : Nat) : Ieee.signed s m k = 0 ↔ m = 0 := by
  have hp : 0 < 2 ^ k := Nat.two_pow_pos k
  have hz : m * 2 ^ k = 0 ↔ m = 0 := by
    constructor
    · intro h; rcases Nat.mul_eq_zero.1 h with h | h
      · exact h
      · omega
    · intro h; simp [h]
  unfold Ieee.signed
  rw [Nat.shiftLeft_eq]
  split <;> omega
theorem cmp_eq (x y : Int) : (some (compare x y) == some Ordering.eq) = decide (x = y) := by
  rw [Bool.eq_iff_iff]; simp
theorem order_num (s : Bool) (m : Nat) (i : Int) (j : Int) : (Ieee.Datum.order (.number s m i) (.number false 0 j) == some .eq) = decide (m = 0) := by
  unfold Ieee.Datum.order
  simp only [signed_zero]
  rw [cmp_eq, Bool.eq_iff_iff]
  simp [signed_eq]
theorem read_zero : Ieee.double.read 0 = .number false 0 Ieee.double.leastPlace := by decide
theorem order_zero (b : Nat) : (FloatKind.f64.format.order b 0 == some .eq) = decide (b % 9223372036854775808 = 0) := by
  show ((Ieee.double.read b).order (Ieee.double.read 0) == some .eq) = _
  rw [read_zero]
  unfold Ieee.Format.read
  simp only [double_sign, double_inf, double_bin]
  split
  · rw [order_num]
  · split
    · rename_i h h'
      rw [order_num, Bool.eq_iff_iff]
      simp; omega
    · split
      · rename_i h h' h3
        have h2 : decide (b % 9223372036854775808 = 0) = false := by simp; omega
        rw [h2]
        simp only [Ieee.Datum.order]
        split <;> rfl
      · rename_i h h' h3
        have h2 : decide (b % 9223372036854775808 = 0) = false := by simp; omega
        rw [h2]
        rfl
end Go.Proofs.YtkkklaodligpdaaGreatDoor.Fl

/- Numbers as the machine's: a number less itself; which are finite. No condition. -/
namespace Go.Proofs.YtkkklaodligpdaaGreatDoor
open Go Sx Wd

theorem cls_le2 (x : Nat) : (splitP x).cls ≤ 2 ↔ x % 9223372036854775808 < 9218868437227405312 := by
  have e : x % 9223372036854775808 < 9218868437227405312 ↔ x / 4503599627370496 % 2048 ≠ 2047 := by omega
  rw [e]
  unfold splitP
  split
  · rename_i h; simp; exact h.1
  · split
    · rename_i h1 h; simp; exact h
    · split
      · rename_i h2 h1 h; simp; exact h1
      · split
        · rename_i h2 h1 h; simp; exact h2
        · rename_i h2 h1 h; simp; exact h2
theorem signed_opp (s : Bool) (m k : Nat) : Ieee.signed s m k + Ieee.signed (!s) m k = 0 := by
  unfold Ieee.signed
  cases s <;> simp <;> omega
theorem sub_self_fin {b : Nat} (h : b % 9223372036854775808 < 9218868437227405312) : Ieee.double.sub b b = some 0 := by
  unfold Ieee.Format.sub Ieee.Format.read
  simp only [Fl.double_sign, Fl.double_inf, Fl.double_bin]
  have key : ∀ (s : Bool) (m : Nat) (i : Int), Option.map Ieee.double.write ((Ieee.Datum.number s m i).sum (Ieee.Datum.number s m i).opposite) = some 0 := by
    intro s m i
    unfold Ieee.Datum.opposite Ieee.Datum.sum
    simp only [Int.min_self, Int.sub_self, Int.toNat_zero, signed_opp, if_true, Int.natAbs_zero, Option.map_some]
    cases s <;> rfl
  split
  · exact key ..
  · exact key ..
theorem sub_self_not {b : Nat} (h : ¬ b % 9223372036854775808 < 9218868437227405312) : Ieee.double.sub b b = none := by
  unfold Ieee.Format.sub Ieee.Format.read
  simp only [Fl.double_sign, Fl.double_inf, Fl.double_bin]
  rw [if_neg (by omega), if_neg h]
  split
  · unfold Ieee.Datum.opposite Ieee.Datum.sum
    generalize (b / 9223372036854775808 % 2 == 1) = s
    cases s <;> rfl
  · rfl
/-- The bits that are drawn for a NaN are a NaN's. -/
theorem nan_form (x y t : Nat) : ∃ p q, p ≤ 1 ∧ q < 4503599627370495 ∧ (Question.nanBits .f64 x y).cut t = p * 9223372036854775808 + 9218868437227405312 + 1 + q :=
  ⟨t % 2, t / 2 % 4503599627370495, by omega, Nat.mod_lt _ (by decide), rfl⟩
theorem nan_cut (x y t : Nat) : Fl.isNaN ((Question.nanBits .f64 x y).cut t) = true := by
  obtain ⟨p, q, h1, h2, e⟩ := nan_form x y t
  rw [e]
  unfold Fl.isNaN
  simp only [decide_eq_true_eq]
  omega
theorem nan_lt (x y t : Nat) : (Question.nanBits .f64 x y).cut t < 18446744073709551616 := by
  obtain ⟨p, q, h1, h2, e⟩ := nan_form x y t
  rw [e]; omega
theorem order_nan {b : Nat} (h : Fl.isNaN b = true) : (FloatKind.f64.format.order b 0 == some .eq) = false := by
  rw [Fl.order_zero]
  unfold Fl.isNaN at h
  simp only [decide_eq_true_eq] at h
  simp; omega
section
variable {P : Program} {n : Nat} {D : List Deferred} {s : Sl} {w : World} {ops : Array Oper} {K : KK} {rest : List Oper} {ty : TypeId} {pos : String} {af : Array Edge} {d : Nat} {x y : Operand}
theorem ev_fsubSelf {t t' : TypeId} {b : Nat} (hx : opnd s x = some (.float .f64 b)) (hy : opnd s y = some (.float .f64 b)) :
    ∃ r w', Ev P s (.binOp .sub t x y t') ty w (.float .f64 r) w' ∧ Chg [] w w' ∧ r < 18446744073709551616 ∧ (FloatKind.f64.format.order r 0 == some .eq) = decide ((splitP b).cls ≤ 2) := by
  by_cases h : b % 9223372036854775808 < 9218868437227405312
  · refine ⟨0, w, run_bin hx hy (fun x y => eqGuard_float ..) ?_, Chg.refl _ _, by decide, ?_⟩
    · simp [binOp, Op.floatArith, show FloatKind.f64.format.sub b b = some 0 from sub_self_fin h]
    · rw [decide_eq_true ((cls_le2 b).2 h), Fl.order_zero]; decide
  · refine ⟨(Question.nanBits .f64 b b).cut (w.tape w.drawn (.nanBits .f64 b b)), w.drew, fun ρ d' pos af g hρ => ?_, Chg.drew _ _, nan_lt _ _ _, ?_⟩
    · have e1 := hρ x _ hx
      have e2 := hρ y _ hy
      simp [execOp, e1, e2, eqGuard_float, binOp, Op.floatArith, show FloatKind.f64.format.sub b b = none from sub_self_not h, Question.forced]
      try rfl
    · rw [order_nan (nan_cut _ _ _), decide_eq_false (fun hh => h ((cls_le2 b).1 hh))]
theorem WL.fsubSelf {t t' : TypeId} {b : Nat} (hx : opnd s x = some (.float .f64 b)) (hy : opnd s y = some (.float .f64 b)) (hd : Nat.blt d n = true)
    (k : ∀ r w', Chg [] w w' → r < 18446744073709551616 → (FloatKind.f64.format.order r 0 == some .eq) = decide ((splitP b).cls ≤ 2) → WL P ops K rest n D ((d, .float .f64 r) :: s) w') : WL P ops K (⟨some d, .binOp .sub t x y t', ty, pos, af, none⟩ :: rest) n D s w := by
  obtain ⟨r, w', he, hc, h1, h2⟩ := ev_fsubSelf (P := P) (ty := ty) (w := w) (t := t) (t' := t') hx hy
  exact WL.ev he hd (k r w' hc h1 h2)
end
end Go.Proofs.YtkkklaodligpdaaGreatDoor

/- Package mean: finite. No condition. -/
namespace Go.Proofs.YtkkklaodligpdaaGreatDoor
open Go Sx Wd
set_option exponentiation.threshold 5000

def finL (l : List Nat) : Prop := ∀ x ∈ l, (splitP x).cls ≤ 2
instance (l : List Nat) : Decidable (finL l) := by unfold finL; exact inferInstance
theorem finL_step {l : List Nat} {i : Nat} (h : i < l.length) : finL (l.take (i + 1)) ↔ finL (l.take i) ∧ (splitP (l.getD i 0)).cls ≤ 2 := by
  rw [take_step h]
  unfold finL
  constructor
  · intro hh; exact ⟨fun x hx => hh x (List.mem_append_left _ hx), hh _ (by simp)⟩
  · rintro ⟨h1, h2⟩ x hx
    rcases List.mem_append.1 hx with q | q
    · exact h1 x q
    · simp at q; rw [q]; exact h2
theorem finL_take {l : List Nat} {i : Nat} (h : finL l) : finL (l.take i) := fun x hx => h x (List.mem_of_mem_take hx)

theorem finite1_spec (x : Nat) (w : World) : Ret Tryz.prog 105 [.float .f64 x] w fun u w' => u = .bool (!decide ((splitP x).cls ≤ 2)) ∧ Chg [] w w' := by
 have hch : Chg [] w w := Chg.refl _ _
 refine Ret.enter Tryz.func105 rfl rfl ?_
 simp only [args0, Nat.zero_add, Nat.reduceAdd]
 refine Sq fun _ kh1 _ kr2 => ?_
 refine As rfl rfl ?_
 refine WL.nil (kr2 _ _ _ (kh1 _ _ _ ?_))
 refine Sq fun _ kh3 _ kr4 => ?_
 refine Mv rfl rfl ?_
 refine Mv rfl rfl ?_
 refine WL.fsubSelf rfl rfl rfl fun r5 w5 hc5 hr5 ho5 => ?_
 have hch := hch.trans hc5
 refine WL.ev (Ev.fneq rfl rfl) rfl ?_
 refine As rfl rfl ?_
 refine WL.nil (kr4 _ _ _ (kh3 _ _ _ ?_))
 refine CW.ret ?_
 refine bodyA.ret1 rfl rfl ?_
 refine ⟨?_, hch⟩
 rw [← ho5]; rfl

structure KIx (l : List Nat) (w0 : World) (i : Nat) (w : World) : Prop where
  hi : i ≤ l.length
  f : finL (l.take i)
  ch : Chg [] w0 w

set_option maxRecDepth 8000 in
theorem IndexFunc_spec (v : Value) (l : List Nat) (w : World) (hv : NF w v l) : Ret Tryz.prog 153 [v, .func (.func 105) #[] #[]] w fun u w' => (∃ r : Int, u = .int .i64 r ∧ (0 ≤ r ↔ ¬ finL l)) ∧ Chg [] w w' := by
 obtain ⟨⟨al, cl, rfl, hcap, hrl⟩, hWl, hll⟩ := hv
 have hch : Chg [] w w := Chg.refl _ _
 refine Ret.enter Tryz.func153 rfl rfl ?_
 simp only [args0, Nat.zero_add, Nat.reduceAdd]
 refine Sq fun _ kh1 _ kr2 => ?_
 refine As rfl rfl ?_
 refine WL.nil (kr2 _ _ _ (kh1 _ _ _ ?_))
 refine CW.seq fun _ kh3 => ?_
 refine Sq fun _ kh4 _ kr5 => ?_
 refine Mv rfl rfl ?_
 refine WL.ev (Ev.len rfl) rfl ?_
 refine Mv rfl rfl ?_
 refine WL.nil (kr5 _ _ _ (kh4 _ _ _ ?_))
 refine CW.block ?_
 refine CW.loop (S := fun i : Nat => [(0, .slice al l.length cl), (1, .func (.func 105) #[] #[]), (7, .int .i64 (l.length : Int)), (8, .int .i64 (i : Int))]) (Inv := KIx l w) (mu := fun i => l.length - i) (0) ?_ ?_ ?_
 ·
  exact ⟨Nat.zero_le _, fun x hx => (by simp at hx), hch⟩
 ·
  repeat (first | exact Subs.nil | refine Subs.cons rfl ?_ | refine Subs.consI rfl (by omega) ?_)
 ·
  rintro i wr ⟨hi, hf, hch⟩
  refine Sq fun _ kh6 _ kr7 => ?_
  refine WL.ev (Ev.lss rfl rfl) rfl ?_
  refine WL.nil (kr7 _ _ _ (kh6 _ _ _ ?_))
  refine CW.seq fun _ kh8 => ?_
  refine CW.cond rfl (fun hc1 => ?_) (fun hc1 => ?_)
  ·
   try simp only [qs] at hc1
   have hst := finL_step (l := l) (i := i) (by omega)
   refine CW.skip ?_
   refine kh8 _ _ _ ?_
   refine CW.seq fun _ kh9 => ?_
   refine CW.block ?_
   refine Sq fun _ kh10 _ kr11 => ?_
   refine Mv rfl rfl ?_
   refine As rfl rfl ?_
   refine WL.nil (kr11 _ _ _ (kh10 _ _ _ ?_))
   refine Sq fun _ kh12 _ kr13 => ?_
   refine Mv rfl rfl ?_
   refine Mv rfl rfl ?_
   refine Mv rfl rfl ?_
   refine WL.ev (Ev.ixR (i) rfl rfl (hrl.keep0 hch) (by omega) (by omega) (by simp; omega)) rfl ?_
   refine WL.ev (Ev.load rfl rfl ((hrl.keep0 hch).f64 (by first | omega | (simp; omega)))) rfl ?_
   refine WL.callV (cap := []) hasF105 rfl rfl rfl (by rw [List.append_nil]; exact finite1_spec (l.getD i 0) _) fun v16 w16 h16 => ?_
   obtain ⟨rfl, hC16⟩ := h16
   have hch := hch.trans hC16
   refine WL.nil (kr13 _ _ _ (kh12 _ _ _ ?_))
   refine CW.cond rfl (fun hc2 => ?_) (fun hc2 => ?_)
   ·
    try simp only [qs] at hc2
    have hfx : ¬ (splitP (l.getD i 0)).cls ≤ 2 := by simpa using hc2
    refine Sq fun _ kh14 _ kr15 => ?_
    refine Mv rfl rfl ?_
    refine As rfl rfl ?_
    refine WL.nil (kr15 _ _ _ (kh14 _ _ _ ?_))
    refine CW.ret ?_
    refine bodyA.ret1 rfl rfl ?_
    refine ⟨⟨_, rfl, ⟨fun _ h => hfx (hst.1 (finL_take h)).2, fun _ => by omega⟩⟩, hch⟩
   ·
    try simp only [qs] at hc2
    have hfx : (splitP (l.getD i 0)).cls ≤ 2 := by simpa using hc2
    refine CW.skip ?_
    refine kh9 _ _ _ ?_
    refine CW.region fun kR16 kr16 => ?_
    first | refine WL.ev (Ev.addIn rfl rfl (by omega)) rfl ?_ | refine WL.ev (Ev.add rfl rfl) rfl ?_
    refine Mv rfl rfl ?_
    refine WL.nil (kr16 _ _ _ ?_)
    refine ⟨rfl, i + 1, ?_, ?_, ?_⟩
    ·
     repeat (first | exact Subs.nil | refine Subs.cons rfl ?_ | refine Subs.consI rfl (by omega) ?_)
    ·
     exact ⟨by omega, hst.2 ⟨hf, hfx⟩, hch⟩
    ·
     omega
  ·
   try simp only [qs] at hc1
   have hiX : i = l.length := by omega
   subst hiX
   rw [List.take_length] at hf
   refine CW.exit ?_
   refine kh3 _ _ _ ?_
   refine Sq fun _ kh17 _ kr18 => ?_
   refine As rfl rfl ?_
   refine WL.nil (kr18 _ _ _ (kh17 _ _ _ ?_))
   refine CW.ret ?_
   refine bodyA.ret1 rfl rfl ?_
   exact ⟨⟨_, rfl, ⟨fun h => absurd h (by decide), fun h => absurd hf h⟩⟩, hch⟩

theorem ContainsFunc_spec (v : Value) (l : List Nat) (w : World) (hv : NF w v l) : Ret Tryz.prog 104 [v, .func (.func 105) #[] #[]] w fun u w' => u = .bool (!decide (finL l)) ∧ Chg [] w w' := by
 have hch : Chg [] w w := Chg.refl _ _
 refine Ret.enter Tryz.func104 rfl rfl ?_
 simp only [args0, Nat.zero_add, Nat.reduceAdd]
 refine Sq fun _ kh1 _ kr2 => ?_
 refine As rfl rfl ?_
 refine WL.nil (kr2 _ _ _ (kh1 _ _ _ ?_))
 refine Sq fun _ kh3 _ kr4 => ?_
 refine Mv rfl rfl ?_
 refine Mv rfl rfl ?_
 refine WL.call hasF153 rfl rfl (IndexFunc_spec v l _ hv) fun v w1 h' => ?_
 obtain ⟨⟨r, rfl, hr⟩, hC7⟩ := h'
 have hch := hch.trans (Chg.any hC7)
 refine WL.ev (Ev.geq rfl rfl) rfl ?_
 refine As rfl rfl ?_
 refine WL.nil (kr4 _ _ _ (kh3 _ _ _ ?_))
 refine CW.ret ?_
 refine bodyA.ret1 rfl rfl ?_
 refine ⟨?_, hch⟩
 rw [← decide_not]
 exact congrArg Value.bool (decide_eq_decide.2 hr)

theorem mfinite_spec (v : Value) (l : List Nat) (w : World) (hv : NF w v l) : Ret Tryz.prog 51 [v] w fun u w' => u = .bool (decide (finL l)) ∧ Chg [] w w' := by
 have hch : Chg [] w w := Chg.refl _ _
 refine Ret.enter Tryz.func51 rfl rfl ?_
 simp only [args0, Nat.zero_add, Nat.reduceAdd]
 refine Sq fun _ kh1 _ kr2 => ?_
 refine As rfl rfl ?_
 refine WL.nil (kr2 _ _ _ (kh1 _ _ _ ?_))
 refine Sq fun _ kh3 _ kr4 => ?_
 refine Mv rfl rfl ?_
 refine WL.call hasF104 rfl rfl (ContainsFunc_spec v l _ hv) fun v w1 h' => ?_
 obtain ⟨rfl, hC4⟩ := h'
 have hch := hch.trans (Chg.any hC4)
 refine WL.ev (Ev.not rfl) rfl ?_
 refine As rfl rfl ?_
 refine WL.nil (kr4 _ _ _ (kh3 _ _ _ ?_))
 refine CW.ret ?_
 refine bodyA.ret1 rfl rfl ?_
 refine ⟨?_, hch⟩
 rw [Bool.not_not]

end Go.Proofs.YtkkklaodligpdaaGreatDoor
