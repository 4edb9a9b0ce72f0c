/- Part 3 of what the proof rests on. No condition. -/
import Derived.Test.YtnbipejaidbihaaGreatDoorTt2
import Derived.Defers
set_option linter.unusedVariables false
set_option linter.unusedSimpArgs false
set_option maxRecDepth 100000
set_option maxHeartbeats 4000000
namespace Go.Proofs.YtnbipejaidbihaaGreatDoor
/- Package bits: Split, Class; package policy: kinds, counts. No condition. -/
section
open Go Sx Wd

theorem long_spec (w : World) : Ret Tryz.prog 287 [] w fun u w' => u = .agg [.int .i64 11, .int .i64 52, .int .i64 (-1074)].toArray ∧ Chg [] w w' := by
 have hch : Chg [] w w := Chg.refl _ _;refine zE0 Tryz.func287 rfl ?_;refine Sr fun _ kh1 => ?_;refine WL.allocB (l := [.int .i64 0, .int .i64 0, .int .i64 0]) rfl rfl fun b0 wm0 hb0 hcm0 hge0 => ?_;have hgehch0 := Nat.le_trans hch.size hge0;have hch := hch.ta hcm0;refine zz (kh1 (Sr fun _ kh3 => ?_));refine WL.ev (Ev.build (vs := _) (cs := [_, _, _]) rfl rfl) rfl ?_;refine zss rfl rfl ao hb0 rfl fun ws6 hb0_ hcs6 => ?_;(try simp only [Sx.splice, qt] at hb0_);have hch := hch.s1 hcs6;have hb0 := hb0_;refine zz (kh3 ?_);refine zr (bodyA.retR1 rfl (RVal.cell rfl (hb0.varA rfl rfl)) ?_);exact ⟨rfl, hch⟩

theorem Split_spec (x : Nat) (w : World) (hx : x < 18446744073709551616) : Ret Tryz.prog 212 [.float .f64 x] w fun u w' => u = .agg [.bool (splitP x).neg, .int .i64 ((splitP x).cls : Int), .int .i64 (splitP x).exp, .int .u64 ((splitP x).frac : Int)].toArray ∧ Chg [] w w' := by
 have hch : Chg [] w w := Chg.refl _ _;refine zE1 Tryz.func212 rfl ?_;refine Sr fun _ kh1 => ?_;refine WL.allocB (l := [.bool false, .int .i64 0, .int .i64 0, .int .u64 0]) rfl rfl fun b2 wm2 hb2 hcm2 hge2 => ?_;have hgehch2 := Nat.le_trans hch.size hge2;have hch := hch.ta hcm2;refine zz (kh1 (Sr fun _ kh3 => ?_));refine WL.call hasF287 rfl rfl (long_spec _) fun v w1 h' => ?_;obtain ⟨rfl, hC3⟩ := h';have hch := hch.ta hC3;have hb2 := hb2.k0 hC3;refine zm rfl ?_;refine WL.ev (Ev.ext rfl (ext65 _ _)) rfl ?_;refine WL.call hasF288 rfl rfl (parts_spec x _ hx) fun v w2 h' => ?_;obtain ⟨rfl, hC6⟩ := h';have hch := hch.ta hC6;have hb2 := hb2.k0 hC6;refine zss rfl rfl ao hb2 rfl fun ws7 hb2_ hcs7 => ?_;(try simp only [Sx.splice, qt] at hb2_);have hch := hch.s1 hcs7;have hb2 := hb2_;refine zz (kh3 ?_);refine zr (bodyA.retR1 rfl (RVal.cell rfl (hb2.varA rfl rfl)) ?_);exact ⟨rfl, hch⟩

/-- A number's kind: finite, -0, +0, +Inf, -Inf, NaN. -/
def kindP (x : Nat) : Nat :=
  if (splitP x).cls = 4 then 5 else if (splitP x).cls = 3 ∧ (splitP x).neg = true then 4 else if (splitP x).cls = 3 then 3
  else if (splitP x).cls = 0 ∧ (splitP x).neg = true then 1 else if (splitP x).cls = 0 then 2 else 0

theorem kind_spec (x : Nat) (w : World) (hx : x < 18446744073709551616) : Ret Tryz.prog 195 [.float .f64 x] w fun u w' => u = .int .i64 (kindP x : Int) ∧ Chg [] w w' := by
 have hch : Chg [] w w := Chg.refl _ _;refine zE1 Tryz.func195 rfl ?_;refine Sr fun _ kh1 => za rfl (zz (kh1 (Sr fun _ kh3 => zm rfl ?_)));refine WL.call hasF212 rfl rfl (Split_spec x _ hx) fun v w1 h' => ?_;obtain ⟨rfl, hC5⟩ := h';have hch := hch.ta hC5;refine WL.allocB (l := [.bool false, .int .i64 0, .int .i64 0, .int .u64 0]) rfl rfl fun b3 wm3 hb3 hcm3 hge3 => ?_;have hgehch3 := Nat.le_trans hch.size hge3;have hch := hch.ta hcm3;refine zss rfl rfl ao hb3 rfl fun ws8 hb3_ hcs8 => ?_;(try simp only [Sx.splice, qt] at hb3_);have hch := hch.s1 hcs8;have hb3 := hb3_;refine zz (kh3 (zc fun _ kh5 => ?_));refine CW.block ?_;refine Sr fun _ kh6 => zf rfl (zl hb3 rfl rfl (zq rfl rfl (za rfl (zz (kh6 ?_)))));refine zy rfl ?_ ?_<;>intro hc1<;>try simp only [qs] at hc1
 ·refine Sr fun _ kh8 => za rfl (zz (kh8 ?_));refine zr (zr1 rfl rfl ?_);unfold kindP; rw [if_pos (by omega)];exact ⟨rfl, hch⟩
 ·refine CW.seqM 10 (decide ((splitP x).cls = 3 ∧ (splitP x).neg = true)) ?_ ?_
  ·refine zR fun _ kr10 => ?_;refine zf rfl (zl hb3 rfl rfl (zq rfl rfl (zm rfl ?_)));refine zb ?_ ?_<;>intro hg2<;>try simp only [qs] at hg2
   ·refine zw rfl (zf rfl (zw rfl (zl hb3 rfl rfl (zt rfl rfl (za rfl ?_)))));refine WL.nil (kr10 _ _ _ ?_);refine ⟨rfl, rfl, Subs.consB rfl ?_ ?_⟩
    ·first | (simp_all; done) | (simp; omega) | (cases hnn : (splitP x).neg <;> simp_all <;> omega)
    ·exact SMg
   ·refine zv rfl (zv rfl (ze rfl rfl (za rfl ?_)));refine WL.nil (kr10 _ _ _ ?_);refine ⟨rfl, rfl, Subs.consB rfl ?_ ?_⟩
    ·first | (simp_all; done) | (simp; omega) | (cases hnn : (splitP x).neg <;> simp_all <;> omega)
    ·exact SMg
  ·refine zy rfl ?_ ?_<;>intro hc3<;>try simp only [qs] at hc3
   ·have hK10 := hc3
    refine Sr fun _ kh11 => za rfl (zz (kh11 ?_));refine zr (zr1 rfl rfl ?_);unfold kindP; rw [if_neg (by omega), if_pos hK10];exact ⟨rfl, hch⟩
   ·have hK10 := hc3
    refine Sr fun _ kh13 => zf rfl (zl hb3 rfl rfl (zq rfl rfl (za rfl (zz (kh13 ?_)))));refine zy rfl ?_ ?_<;>intro hc4<;>try simp only [qs] at hc4
    ·refine Sr fun _ kh15 => za rfl (zz (kh15 ?_));refine zr (zr1 rfl rfl ?_);unfold kindP; rw [if_neg (by omega), if_neg hK10, if_pos (by omega)];exact ⟨rfl, hch⟩
    ·refine CW.seqM 22 (decide ((splitP x).cls = 0 ∧ (splitP x).neg = true)) ?_ ?_
     ·refine zR fun _ kr17 => ?_;refine zf rfl (zl hb3 rfl rfl (zq rfl rfl (zm rfl ?_)));refine zb ?_ ?_<;>intro hg5<;>try simp only [qs] at hg5
      ·refine zw rfl (zf rfl (zw rfl (zl hb3 rfl rfl (zt rfl rfl (za rfl ?_)))));refine WL.nil (kr17 _ _ _ ?_);refine ⟨rfl, rfl, Subs.consB rfl ?_ ?_⟩
       ·first | (simp_all; done) | (simp; omega) | (cases hnn : (splitP x).neg <;> simp_all <;> omega)
       ·exact SMg
      ·refine zv rfl (zv rfl (ze rfl rfl (za rfl ?_)));refine WL.nil (kr17 _ _ _ ?_);refine ⟨rfl, rfl, Subs.consB rfl ?_ ?_⟩
       ·first | (simp_all; done) | (simp; omega) | (cases hnn : (splitP x).neg <;> simp_all <;> omega)
       ·exact SMg
     ·refine zy rfl ?_ ?_<;>intro hc6<;>try simp only [qs] at hc6
      ·have hK22 := hc6
       refine Sr fun _ kh18 => za rfl (zz (kh18 ?_));refine zr (zr1 rfl rfl ?_);unfold kindP; rw [if_neg (by omega), if_neg hK10, if_neg (by omega), if_pos hK22];exact ⟨rfl, hch⟩
      ·have hK22 := hc6
       refine Sr fun _ kh20 => zf rfl (zl hb3 rfl rfl (zq rfl rfl (za rfl (zz (kh20 ?_)))));refine zy rfl ?_ ?_<;>intro hc7<;>try simp only [qs] at hc7
       ·refine Sr fun _ kh22 => za rfl (zz (kh22 ?_));refine zr (zr1 rfl rfl ?_);unfold kindP; rw [if_neg (by omega), if_neg hK10, if_neg (by omega), if_neg hK22, if_pos (by omega)];exact ⟨rfl, hch⟩
       ·refine zkk ?_
        refine kh5 (Sr fun _ kh24 => za rfl (zz (kh24 ?_)));refine zr (zr1 rfl rfl ?_);unfold kindP; rw [if_neg (by omega), if_neg hK10, if_neg (by omega), if_neg hK22, if_neg (by omega)];exact ⟨rfl, hch⟩

theorem choice_spec (n : Int) (w : World) : Ret Tryz.prog 191 [.int .i64 n] w fun u w' => u = .bool (decide (0 ≤ n ∧ n ≤ 2)) ∧ w = w' := by
 refine zE1 Tryz.func191 rfl ?_;refine Sr fun _ kh1 => za rfl (zz (kh1 (Sr fun _ kh3 => zm rfl ?_)));refine WL.ev (Ev.geq rfl rfl) rfl ?_;refine zm rfl ?_;refine zb ?_ ?_<;>intro hg1<;>try simp only [qs] at hg1
 ·refine zw rfl (zm rfl (zw rfl ?_));refine WL.ev (Ev.leq rfl rfl) rfl ?_
  refine zt rfl rfl (za rfl (zz (kh3 ?_)));refine zr (zr1 rfl rfl ?_);refine ⟨congrArg Value.bool (decide_eq_decide.2 (by omega)), rfl⟩
 ·refine zv rfl (zv rfl (ze rfl rfl (za rfl (zz (kh3 ?_)))));refine zr (zr1 rfl rfl ?_);refine ⟨?_, rfl⟩;rw [decide_eq_false (by omega)]

def mayQ (a b : Int) : Prop := (0 ≤ a ∧ a ≤ 2) ∧ (0 ≤ b ∧ b ≤ 2)
instance (a b : Int) : Decidable (mayQ a b) := by unfold mayQ; exact inferInstance

theorem May_spec (pn pi : Int) (w : World) : Ret Tryz.prog 99 [.agg [.int .i64 pn, .int .i64 pi].toArray] w fun u w' => u = .bool (decide (mayQ pn pi)) ∧ Chg [] w w' := by
 have hch : Chg [] w w := Chg.refl _ _;refine zE1 Tryz.func99 rfl ?_;refine Sr fun _ kh1 => ?_;refine zBh rfl rfl rfl hch fun b1 wm1 hb1 hcm1 hge1 hgehch1 hch => ?_;refine za rfl (zz (kh1 (Sr fun _ kh3 => zf rfl (zl hb1 rfl rfl ?_))));refine WL.call hasF191 rfl rfl (choice_spec pn _) fun v w1 h' => ?_;obtain ⟨rfl, rfl⟩ := h';refine zm rfl ?_;refine zb ?_ ?_<;>intro hg1<;>try simp only [qs] at hg1
 ·refine zw rfl (zf rfl (zw rfl (zl hb1 rfl rfl (zw rfl ?_))));refine WL.call hasF191 rfl rfl (choice_spec pi _) fun v w2 h' => ?_
  obtain ⟨rfl, rfl⟩ := h';refine zt rfl rfl (za rfl (zz (kh3 ?_)));refine zr (zr1 rfl rfl ?_);refine ⟨congrArg Value.bool (decide_eq_decide.2 (by unfold mayQ; omega)), hch⟩
 ·refine zv rfl (zv rfl (zv rfl (ze rfl rfl (za rfl (zz (kh3 ?_))))));refine zr (zr1 rfl rfl ?_);refine ⟨?_, hch⟩;rw [decide_eq_false (by unfold mayQ; omega)]

end

/- Package policy: counts of kinds. No condition. -/
section
open Go Sx Wd

/-- Counts of kinds. -/
structure SP where
  na : Nat
  up : Nat
  dn : Nat
  mi : Nat
  pl : Nat
  al : Nat
def SP.cells (s : SP) : List Value := [.int .i64 (s.na : Int), .int .i64 (s.up : Int), .int .i64 (s.dn : Int), .int .i64 (s.mi : Int), .int .i64 (s.pl : Int), .int .i64 (s.al : Int)]
def SP.le (s : SP) (n : Nat) : Prop := s.na ≤ n ∧ s.up ≤ n ∧ s.dn ≤ n ∧ s.mi ≤ n ∧ s.pl ≤ n ∧ s.al ≤ n
def SP.zero : SP := ⟨0, 0, 0, 0, 0, 0⟩
def countP (s : SP) (k : Nat) : SP :=
  ⟨s.na + (if k = 5 then 1 else 0), s.up + (if k = 3 then 1 else 0), s.dn + (if k = 4 then 1 else 0), s.mi + (if k = 1 then 1 else 0), s.pl + (if k = 2 then 1 else 0), s.al + 1⟩
theorem countP.le {s : SP} {k n : Nat} (h : s.le n) : (countP s k).le (n + 1) := by
  obtain ⟨a, b, c, d, e, f⟩ := h
  refine ⟨?_, ?_, ?_, ?_, ?_, ?_⟩ <;> (simp only [countP]; try split) <;> omega
def mayBeP (s : SP) : Prop := s.na + s.up + s.dn + s.mi + s.pl ≤ s.al ∧ s.al ≤ 1099511627776
instance (s : SP) : Decidable (mayBeP s) := by unfold mayBeP; exact inferInstance
def SP.five (s : SP) : List Nat := [s.na, s.up, s.dn, s.mi, s.pl]
theorem take_sum {l : List Nat} : ∀ {i : Nat}, i < l.length → (l.take (i + 1)).sum = (l.take i).sum + l.getD i 0 := by
  induction l with
  | nil => intro i h; simp at h
  | cons a l ih =>
    intro i h
    cases i with
    | zero => simp
    | succ i =>
      have := ih (i := i) (by simpa using h)
      simp only [List.take_succ_cons, List.sum_cons, this, List.getD_cons_succ]; omega
theorem five_le (s : SP) (i : Nat) : s.five.getD i 0 ≤ s.na + s.up + s.dn + s.mi + s.pl := by
  unfold SP.five
  match i with
  | 0 => simp; omega
  | 1 => simp; omega
  | 2 => simp; omega
  | 3 => simp; omega
  | 4 => simp
  | n + 5 => simp
theorem five_sum (s : SP) : (s.five.take 5).sum = s.na + s.up + s.dn + s.mi + s.pl := by
  simp [SP.five]; omega

theorem count_spec (b k : Nat) (s : SP) (w : World) (hB : BK w b 103 s.cells) (hs : s.le 1000000000000000) : Ret Tryz.prog 196 [.pointer (some ⟨b, 0, none⟩), .int .i64 (k : Int)] w fun u w' => BK w' b 103 (countP s k).cells ∧ Chg [b] w w' := by
 obtain ⟨hs1, hs2, hs3, hs4, hs5, hs6⟩ := hs;unfold SP.cells at hB;have hch : Chg [b] w w := Chg.refl _ _;refine zE2 Tryz.func196 rfl ?_;refine Sr fun _ kh1 => zm rfl ?_;refine WL.ev (Ev.nilPtr rfl) rfl ?_;refine zf rfl (zl hB rfl rfl ?_);(first | refine zi rfl rfl ?_ | refine zo rfl rfl ?_);refine WL.ev (Ev.nilPtr rfl) rfl ?_;refine zf rfl ?_;refine WL.storeC rfl rfl o1 hB (by simp) rfl fun ws9 hB_ hcs9 => ?_;(try simp only [Sx.splice, qt] at hB_);have hch := hch.s1 hcs9;have hB := hB_;refine zz (kh1 (Sr fun _ kh3 => zm rfl (zz (kh3 ?_))));refine CW.block ?_;refine Sr fun _ kh5 => zq rfl rfl (za rfl (zz (kh5 ?_)));refine zy rfl ?_ ?_<;>intro hc1<;>try simp only [qs] at hc1
 ·refine zR fun _ kr7 => ?_
  refine zm rfl ?_;refine WL.ev (Ev.nilPtr rfl) rfl ?_;refine zf rfl (zl hB rfl rfl ?_);(first | refine zi rfl rfl ?_ | refine zo rfl rfl ?_);refine WL.ev (Ev.nilPtr rfl) rfl ?_;refine zf rfl ?_;refine WL.storeC rfl rfl o1 hB (by simp) rfl fun ws10 hB_ hcs10 => ?_;(try simp only [Sx.splice, qt] at hB_);have hch := hch.s1 hcs10;have hB := hB_;refine WL.nil (kr7 _ _ _ ?_);refine bodyA.norm0 rfl ?_;refine ⟨?_, hch⟩;have hk : k = 5 := by omega
  subst hk
  simpa [SP.cells, countP] using hB
 ·refine Sr fun _ kh8 => zq rfl rfl (za rfl (zz (kh8 ?_)));refine zy rfl ?_ ?_<;>intro hc2<;>try simp only [qs] at hc2
  ·refine zR fun _ kr10 => ?_
   refine zm rfl ?_;refine WL.ev (Ev.nilPtr rfl) rfl ?_;refine zf rfl (zl hB rfl rfl ?_);(first | refine zi rfl rfl ?_ | refine zo rfl rfl ?_);refine WL.ev (Ev.nilPtr rfl) rfl ?_;refine zf rfl ?_;refine WL.storeC rfl rfl o1 hB (by simp) rfl fun ws11 hB_ hcs11 => ?_;(try simp only [Sx.splice, qt] at hB_);have hch := hch.s1 hcs11;have hB := hB_;refine WL.nil (kr10 _ _ _ ?_);refine bodyA.norm0 rfl ?_;refine ⟨?_, hch⟩;have hk : k = 3 := by omega
   subst hk
   simpa [SP.cells, countP] using hB
  ·refine Sr fun _ kh11 => zq rfl rfl (za rfl (zz (kh11 ?_)));refine zy rfl ?_ ?_<;>intro hc3<;>try simp only [qs] at hc3
   ·refine zR fun _ kr13 => ?_
    refine zm rfl ?_;refine WL.ev (Ev.nilPtr rfl) rfl ?_;refine zf rfl (zl hB rfl rfl ?_);(first | refine zi rfl rfl ?_ | refine zo rfl rfl ?_);refine WL.ev (Ev.nilPtr rfl) rfl ?_;refine zf rfl ?_;refine WL.storeC rfl rfl o1 hB (by simp) rfl fun ws12 hB_ hcs12 => ?_;(try simp only [Sx.splice, qt] at hB_);have hch := hch.s1 hcs12;have hB := hB_;refine WL.nil (kr13 _ _ _ ?_);refine bodyA.norm0 rfl ?_;refine ⟨?_, hch⟩;have hk : k = 4 := by omega
    subst hk
    simpa [SP.cells, countP] using hB
   ·refine Sr fun _ kh14 => zq rfl rfl (za rfl (zz (kh14 ?_)));refine zy rfl ?_ ?_<;>intro hc4<;>try simp only [qs] at hc4
    ·refine zR fun _ kr16 => ?_
     refine zm rfl ?_;refine WL.ev (Ev.nilPtr rfl) rfl ?_;refine zf rfl (zl hB rfl rfl ?_);(first | refine zi rfl rfl ?_ | refine zo rfl rfl ?_);refine WL.ev (Ev.nilPtr rfl) rfl ?_;refine zf rfl ?_;refine WL.storeC rfl rfl o1 hB (by simp) rfl fun ws13 hB_ hcs13 => ?_;(try simp only [Sx.splice, qt] at hB_);have hch := hch.s1 hcs13;have hB := hB_;refine WL.nil (kr16 _ _ _ ?_);refine bodyA.norm0 rfl ?_;refine ⟨?_, hch⟩;have hk : k = 1 := by omega
     subst hk
     simpa [SP.cells, countP] using hB
    ·refine Sr fun _ kh17 => zq rfl rfl (za rfl (zz (kh17 ?_)));refine zy rfl ?_ ?_<;>intro hc5<;>try simp only [qs] at hc5
     ·refine zR fun _ kr19 => ?_
      refine zm rfl ?_;refine WL.ev (Ev.nilPtr rfl) rfl ?_;refine zf rfl (zl hB rfl rfl ?_);(first | refine zi rfl rfl ?_ | refine zo rfl rfl ?_);refine WL.ev (Ev.nilPtr rfl) rfl ?_;refine zf rfl ?_;refine WL.storeC rfl rfl o1 hB (by simp) rfl fun ws14 hB_ hcs14 => ?_;(try simp only [Sx.splice, qt] at hB_);have hch := hch.s1 hcs14;have hB := hB_;refine WL.nil (kr19 _ _ _ ?_);refine bodyA.norm0 rfl ?_;refine ⟨?_, hch⟩;have hk : k = 2 := by omega
      subst hk
      simpa [SP.cells, countP] using hB
     ·refine zkk ?_
      refine bodyA.norm0 rfl ?_;refine ⟨?_, hch⟩;have k1 : ¬ k = 5 := by omega
      have k2 : ¬ k = 3 := by omega
      have k3 : ¬ k = 4 := by omega
      have k4 : ¬ k = 1 := by omega
      have k5 : ¬ k = 2 := by omega
      simpa [SP.cells, countP, k1, k2, k3, k4, k5] using hB

def KMb (s : SP) (b : Nat) (w0 : World) (g : Nat × Nat) (w : World) : Prop := g.1 ≤ 5 ∧ g.2 = (s.five.take g.1).sum ∧ g.2 ≤ g.1 * 1099511627776 ∧ BK w b 103 s.cells ∧ Chg [] w0 w

theorem mayBe_spec (s : SP) (w : World) (hs : s.le 1000000000000000) : Ret Tryz.prog 182 [.agg [.int .i64 (s.na : Int), .int .i64 (s.up : Int), .int .i64 (s.dn : Int), .int .i64 (s.mi : Int), .int .i64 (s.pl : Int), .int .i64 (s.al : Int)].toArray] w fun u w' => u = .bool (decide (mayBeP s)) ∧ Chg [] w w' := by
  obtain ⟨hs1, hs2, hs3, hs4, hs5, hs6⟩ := hs;have hch : Chg [] w w := Chg.refl _ _;refine zE1 Tryz.func182 rfl ?_;refine Sr fun _ kh1 => ?_;refine zBh rfl rfl rfl hch fun b1 wm1 hb1 hcm1 hge1 hgehch1 hch => ?_;refine za rfl (zz (kh1 (Sr fun _ kh3 => za rfl (zz (kh3 (zc fun _ kh5 => Sr fun _ kh6 => zf rfl (zl hb1 rfl rfl (zf rfl (zl hb1 rfl rfl (zf rfl (zl hb1 rfl rfl (zf rfl (zl hb1 rfl rfl (zf rfl (zl hb1 rfl rfl ?_)))))))))))))));refine WL.ev (Ev.buildA (vs := _) (cs := [_, _, _, _, _]) rfl rfl) rfl ?_;refine zm rfl (zz (kh6 ?_));refine CW.block ?_;refine CW.loop (S := fun g : Nat × Nat => [(1, .pointer (some ⟨b1, 0, none⟩)), (2, .bool false), (3, .int .i64 (g.2 : Int)), (16, .agg (s.five.map fun n : Nat => Value.int .i64 (n : Int)).toArray), (17, .int .i64 (g.1 : Int))]) (Inv := KMb s b1 w) (mu := fun g => 5 - g.1) ((0, 0)) ?_ ?_ ?_
  · exact ⟨by omega, rfl, by omega, hb1, hch⟩
  · exact SLp
  · rintro ⟨i, m⟩ wr ⟨hi5, hm, hmx, hb1, hch⟩;dsimp only at hi5 hm hmx hb1 hch;unfold SP.cells at hb1;have hmv := five_le s i;refine Sr fun _ kh8 => ?_;refine WL.ev (Ev.lss rfl rfl) rfl ?_;refine zz (kh8 (zc fun _ kh10 => ?_));refine zy rfl ?_ ?_<;>intro hc1<;>try simp only [qs] at hc1
    · refine zkk ?_
      refine kh10 (zc fun _ kh11 => ?_);refine CW.block ?_;refine Sr fun _ kh12 => ?_;refine WL.ev (Ev.indexAr (i := i) (v := .int .i64 ((s.five.getD i 0 : Nat) : Int)) rfl rfl (by omega) rfl ?_) rfl ?_
      · have : i < s.five.length := by show i < 5; omega
        rw [List.getElem?_map, List.getD_eq_getElem?_getD, List.getElem?_eq_getElem this]; rfl
      refine za rfl (zz (kh12 (zc fun _ kh14 => ?_)));refine CW.seqM 25 (decide (1099511627776 < s.five.getD i 0)) ?_ ?_
      · refine zR fun _ kr15 => ?_;refine zm rfl ?_;refine WL.ev (Ev.lss rfl rfl) rfl ?_;refine zm rfl ?_;refine zb ?_ ?_<;>intro hg2<;>try simp only [qs] at hg2
        · refine zv rfl (zv rfl (zt rfl rfl ?_));refine WL.nil (kr15 _ _ _ ?_);refine ⟨rfl, rfl, Subs.consB rfl ?_ ?_⟩
          · first | (simp; omega) | (refine decide_eq_decide.2 ?_; omega)
          · exact SMg
        · refine zw rfl (zm rfl (zw rfl ?_));refine WL.ev (Ev.gtr rfl rfl) rfl ?_
          refine ze rfl rfl ?_;refine WL.nil (kr15 _ _ _ ?_);refine ⟨rfl, rfl, Subs.consB rfl ?_ ?_⟩
          · first | (simp; omega) | (refine decide_eq_decide.2 ?_; omega)
          · exact SMg
      · refine zy rfl ?_ ?_<;>intro hc3<;>try simp only [qs] at hc3
        · refine Sr fun _ kh16 => za rfl (zz (kh16 ?_));refine zr (zr1 rfl rfl ?_);refine ⟨?_, hch⟩;rw [decide_eq_false (by unfold mayBeP; omega)]
        · refine zkk ?_
          refine kh14 ?_;refine zR fun _ kr18 => ?_;refine zm rfl (zm rfl ?_);(first | refine zi rfl rfl ?_ | refine zo rfl rfl ?_);refine za rfl ?_;refine WL.nil (kr18 _ _ _ (kh11 ?_));refine zR fun _ kr19 => ?_;(first | refine zi rfl rfl ?_ | refine zo rfl rfl ?_);refine zm rfl ?_;refine WL.nil (kr19 _ _ _ ?_);refine ⟨rfl, (i + 1, m + s.five.getD i 0), ?_, ?_, ?_⟩
          · exact SLp
          · exact ⟨by omega, by dsimp only; rw [hm]; exact (take_sum (by show i < 5; omega)).symm, by dsimp only; omega, hb1, hch⟩
          · show 5 - (i + 1) < 5 - i; omega
    · refine CW.exit ?_
      refine kh5 (zc fun _ kh20 => ?_);have h5 : i = 5 := by omega
      subst h5;rw [five_sum] at hm;refine zR fun _ kr21 => ?_;refine zm rfl (zf rfl (zl hb1 rfl rfl ?_));refine WL.ev (Ev.leq rfl rfl) rfl ?_;refine zm rfl ?_;refine zb ?_ ?_<;>intro hg4<;>try simp only [qs] at hg4
      · refine zw rfl (zf rfl (zw rfl (zl hb1 rfl rfl (zw rfl ?_))));refine WL.ev (Ev.leq rfl rfl) rfl ?_
        refine zt rfl rfl (za rfl ?_);refine WL.nil (kr21 _ _ _ (kh20 ?_));refine zr (zr1 rfl rfl ?_);refine ⟨congrArg Value.bool (decide_eq_decide.2 (by unfold mayBeP; omega)), hch⟩
      · refine zv rfl (zv rfl (zv rfl (ze rfl rfl (za rfl ?_))));refine WL.nil (kr21 _ _ _ (kh20 ?_));refine zr (zr1 rfl rfl ?_);refine ⟨?_, hch⟩;rw [decide_eq_false (by unfold mayBeP; omega)]

end

/- Package policy: Verdict, Nought, Plain; math.Inf, Copysign; bits.NaN. No condition. -/
section
open Go Sx Wd

theorem Inf_spec (n : Int) (w : World) : Ret Tryz.prog 183 [.int .i64 n] w fun u w' => u = .float .f64 (if 0 ≤ n then 9218868437227405312 else 18442240474082181120) ∧ w = w' := by
 refine zE1 Tryz.func183 rfl ?_;refine Sr fun _ kh1 => za rfl (zz (kh1 (Sr fun _ kh3 => za rfl (zz (kh3 (zc fun _ kh5 => Sr fun _ kh6 => zm rfl ?_))))));refine WL.ev (Ev.geq rfl rfl) rfl ?_;refine zz (kh6 ?_);refine zy rfl ?_ ?_<;>intro hc1<;>try simp only [qs] at hc1
 ·refine zR fun _ kr8 => ?_
  refine za rfl ?_;refine WL.nil (kr8 _ _ _ (kh5 ?_));refine Sr fun _ kh9 => zm rfl ?_;refine WL.ev (Ev.ext rfl (ext87 _ _)) rfl ?_;refine za rfl (zz (kh9 ?_));refine zr (zr1 rfl rfl ?_);rw [if_pos (by omega)];exact ⟨rfl, rfl⟩
 ·refine zR fun _ kr11 => ?_
  refine za rfl ?_;refine WL.nil (kr11 _ _ _ (kh5 ?_));refine Sr fun _ kh12 => zm rfl ?_;refine WL.ev (Ev.ext rfl (ext87 _ _)) rfl ?_;refine za rfl (zz (kh12 ?_));refine zr (zr1 rfl rfl ?_);rw [if_neg (by omega)];exact ⟨rfl, rfl⟩

theorem Copysign_spec (w : World) : Ret Tryz.prog 185 [.float .f64 0, .float .f64 13830554455654793216] w fun u w' => u = .float .f64 9223372036854775808 ∧ w = w' := by
 refine zE2 Tryz.func185 rfl ?_;refine Sr fun _ kh1 => za rfl (zz (kh1 (Sr fun _ kh3 => zm rfl ?_)));refine WL.ev (Ev.ext rfl (ext65 _ _)) rfl ?_;refine WL.ev (Ev.andNotU (a := 0) (b := 9223372036854775808) rfl rfl rfl (by decide) (by decide)) rfl ?_;rw [show 0 &&& (2 ^ IntKind.u64.bits - 1 - 9223372036854775808) = 0 from Nat.zero_and _];refine zm rfl ?_;refine WL.ev (Ev.ext rfl (ext65 _ _)) rfl ?_;refine WL.ev (Ev.andU (a := 13830554455654793216) (b := 9223372036854775808) rfl rfl rfl (by decide) (by decide)) rfl ?_;rw [show 13830554455654793216 &&& 9223372036854775808 = 9223372036854775808 from by decide];refine WL.ev (Ev.orU (a := 0) (b := 9223372036854775808) rfl rfl rfl (by decide) (by decide)) rfl ?_;rw [show 0 ||| 9223372036854775808 = 9223372036854775808 from by decide];refine WL.ev (Ev.ext rfl (ext87 _ _)) rfl ?_;refine za rfl (zz (kh3 ?_));refine zr (zr1 rfl rfl ?_);exact ⟨rfl, rfl⟩

theorem NaN_spec (w : World) : Ret Tryz.prog 97 [] w fun u w' => u = .float .f64 9221120237041090560 ∧ w = w' := by
 refine zE0 Tryz.func97 rfl ?_;refine Sr fun _ kh1 => za rfl (zz (kh1 (Sr fun _ kh3 => ?_)));refine WL.ev (Ev.ext rfl (ext87 _ _)) rfl ?_;refine za rfl (zz (kh3 ?_));refine zr (zr1 rfl rfl ?_);exact ⟨rfl, rfl⟩

theorem Plain_spec (w : World) : Ret Tryz.prog 131 [] w fun u w' => u = .agg [.int .i64 0, .int .i64 0].toArray ∧ Chg [] w w' := by
 have hch : Chg [] w w := Chg.refl _ _;refine zE0 Tryz.func131 rfl ?_;refine Sr fun _ kh1 => ?_;refine WL.allocB (l := [.int .i64 0, .int .i64 0]) rfl rfl fun b0 wm0 hb0 hcm0 hge0 => ?_;have hgehch0 := Nat.le_trans hch.size hge0;have hch := hch.ta hcm0;refine zz (kh1 (Sr fun _ kh3 => ?_));refine WL.ev (Ev.build (vs := _) (cs := [_, _]) rfl rfl) rfl ?_;refine zss rfl rfl ao hb0 rfl fun ws15 hb0_ hcs15 => ?_;(try simp only [Sx.splice, qt] at hb0_);have hch := hch.s1 hcs15;have hb0 := hb0_;refine zz (kh3 ?_);refine zr (bodyA.retR1 rfl (RVal.cell rfl (hb0.varA rfl rfl)) ?_);exact ⟨rfl, hch⟩

/-- What a sum with such specials is. -/
def verdP (s : SP) (pn pi : Int) : Option Nat :=
  if ¬ mayBeP s ∨ ¬ mayQ pn pi then none else if (0 < s.na ∧ pn = 0) ∨ (0 < s.up ∧ 0 < s.dn ∧ pi = 0) then some 9221120237041090560
  else if 0 < s.up ∧ pi = 0 then some 9218868437227405312 else if 0 < s.dn ∧ pi = 0 then some 18442240474082181120 else none
/-- The sign of a sum that comes to nought. -/
def noughtP (s : SP) (mode : Int) : Nat :=
  if mayBeP s ∧ s.na + s.up + s.dn < s.al ∧ (s.mi + s.na + s.up + s.dn = s.al ∨ s.pl + s.na + s.up + s.dn < s.al ∧ mode = 3) then 9223372036854775808 else 0

theorem Verdict_spec (s : SP) (pn pi : Int) (w : World) (hs : s.le 1000000000000000) : Ret Tryz.prog 92 [.agg [.int .i64 (s.na : Int), .int .i64 (s.up : Int), .int .i64 (s.dn : Int), .int .i64 (s.mi : Int), .int .i64 (s.pl : Int), .int .i64 (s.al : Int)].toArray, .agg [.int .i64 pn, .int .i64 pi].toArray] w fun u w' => u = .tuple [.float .f64 ((verdP s pn pi).getD 0), .bool (verdP s pn pi).isSome].toArray ∧ Chg [] w w' := by
 have hs0 := hs;obtain ⟨hs1, hs2, hs3, hs4, hs5, hs6⟩ := hs;have hch : Chg [] w w := Chg.refl _ _;refine zE2 Tryz.func92 rfl ?_;refine Sr fun _ kh1 => ?_;refine zBh rfl rfl rfl hch fun b2 wm2 hb2 hcm2 hge2 hgehch2 hch => ?_;refine zBh rfl rfl rfl hch fun b3 wm3 hb3 hcm3 hge3 hgehch3 hch => ?_;have hneb23 := zdd hb2.lt hge3;have hb2 := hb2.k0 hcm3;refine za rfl (za rfl (zz (kh1 (zc fun _ kh3 => Sr fun _ kh4 => zg hb2 rfl ?_))));refine WL.call hasF182 rfl rfl (mayBe_spec s _ hs0) fun v w1 h' => ?_;obtain ⟨rfl, hC9⟩ := h';have hch := hch.ta hC9;have hb2 := hb2.k0 hC9;have hb3 := hb3.k0 hC9;refine WL.ev (Ev.not rfl) rfl ?_;refine zm rfl ?_;refine zb ?_ ?_<;>intro hg1<;>try simp only [qs] at hg1
 ·have hMM : ¬ mayBeP s ∨ ¬ mayQ pn pi := .inl hg1
  refine zv rfl (zv rfl (zv rfl (zt rfl rfl (zz (kh4 ?_)))));refine CW.condT rfl ?_;refine Sr fun _ kh6 => za rfl (za rfl (zz (kh6 ?_)));refine zr (zr2 rfl rfl rfl ?_)
  first | (exfalso; omega) | (refine ⟨?_, hch⟩; unfold verdP; rw [if_pos hMM]; rfl) | (refine ⟨?_, hch⟩; unfold verdP; rw [if_neg hMM]; (repeat (first | rw [if_pos (by omega)] | rw [if_neg (by omega)])); rfl)
 ·have hM1 : mayBeP s := hg1
  refine zw rfl (zg hb3 rfl (zw rfl ?_));refine WL.call hasF99 rfl rfl (May_spec pn pi _) fun v w2 h' => ?_;obtain ⟨rfl, hC13⟩ := h';have hch := hch.ta hC13;have hb2 := hb2.k0 hC13;have hb3 := hb3.k0 hC13;refine zw rfl ?_;refine WL.ev (Ev.not rfl) rfl ?_;refine ze rfl rfl (zz (kh4 ?_));refine zy rfl ?_ ?_<;>intro hc2<;>try simp only [qs] at hc2
  ·have hMM : ¬ mayBeP s ∨ ¬ mayQ pn pi := .inr hc2
   refine Sr fun _ kh8 => za rfl (za rfl (zz (kh8 ?_)));refine zr (zr2 rfl rfl rfl ?_)
   first | (exfalso; omega) | (refine ⟨?_, hch⟩; unfold verdP; rw [if_pos hMM]; rfl) | (refine ⟨?_, hch⟩; unfold verdP; rw [if_neg hMM]; (repeat (first | rw [if_pos (by omega)] | rw [if_neg (by omega)])); rfl)
  ·have hMM : ¬ (¬ mayBeP s ∨ ¬ mayQ pn pi) := fun q => q.elim (fun z => z hM1) (fun z => z hc2);refine zkk ?_
   refine kh3 (zc fun _ kh10 => ?_);refine CW.regionSC hmix (by kernel_rfl) fun kR11 kr11 hdr => ?_;have hch := hch.ta hdr;have hb2 := hb2.k0 hdr;have hb3 := hb3.k0 hdr;refine WS.ev (Ev.fieldAddr rfl) rfl ?_;refine WS.ev (Ev.load rfl rfl (hb2.at_ rfl)) rfl ?_;refine WS.ev (Ev.gtr rfl rfl) rfl ?_;refine ym rfl ?_;refine WS.boolCase (fun hg3 => ?_) (fun hg3 => ?_)
   ·(try simp only [qs] at hg3);refine yw rfl ?_
    refine WS.ev (Ev.fieldAddr rfl) rfl ?_;refine yw rfl ?_;refine WS.ev (Ev.load rfl rfl (hb3.at_ rfl)) rfl ?_;refine yw rfl ?_;refine WS.ev (Ev.eql rfl rfl) rfl ?_;refine yt rfl rfl ?_;refine WS.ev (Ev.fieldAddr rfl) rfl ?_;refine WS.ev (Ev.load rfl rfl (hb2.at_ rfl)) rfl ?_;refine WS.ev (Ev.gtr rfl rfl) rfl ?_;refine ym rfl ?_;refine WS.boolCase (fun hg4 => ?_) (fun hg4 => ?_)
    ·(try simp only [qs] at hg4);refine yw rfl ?_
     refine WS.ev (Ev.fieldAddr rfl) rfl ?_;refine yw rfl ?_;refine WS.ev (Ev.load rfl rfl (hb3.at_ rfl)) rfl ?_;refine yw rfl ?_;refine WS.ev (Ev.eql rfl rfl) rfl ?_;refine yt rfl rfl (ya rfl (ya rfl ?_));refine WS.nil (kr11 _ _ ?_);refine kh10 (zc fun _ kh12 => ?_);refine CW.block ?_;refine zc fun _ kh13 => Sr fun _ kh14 => zf rfl (zl hb2 rfl rfl ?_);refine WL.ev (Ev.gtr rfl rfl) rfl ?_;refine zm rfl ?_;refine zb ?_ ?_<;>intro hg5<;>try simp only [qs] at hg5
     ·refine zw rfl (zf rfl (zw rfl (zl hb3 rfl rfl (zw rfl (zq rfl rfl (zt rfl rfl (za rfl (zz (kh14 ?_)))))))));refine zy rfl ?_ ?_<;>intro hc6<;>try simp only [qs] at hc6
      ·refine zkk ?_
       refine kh13 ?_;refine zy rfl ?_ ?_<;>intro hc7<;>try simp only [qs] at hc7
       ·refine Sr fun _ kh16 => ?_
        refine WL.call hasF97 rfl rfl (NaN_spec _) fun v w3 h' => ?_;obtain ⟨rfl, rfl⟩ := h';refine za rfl (za rfl (zz (kh16 ?_)));refine zr (zr2 rfl rfl rfl ?_)
        first | (exfalso; omega) | (refine ⟨?_, hch⟩; unfold verdP; rw [if_pos hMM]; rfl) | (refine ⟨?_, hch⟩; unfold verdP; rw [if_neg hMM]; (repeat (first | rw [if_pos (by omega)] | rw [if_neg (by omega)])); rfl)
       ·refine Sr fun _ kh18 => zm rfl (za rfl (zz (kh18 ?_)));refine zy rfl ?_ ?_<;>intro hc8<;>try simp only [qs] at hc8
        ·refine Sr fun _ kh20 => ?_
         refine WL.call hasF183 rfl rfl (Inf_spec 1 _) fun v w4 h' => ?_;obtain ⟨rfl, rfl⟩ := h';refine za rfl (za rfl (zz (kh20 ?_)));refine zr (zr2 rfl rfl rfl ?_)
         first | (exfalso; omega) | (refine ⟨?_, hch⟩; unfold verdP; rw [if_pos hMM]; rfl) | (refine ⟨?_, hch⟩; unfold verdP; rw [if_neg hMM]; (repeat (first | rw [if_pos (by omega)] | rw [if_neg (by omega)])); rfl)
        ·refine Sr fun _ kh22 => zm rfl (za rfl (zz (kh22 ?_)));refine zy rfl ?_ ?_<;>intro hc9<;>try simp only [qs] at hc9
         ·refine Sr fun _ kh24 => ?_
          refine WL.call hasF183 rfl rfl (Inf_spec (-1) _) fun v w5 h' => ?_;obtain ⟨rfl, rfl⟩ := h';refine za rfl (za rfl (zz (kh24 ?_)));refine zr (zr2 rfl rfl rfl ?_)
          first | (exfalso; omega) | (refine ⟨?_, hch⟩; unfold verdP; rw [if_pos hMM]; rfl) | (refine ⟨?_, hch⟩; unfold verdP; rw [if_neg hMM]; (repeat (first | rw [if_pos (by omega)] | rw [if_neg (by omega)])); rfl)
         ·refine zkk ?_
          refine kh12 (Sr fun _ kh26 => za rfl (za rfl (zz (kh26 ?_))));refine zr (zr2 rfl rfl rfl ?_)
          first | (exfalso; omega) | (refine ⟨?_, hch⟩; unfold verdP; rw [if_pos hMM]; rfl) | (refine ⟨?_, hch⟩; unfold verdP; rw [if_neg hMM]; (repeat (first | rw [if_pos (by omega)] | rw [if_neg (by omega)])); rfl)
      ·refine zR fun _ kr28 => ?_
       refine zm rfl (zm rfl ?_);refine zb ?_ ?_<;>intro hg10<;>try simp only [qs] at hg10
       ·refine zw rfl (zm rfl (zt rfl rfl (za rfl ?_)));refine WL.nil (kr28 _ _ _ (kh13 ?_));refine zy rfl ?_ ?_<;>intro hc11<;>try simp only [qs] at hc11
        ·refine Sr fun _ kh29 => ?_
         refine WL.call hasF97 rfl rfl (NaN_spec _) fun v w6 h' => ?_;obtain ⟨rfl, rfl⟩ := h';refine za rfl (za rfl (zz (kh29 ?_)));refine zr (zr2 rfl rfl rfl ?_)
         first | (exfalso; omega) | (refine ⟨?_, hch⟩; unfold verdP; rw [if_pos hMM]; rfl) | (refine ⟨?_, hch⟩; unfold verdP; rw [if_neg hMM]; (repeat (first | rw [if_pos (by omega)] | rw [if_neg (by omega)])); rfl)
        ·refine Sr fun _ kh31 => zm rfl (za rfl (zz (kh31 ?_)));refine zy rfl ?_ ?_<;>intro hc12<;>try simp only [qs] at hc12
         ·refine Sr fun _ kh33 => ?_
          refine WL.call hasF183 rfl rfl (Inf_spec 1 _) fun v w7 h' => ?_;obtain ⟨rfl, rfl⟩ := h';refine za rfl (za rfl (zz (kh33 ?_)));refine zr (zr2 rfl rfl rfl ?_)
          first | (exfalso; omega) | (refine ⟨?_, hch⟩; unfold verdP; rw [if_pos hMM]; rfl) | (refine ⟨?_, hch⟩; unfold verdP; rw [if_neg hMM]; (repeat (first | rw [if_pos (by omega)] | rw [if_neg (by omega)])); rfl)
         ·refine Sr fun _ kh35 => zm rfl (za rfl (zz (kh35 ?_)));refine zy rfl ?_ ?_<;>intro hc13<;>try simp only [qs] at hc13
          ·refine Sr fun _ kh37 => ?_
           refine WL.call hasF183 rfl rfl (Inf_spec (-1) _) fun v w8 h' => ?_;obtain ⟨rfl, rfl⟩ := h';refine za rfl (za rfl (zz (kh37 ?_)));refine zr (zr2 rfl rfl rfl ?_)
           first | (exfalso; omega) | (refine ⟨?_, hch⟩; unfold verdP; rw [if_pos hMM]; rfl) | (refine ⟨?_, hch⟩; unfold verdP; rw [if_neg hMM]; (repeat (first | rw [if_pos (by omega)] | rw [if_neg (by omega)])); rfl)
          ·refine zkk ?_
           refine kh12 (Sr fun _ kh39 => za rfl (za rfl (zz (kh39 ?_))));refine zr (zr2 rfl rfl rfl ?_)
           first | (exfalso; omega) | (refine ⟨?_, hch⟩; unfold verdP; rw [if_pos hMM]; rfl) | (refine ⟨?_, hch⟩; unfold verdP; rw [if_neg hMM]; (repeat (first | rw [if_pos (by omega)] | rw [if_neg (by omega)])); rfl)
       ·refine zv rfl (ze rfl rfl (za rfl ?_));refine WL.nil (kr28 _ _ _ (kh13 ?_));refine CW.condF rfl ?_
        refine Sr fun _ kh41 => zm rfl (za rfl (zz (kh41 ?_)));refine zy rfl ?_ ?_<;>intro hc14<;>try simp only [qs] at hc14
        ·refine Sr fun _ kh43 => ?_
         refine WL.call hasF183 rfl rfl (Inf_spec 1 _) fun v w9 h' => ?_;obtain ⟨rfl, rfl⟩ := h';refine za rfl (za rfl (zz (kh43 ?_)));refine zr (zr2 rfl rfl rfl ?_)
         first | (exfalso; omega) | (refine ⟨?_, hch⟩; unfold verdP; rw [if_pos hMM]; rfl) | (refine ⟨?_, hch⟩; unfold verdP; rw [if_neg hMM]; (repeat (first | rw [if_pos (by omega)] | rw [if_neg (by omega)])); rfl)
        ·refine Sr fun _ kh45 => zm rfl (za rfl (zz (kh45 ?_)));refine zy rfl ?_ ?_<;>intro hc15<;>try simp only [qs] at hc15
         ·refine Sr fun _ kh47 => ?_
          refine WL.call hasF183 rfl rfl (Inf_spec (-1) _) fun v w10 h' => ?_;obtain ⟨rfl, rfl⟩ := h';refine za rfl (za rfl (zz (kh47 ?_)));refine zr (zr2 rfl rfl rfl ?_)
          first | (exfalso; omega) | (refine ⟨?_, hch⟩; unfold verdP; rw [if_pos hMM]; rfl) | (refine ⟨?_, hch⟩; unfold verdP; rw [if_neg hMM]; (repeat (first | rw [if_pos (by omega)] | rw [if_neg (by omega)])); rfl)
         ·refine zkk ?_
          refine kh12 (Sr fun _ kh49 => za rfl (za rfl (zz (kh49 ?_))));refine zr (zr2 rfl rfl rfl ?_)
          first | (exfalso; omega) | (refine ⟨?_, hch⟩; unfold verdP; rw [if_pos hMM]; rfl) | (refine ⟨?_, hch⟩; unfold verdP; rw [if_neg hMM]; (repeat (first | rw [if_pos (by omega)] | rw [if_neg (by omega)])); rfl)
     ·refine zv rfl (zv rfl (zv rfl (ze rfl rfl (za rfl (zz (kh14 ?_))))));refine CW.condF rfl ?_
      refine zR fun _ kr51 => ?_;refine zm rfl (zm rfl ?_);refine zb ?_ ?_<;>intro hg16<;>try simp only [qs] at hg16
      ·refine zw rfl (zm rfl (zt rfl rfl (za rfl ?_)));refine WL.nil (kr51 _ _ _ (kh13 ?_));refine zy rfl ?_ ?_<;>intro hc17<;>try simp only [qs] at hc17
       ·refine Sr fun _ kh52 => ?_
        refine WL.call hasF97 rfl rfl (NaN_spec _) fun v w11 h' => ?_;obtain ⟨rfl, rfl⟩ := h';refine za rfl (za rfl (zz (kh52 ?_)));refine zr (zr2 rfl rfl rfl ?_)
        first | (exfalso; omega) | (refine ⟨?_, hch⟩; unfold verdP; rw [if_pos hMM]; rfl) | (refine ⟨?_, hch⟩; unfold verdP; rw [if_neg hMM]; (repeat (first | rw [if_pos (by omega)] | rw [if_neg (by omega)])); rfl)
       ·refine Sr fun _ kh54 => zm rfl (za rfl (zz (kh54 ?_)));refine zy rfl ?_ ?_<;>intro hc18<;>try simp only [qs] at hc18
        ·refine Sr fun _ kh56 => ?_
         refine WL.call hasF183 rfl rfl (Inf_spec 1 _) fun v w12 h' => ?_;obtain ⟨rfl, rfl⟩ := h';refine za rfl (za rfl (zz (kh56 ?_)));refine zr (zr2 rfl rfl rfl ?_)
         first | (exfalso; omega) | (refine ⟨?_, hch⟩; unfold verdP; rw [if_pos hMM]; rfl) | (refine ⟨?_, hch⟩; unfold verdP; rw [if_neg hMM]; (repeat (first | rw [if_pos (by omega)] | rw [if_neg (by omega)])); rfl)
        ·refine Sr fun _ kh58 => zm rfl (za rfl (zz (kh58 ?_)));refine zy rfl ?_ ?_<;>intro hc19<;>try simp only [qs] at hc19
         ·refine Sr fun _ kh60 => ?_
          refine WL.call hasF183 rfl rfl (Inf_spec (-1) _) fun v w13 h' => ?_;obtain ⟨rfl, rfl⟩ := h';refine za rfl (za rfl (zz (kh60 ?_)));refine zr (zr2 rfl rfl rfl ?_)
          first | (exfalso; omega) | (refine ⟨?_, hch⟩; unfold verdP; rw [if_pos hMM]; rfl) | (refine ⟨?_, hch⟩; unfold verdP; rw [if_neg hMM]; (repeat (first | rw [if_pos (by omega)] | rw [if_neg (by omega)])); rfl)
         ·refine zkk ?_
          refine kh12 (Sr fun _ kh62 => za rfl (za rfl (zz (kh62 ?_))));refine zr (zr2 rfl rfl rfl ?_)
          first | (exfalso; omega) | (refine ⟨?_, hch⟩; unfold verdP; rw [if_pos hMM]; rfl) | (refine ⟨?_, hch⟩; unfold verdP; rw [if_neg hMM]; (repeat (first | rw [if_pos (by omega)] | rw [if_neg (by omega)])); rfl)
      ·refine zv rfl (ze rfl rfl (za rfl ?_));refine WL.nil (kr51 _ _ _ (kh13 ?_));refine CW.condF rfl ?_
       refine Sr fun _ kh64 => zm rfl (za rfl (zz (kh64 ?_)));refine zy rfl ?_ ?_<;>intro hc20<;>try simp only [qs] at hc20
       ·refine Sr fun _ kh66 => ?_
        refine WL.call hasF183 rfl rfl (Inf_spec 1 _) fun v w14 h' => ?_;obtain ⟨rfl, rfl⟩ := h';refine za rfl (za rfl (zz (kh66 ?_)));refine zr (zr2 rfl rfl rfl ?_)
        first | (exfalso; omega) | (refine ⟨?_, hch⟩; unfold verdP; rw [if_pos hMM]; rfl) | (refine ⟨?_, hch⟩; unfold verdP; rw [if_neg hMM]; (repeat (first | rw [if_pos (by omega)] | rw [if_neg (by omega)])); rfl)
       ·refine Sr fun _ kh68 => zm rfl (za rfl (zz (kh68 ?_)));refine zy rfl ?_ ?_<;>intro hc21<;>try simp only [qs] at hc21
        ·refine Sr fun _ kh70 => ?_
         refine WL.call hasF183 rfl rfl (Inf_spec (-1) _) fun v w15 h' => ?_;obtain ⟨rfl, rfl⟩ := h';refine za rfl (za rfl (zz (kh70 ?_)));refine zr (zr2 rfl rfl rfl ?_)
         first | (exfalso; omega) | (refine ⟨?_, hch⟩; unfold verdP; rw [if_pos hMM]; rfl) | (refine ⟨?_, hch⟩; unfold verdP; rw [if_neg hMM]; (repeat (first | rw [if_pos (by omega)] | rw [if_neg (by omega)])); rfl)
        ·refine zkk ?_
         refine kh12 (Sr fun _ kh72 => za rfl (za rfl (zz (kh72 ?_))));refine zr (zr2 rfl rfl rfl ?_)
         first | (exfalso; omega) | (refine ⟨?_, hch⟩; unfold verdP; rw [if_pos hMM]; rfl) | (refine ⟨?_, hch⟩; unfold verdP; rw [if_neg hMM]; (repeat (first | rw [if_pos (by omega)] | rw [if_neg (by omega)])); rfl)
    ·(try simp only [qs] at hg4);refine yv rfl (yv rfl (yv rfl (ye rfl rfl (ya rfl (ya rfl ?_)))));refine WS.nil (kr11 _ _ ?_);refine kh10 (zc fun _ kh74 => ?_);refine CW.block ?_
     refine zc fun _ kh75 => Sr fun _ kh76 => zf rfl (zl hb2 rfl rfl ?_);refine WL.ev (Ev.gtr rfl rfl) rfl ?_;refine zm rfl ?_;refine zb ?_ ?_<;>intro hg22<;>try simp only [qs] at hg22
     ·refine zw rfl (zf rfl (zw rfl (zl hb3 rfl rfl (zw rfl (zq rfl rfl (zt rfl rfl (za rfl (zz (kh76 ?_)))))))));refine zy rfl ?_ ?_<;>intro hc23<;>try simp only [qs] at hc23
      ·refine zkk ?_
       refine kh75 ?_;refine zy rfl ?_ ?_<;>intro hc24<;>try simp only [qs] at hc24
       ·refine Sr fun _ kh78 => ?_
        refine WL.call hasF97 rfl rfl (NaN_spec _) fun v w16 h' => ?_;obtain ⟨rfl, rfl⟩ := h';refine za rfl (za rfl (zz (kh78 ?_)));refine zr (zr2 rfl rfl rfl ?_)
        first | (exfalso; omega) | (refine ⟨?_, hch⟩; unfold verdP; rw [if_pos hMM]; rfl) | (refine ⟨?_, hch⟩; unfold verdP; rw [if_neg hMM]; (repeat (first | rw [if_pos (by omega)] | rw [if_neg (by omega)])); rfl)
       ·refine Sr fun _ kh80 => zm rfl (za rfl (zz (kh80 ?_)));refine zy rfl ?_ ?_<;>intro hc25<;>try simp only [qs] at hc25
        ·refine Sr fun _ kh82 => ?_
         refine WL.call hasF183 rfl rfl (Inf_spec 1 _) fun v w17 h' => ?_;obtain ⟨rfl, rfl⟩ := h';refine za rfl (za rfl (zz (kh82 ?_)));refine zr (zr2 rfl rfl rfl ?_)
         first | (exfalso; omega) | (refine ⟨?_, hch⟩; unfold verdP; rw [if_pos hMM]; rfl) | (refine ⟨?_, hch⟩; unfold verdP; rw [if_neg hMM]; (repeat (first | rw [if_pos (by omega)] | rw [if_neg (by omega)])); rfl)
        ·refine Sr fun _ kh84 => zm rfl (za rfl (zz (kh84 ?_)));refine CW.condF rfl ?_
         refine zkk ?_;refine kh74 (Sr fun _ kh86 => za rfl (za rfl (zz (kh86 ?_))));refine zr (zr2 rfl rfl rfl ?_)
         first | (exfalso; omega) | (refine ⟨?_, hch⟩; unfold verdP; rw [if_pos hMM]; rfl) | (refine ⟨?_, hch⟩; unfold verdP; rw [if_neg hMM]; (repeat (first | rw [if_pos (by omega)] | rw [if_neg (by omega)])); rfl)
      ·refine zR fun _ kr88 => ?_
       refine zm rfl (zm rfl ?_);refine zb ?_ ?_<;>intro hg26<;>try simp only [qs] at hg26
       ·refine zw rfl (zm rfl (zt rfl rfl (za rfl ?_)));refine WL.nil (kr88 _ _ _ (kh75 ?_));refine CW.condF rfl ?_
        refine Sr fun _ kh89 => zm rfl (za rfl (zz (kh89 ?_)));refine zy rfl ?_ ?_<;>intro hc27<;>try simp only [qs] at hc27
        ·refine Sr fun _ kh91 => ?_
         refine WL.call hasF183 rfl rfl (Inf_spec 1 _) fun v w18 h' => ?_;obtain ⟨rfl, rfl⟩ := h';refine za rfl (za rfl (zz (kh91 ?_)));refine zr (zr2 rfl rfl rfl ?_)
         first | (exfalso; omega) | (refine ⟨?_, hch⟩; unfold verdP; rw [if_pos hMM]; rfl) | (refine ⟨?_, hch⟩; unfold verdP; rw [if_neg hMM]; (repeat (first | rw [if_pos (by omega)] | rw [if_neg (by omega)])); rfl)
        ·refine Sr fun _ kh93 => zm rfl (za rfl (zz (kh93 ?_)));refine CW.condF rfl ?_
         refine zkk ?_;refine kh74 (Sr fun _ kh95 => za rfl (za rfl (zz (kh95 ?_))));refine zr (zr2 rfl rfl rfl ?_)
         first | (exfalso; omega) | (refine ⟨?_, hch⟩; unfold verdP; rw [if_pos hMM]; rfl) | (refine ⟨?_, hch⟩; unfold verdP; rw [if_neg hMM]; (repeat (first | rw [if_pos (by omega)] | rw [if_neg (by omega)])); rfl)
       ·refine zv rfl (ze rfl rfl (za rfl ?_));refine WL.nil (kr88 _ _ _ (kh75 ?_));refine CW.condF rfl ?_
        refine Sr fun _ kh97 => zm rfl (za rfl (zz (kh97 ?_)));refine zy rfl ?_ ?_<;>intro hc28<;>try simp only [qs] at hc28
        ·refine Sr fun _ kh99 => ?_
         refine WL.call hasF183 rfl rfl (Inf_spec 1 _) fun v w19 h' => ?_;obtain ⟨rfl, rfl⟩ := h';refine za rfl (za rfl (zz (kh99 ?_)));refine zr (zr2 rfl rfl rfl ?_)
         first | (exfalso; omega) | (refine ⟨?_, hch⟩; unfold verdP; rw [if_pos hMM]; rfl) | (refine ⟨?_, hch⟩; unfold verdP; rw [if_neg hMM]; (repeat (first | rw [if_pos (by omega)] | rw [if_neg (by omega)])); rfl)
        ·refine Sr fun _ kh101 => zm rfl (za rfl (zz (kh101 ?_)));refine CW.condF rfl ?_
         refine zkk ?_;refine kh74 (Sr fun _ kh103 => za rfl (za rfl (zz (kh103 ?_))));refine zr (zr2 rfl rfl rfl ?_)
         first | (exfalso; omega) | (refine ⟨?_, hch⟩; unfold verdP; rw [if_pos hMM]; rfl) | (refine ⟨?_, hch⟩; unfold verdP; rw [if_neg hMM]; (repeat (first | rw [if_pos (by omega)] | rw [if_neg (by omega)])); rfl)
     ·refine zv rfl (zv rfl (zv rfl (ze rfl rfl (za rfl (zz (kh76 ?_))))));refine CW.condF rfl ?_
      refine zR fun _ kr105 => ?_;refine zm rfl (zm rfl ?_);refine zb ?_ ?_<;>intro hg29<;>try simp only [qs] at hg29
      ·refine zw rfl (zm rfl (zt rfl rfl (za rfl ?_)));refine WL.nil (kr105 _ _ _ (kh75 ?_));refine CW.condF rfl ?_
       refine Sr fun _ kh106 => zm rfl (za rfl (zz (kh106 ?_)));refine zy rfl ?_ ?_<;>intro hc30<;>try simp only [qs] at hc30
       ·refine Sr fun _ kh108 => ?_
        refine WL.call hasF183 rfl rfl (Inf_spec 1 _) fun v w20 h' => ?_;obtain ⟨rfl, rfl⟩ := h';refine za rfl (za rfl (zz (kh108 ?_)));refine zr (zr2 rfl rfl rfl ?_)
        first | (exfalso; omega) | (refine ⟨?_, hch⟩; unfold verdP; rw [if_pos hMM]; rfl) | (refine ⟨?_, hch⟩; unfold verdP; rw [if_neg hMM]; (repeat (first | rw [if_pos (by omega)] | rw [if_neg (by omega)])); rfl)
       ·refine Sr fun _ kh110 => zm rfl (za rfl (zz (kh110 ?_)));refine CW.condF rfl ?_
        refine zkk ?_;refine kh74 (Sr fun _ kh112 => za rfl (za rfl (zz (kh112 ?_))));refine zr (zr2 rfl rfl rfl ?_)
        first | (exfalso; omega) | (refine ⟨?_, hch⟩; unfold verdP; rw [if_pos hMM]; rfl) | (refine ⟨?_, hch⟩; unfold verdP; rw [if_neg hMM]; (repeat (first | rw [if_pos (by omega)] | rw [if_neg (by omega)])); rfl)
      ·refine zv rfl (ze rfl rfl (za rfl ?_));refine WL.nil (kr105 _ _ _ (kh75 ?_));refine CW.condF rfl ?_
       refine Sr fun _ kh114 => zm rfl (za rfl (zz (kh114 ?_)));refine zy rfl ?_ ?_<;>intro hc31<;>try simp only [qs] at hc31
       ·refine Sr fun _ kh116 => ?_
        refine WL.call hasF183 rfl rfl (Inf_spec 1 _) fun v w21 h' => ?_;obtain ⟨rfl, rfl⟩ := h';refine za rfl (za rfl (zz (kh116 ?_)));refine zr (zr2 rfl rfl rfl ?_)
        first | (exfalso; omega) | (refine ⟨?_, hch⟩; unfold verdP; rw [if_pos hMM]; rfl) | (refine ⟨?_, hch⟩; unfold verdP; rw [if_neg hMM]; (repeat (first | rw [if_pos (by omega)] | rw [if_neg (by omega)])); rfl)
       ·refine Sr fun _ kh118 => zm rfl (za rfl (zz (kh118 ?_)));refine CW.condF rfl ?_
        refine zkk ?_;refine kh74 (Sr fun _ kh120 => za rfl (za rfl (zz (kh120 ?_))));refine zr (zr2 rfl rfl rfl ?_)
        first | (exfalso; omega) | (refine ⟨?_, hch⟩; unfold verdP; rw [if_pos hMM]; rfl) | (refine ⟨?_, hch⟩; unfold verdP; rw [if_neg hMM]; (repeat (first | rw [if_pos (by omega)] | rw [if_neg (by omega)])); rfl)
   ·(try simp only [qs] at hg3);refine yv rfl (yv rfl (yv rfl (ye rfl rfl ?_)));refine WS.ev (Ev.fieldAddr rfl) rfl ?_
    refine WS.ev (Ev.load rfl rfl (hb2.at_ rfl)) rfl ?_;refine WS.ev (Ev.gtr rfl rfl) rfl ?_;refine ym rfl ?_;refine WS.boolCase (fun hg32 => ?_) (fun hg32 => ?_)
    ·(try simp only [qs] at hg32);refine yw rfl ?_
     refine WS.ev (Ev.fieldAddr rfl) rfl ?_;refine yw rfl ?_;refine WS.ev (Ev.load rfl rfl (hb3.at_ rfl)) rfl ?_;refine yw rfl ?_;refine WS.ev (Ev.eql rfl rfl) rfl ?_;refine yt rfl rfl (ya rfl (ya rfl ?_));refine WS.nil (kr11 _ _ ?_);refine kh10 (zc fun _ kh122 => ?_);refine CW.block ?_;refine zc fun _ kh123 => Sr fun _ kh124 => zf rfl (zl hb2 rfl rfl ?_);refine WL.ev (Ev.gtr rfl rfl) rfl ?_;refine zm rfl ?_;refine zb ?_ ?_<;>intro hg33<;>try simp only [qs] at hg33
     ·refine zw rfl (zf rfl (zw rfl (zl hb3 rfl rfl (zw rfl (zq rfl rfl (zt rfl rfl (za rfl (zz (kh124 ?_)))))))));refine zy rfl ?_ ?_<;>intro hc34<;>try simp only [qs] at hc34
      ·refine zkk ?_
       refine kh123 ?_;refine zy rfl ?_ ?_<;>intro hc35<;>try simp only [qs] at hc35
       ·refine Sr fun _ kh126 => ?_
        refine WL.call hasF97 rfl rfl (NaN_spec _) fun v w22 h' => ?_;obtain ⟨rfl, rfl⟩ := h';refine za rfl (za rfl (zz (kh126 ?_)));refine zr (zr2 rfl rfl rfl ?_)
        first | (exfalso; omega) | (refine ⟨?_, hch⟩; unfold verdP; rw [if_pos hMM]; rfl) | (refine ⟨?_, hch⟩; unfold verdP; rw [if_neg hMM]; (repeat (first | rw [if_pos (by omega)] | rw [if_neg (by omega)])); rfl)
       ·refine Sr fun _ kh128 => zm rfl (za rfl (zz (kh128 ?_)));refine CW.condF rfl ?_
        refine Sr fun _ kh130 => zm rfl (za rfl (zz (kh130 ?_)));refine zy rfl ?_ ?_<;>intro hc36<;>try simp only [qs] at hc36
        ·refine Sr fun _ kh132 => ?_
         refine WL.call hasF183 rfl rfl (Inf_spec (-1) _) fun v w23 h' => ?_;obtain ⟨rfl, rfl⟩ := h';refine za rfl (za rfl (zz (kh132 ?_)));refine zr (zr2 rfl rfl rfl ?_)
         first | (exfalso; omega) | (refine ⟨?_, hch⟩; unfold verdP; rw [if_pos hMM]; rfl) | (refine ⟨?_, hch⟩; unfold verdP; rw [if_neg hMM]; (repeat (first | rw [if_pos (by omega)] | rw [if_neg (by omega)])); rfl)
        ·refine zkk ?_
         refine kh122 (Sr fun _ kh134 => za rfl (za rfl (zz (kh134 ?_))));refine zr (zr2 rfl rfl rfl ?_)
         first | (exfalso; omega) | (refine ⟨?_, hch⟩; unfold verdP; rw [if_pos hMM]; rfl) | (refine ⟨?_, hch⟩; unfold verdP; rw [if_neg hMM]; (repeat (first | rw [if_pos (by omega)] | rw [if_neg (by omega)])); rfl)
      ·refine zR fun _ kr136 => ?_
       refine zm rfl (zm rfl (zv rfl (ze rfl rfl (za rfl ?_))));refine WL.nil (kr136 _ _ _ (kh123 ?_));refine CW.condF rfl ?_;refine Sr fun _ kh137 => zm rfl (za rfl (zz (kh137 ?_)));refine CW.condF rfl ?_;refine Sr fun _ kh139 => zm rfl (za rfl (zz (kh139 ?_)));refine zy rfl ?_ ?_<;>intro hc37<;>try simp only [qs] at hc37
       ·refine Sr fun _ kh141 => ?_
        refine WL.call hasF183 rfl rfl (Inf_spec (-1) _) fun v w24 h' => ?_;obtain ⟨rfl, rfl⟩ := h';refine za rfl (za rfl (zz (kh141 ?_)));refine zr (zr2 rfl rfl rfl ?_)
        first | (exfalso; omega) | (refine ⟨?_, hch⟩; unfold verdP; rw [if_pos hMM]; rfl) | (refine ⟨?_, hch⟩; unfold verdP; rw [if_neg hMM]; (repeat (first | rw [if_pos (by omega)] | rw [if_neg (by omega)])); rfl)
       ·refine zkk ?_
        refine kh122 (Sr fun _ kh143 => za rfl (za rfl (zz (kh143 ?_))));refine zr (zr2 rfl rfl rfl ?_)
        first | (exfalso; omega) | (refine ⟨?_, hch⟩; unfold verdP; rw [if_pos hMM]; rfl) | (refine ⟨?_, hch⟩; unfold verdP; rw [if_neg hMM]; (repeat (first | rw [if_pos (by omega)] | rw [if_neg (by omega)])); rfl)
     ·refine zv rfl (zv rfl (zv rfl (ze rfl rfl (za rfl (zz (kh124 ?_))))));refine CW.condF rfl ?_
      refine zR fun _ kr145 => ?_;refine zm rfl (zm rfl (zv rfl (ze rfl rfl (za rfl ?_))));refine WL.nil (kr145 _ _ _ (kh123 ?_));refine CW.condF rfl ?_;refine Sr fun _ kh146 => zm rfl (za rfl (zz (kh146 ?_)));refine CW.condF rfl ?_;refine Sr fun _ kh148 => zm rfl (za rfl (zz (kh148 ?_)));refine zy rfl ?_ ?_<;>intro hc38<;>try simp only [qs] at hc38
      ·refine Sr fun _ kh150 => ?_
       refine WL.call hasF183 rfl rfl (Inf_spec (-1) _) fun v w25 h' => ?_;obtain ⟨rfl, rfl⟩ := h';refine za rfl (za rfl (zz (kh150 ?_)));refine zr (zr2 rfl rfl rfl ?_)
       first | (exfalso; omega) | (refine ⟨?_, hch⟩; unfold verdP; rw [if_pos hMM]; rfl) | (refine ⟨?_, hch⟩; unfold verdP; rw [if_neg hMM]; (repeat (first | rw [if_pos (by omega)] | rw [if_neg (by omega)])); rfl)
      ·refine zkk ?_
       refine kh122 (Sr fun _ kh152 => za rfl (za rfl (zz (kh152 ?_))));refine zr (zr2 rfl rfl rfl ?_)
       first | (exfalso; omega) | (refine ⟨?_, hch⟩; unfold verdP; rw [if_pos hMM]; rfl) | (refine ⟨?_, hch⟩; unfold verdP; rw [if_neg hMM]; (repeat (first | rw [if_pos (by omega)] | rw [if_neg (by omega)])); rfl)
    ·(try simp only [qs] at hg32);refine yv rfl (yv rfl (yv rfl (ye rfl rfl (ya rfl (ya rfl ?_)))));refine WS.nil (kr11 _ _ ?_);refine kh10 (zc fun _ kh154 => ?_);refine CW.block ?_
     refine zc fun _ kh155 => Sr fun _ kh156 => zf rfl (zl hb2 rfl rfl ?_);refine WL.ev (Ev.gtr rfl rfl) rfl ?_;refine zm rfl ?_;refine zb ?_ ?_<;>intro hg39<;>try simp only [qs] at hg39
     ·refine zw rfl (zf rfl (zw rfl (zl hb3 rfl rfl (zw rfl (zq rfl rfl (zt rfl rfl (za rfl (zz (kh156 ?_)))))))));refine zy rfl ?_ ?_<;>intro hc40<;>try simp only [qs] at hc40
      ·refine zkk ?_
       refine kh155 ?_;refine zy rfl ?_ ?_<;>intro hc41<;>try simp only [qs] at hc41
       ·refine Sr fun _ kh158 => ?_
        refine WL.call hasF97 rfl rfl (NaN_spec _) fun v w26 h' => ?_;obtain ⟨rfl, rfl⟩ := h';refine za rfl (za rfl (zz (kh158 ?_)));refine zr (zr2 rfl rfl rfl ?_)
        first | (exfalso; omega) | (refine ⟨?_, hch⟩; unfold verdP; rw [if_pos hMM]; rfl) | (refine ⟨?_, hch⟩; unfold verdP; rw [if_neg hMM]; (repeat (first | rw [if_pos (by omega)] | rw [if_neg (by omega)])); rfl)
       ·refine Sr fun _ kh160 => zm rfl (za rfl (zz (kh160 ?_)));refine CW.condF rfl ?_
        refine Sr fun _ kh162 => zm rfl (za rfl (zz (kh162 ?_)));refine CW.condF rfl ?_;refine zkk ?_;refine kh154 (Sr fun _ kh164 => za rfl (za rfl (zz (kh164 ?_))));refine zr (zr2 rfl rfl rfl ?_)
        first | (exfalso; omega) | (refine ⟨?_, hch⟩; unfold verdP; rw [if_pos hMM]; rfl) | (refine ⟨?_, hch⟩; unfold verdP; rw [if_neg hMM]; (repeat (first | rw [if_pos (by omega)] | rw [if_neg (by omega)])); rfl)
      ·refine zR fun _ kr166 => ?_
       refine zm rfl (zm rfl (zv rfl (ze rfl rfl (za rfl ?_))));refine WL.nil (kr166 _ _ _ (kh155 ?_));refine CW.condF rfl ?_;refine Sr fun _ kh167 => zm rfl (za rfl (zz (kh167 ?_)));refine CW.condF rfl ?_;refine Sr fun _ kh169 => zm rfl (za rfl (zz (kh169 ?_)));refine CW.condF rfl ?_;refine zkk ?_;refine kh154 (Sr fun _ kh171 => za rfl (za rfl (zz (kh171 ?_))));refine zr (zr2 rfl rfl rfl ?_)
       first | (exfalso; omega) | (refine ⟨?_, hch⟩; unfold verdP; rw [if_pos hMM]; rfl) | (refine ⟨?_, hch⟩; unfold verdP; rw [if_neg hMM]; (repeat (first | rw [if_pos (by omega)] | rw [if_neg (by omega)])); rfl)
     ·refine zv rfl (zv rfl (zv rfl (ze rfl rfl (za rfl (zz (kh156 ?_))))));refine CW.condF rfl ?_
      refine zR fun _ kr173 => ?_;refine zm rfl (zm rfl (zv rfl (ze rfl rfl (za rfl ?_))));refine WL.nil (kr173 _ _ _ (kh155 ?_));refine CW.condF rfl ?_;refine Sr fun _ kh174 => zm rfl (za rfl (zz (kh174 ?_)));refine CW.condF rfl ?_;refine Sr fun _ kh176 => zm rfl (za rfl (zz (kh176 ?_)));refine CW.condF rfl ?_;refine zkk ?_;refine kh154 (Sr fun _ kh178 => za rfl (za rfl (zz (kh178 ?_))));refine zr (zr2 rfl rfl rfl ?_)
      first | (exfalso; omega) | (refine ⟨?_, hch⟩; unfold verdP; rw [if_pos hMM]; rfl) | (refine ⟨?_, hch⟩; unfold verdP; rw [if_neg hMM]; (repeat (first | rw [if_pos (by omega)] | rw [if_neg (by omega)])); rfl)

theorem Nought_spec (s : SP) (mode : Int) (w : World) (hs : s.le 1000000000000000) : Ret Tryz.prog 94 [.agg [.int .i64 (s.na : Int), .int .i64 (s.up : Int), .int .i64 (s.dn : Int), .int .i64 (s.mi : Int), .int .i64 (s.pl : Int), .int .i64 (s.al : Int)].toArray, .int .i64 mode] w fun u w' => u = .float .f64 (noughtP s mode) ∧ Chg [] w w' := by
 have hs0 := hs;obtain ⟨hs1, hs2, hs3, hs4, hs5, hs6⟩ := hs;have hch : Chg [] w w := Chg.refl _ _;refine zE2 Tryz.func94 rfl ?_;refine Sr fun _ kh1 => ?_;refine zBh rfl rfl rfl hch fun b2 wm2 hb2 hcm2 hge2 hgehch2 hch => ?_;refine za rfl (zz (kh1 (Sr fun _ kh3 => zf rfl (zl hb2 rfl rfl (zf rfl (zl hb2 rfl rfl ?_))))))
 first | refine WL.ev (Ev.subIn rfl rfl (by omega)) rfl ?_ | refine WL.ev (Ev.sub rfl rfl) rfl ?_
 refine zf rfl (zl hb2 rfl rfl ?_)
 first | refine WL.ev (Ev.subIn rfl rfl (by omega)) rfl ?_ | refine WL.ev (Ev.sub rfl rfl) rfl ?_
 refine zf rfl (zl hb2 rfl rfl ?_)
 first | refine WL.ev (Ev.subIn rfl rfl (by omega)) rfl ?_ | refine WL.ev (Ev.sub rfl rfl) rfl ?_
 refine za rfl (zz (kh3 (zc fun _ kh5 => Sr fun _ kh6 => zg hb2 rfl ?_)));refine WL.call hasF182 rfl rfl (mayBe_spec s _ hs0) fun v w1 h' => ?_;obtain ⟨rfl, hC18⟩ := h';have hch := hch.ta hC18;have hb2 := hb2.k0 hC18;refine zm rfl ?_;refine zb ?_ ?_<;>intro hg1<;>try simp only [qs] at hg1
 ·have hMM : mayBeP s := hg1
  refine zw rfl (zm rfl (zw rfl ?_));refine WL.ev (Ev.gtr rfl rfl) rfl ?_;refine zt rfl rfl (zm rfl ?_);refine zb ?_ ?_<;>intro hg2<;>try simp only [qs] at hg2
  ·refine zw rfl (zf rfl (zw rfl (zl hb2 rfl rfl (zw rfl (zm rfl (zw rfl (zq rfl rfl (zw rfl (zm rfl ?_)))))))));refine zb ?_ ?_<;>intro hg3<;>try simp only [qs] at hg3
   ·refine zv rfl (zv rfl (zv rfl (zv rfl (zv rfl (zu rfl (zu rfl (zv rfl (zw rfl (zt rfl rfl (zt rfl rfl (zz (kh6 ?_))))))))))));refine CW.condT rfl ?_
    refine Sr fun _ kh8 => ?_;refine WL.call hasF185 rfl rfl (Copysign_spec _) fun v w2 h' => ?_;obtain ⟨rfl, rfl⟩ := h';refine za rfl (zz (kh8 ?_));refine zr (zr1 rfl rfl ?_);refine ⟨?_, hch⟩;unfold noughtP
    first | (have qM : ¬ mayBeP s := hMM; rw [if_neg (fun q => qM q.1)]; done) | ((have qM : mayBeP s := hMM); (have qY : s.na + s.up + s.dn < s.al := by omega); (have qX : s.mi + s.na + s.up + s.dn = s.al ∨ s.pl + s.na + s.up + s.dn < s.al ∧ mode = 3 := by (first | exact .inl (by omega) | exact .inr ⟨by omega, by omega⟩)); rw [if_pos ⟨qM, qY, qX⟩]; done) | (rw [if_neg (fun q => by have q2 := q.2; omega)]; done)
   ·refine zw rfl (zf rfl (zw rfl (zl hb2 rfl rfl (zw rfl (zm rfl (zw rfl ?_))))));refine WL.ev (Ev.lss rfl rfl) rfl ?_
    refine zw rfl (zm rfl ?_);refine zb ?_ ?_<;>intro hg4<;>try simp only [qs] at hg4
    ·refine zw rfl (zm rfl (zw rfl (zq rfl rfl (zw rfl (zt rfl rfl (zw rfl (ze rfl rfl (zt rfl rfl (zz (kh6 ?_))))))))));refine zy rfl ?_ ?_<;>intro hc5<;>try simp only [qs] at hc5
     ·refine Sr fun _ kh10 => ?_
      refine WL.call hasF185 rfl rfl (Copysign_spec _) fun v w3 h' => ?_;obtain ⟨rfl, rfl⟩ := h';refine za rfl (zz (kh10 ?_));refine zr (zr1 rfl rfl ?_);refine ⟨?_, hch⟩;unfold noughtP
      first | (have qM : ¬ mayBeP s := hMM; rw [if_neg (fun q => qM q.1)]; done) | ((have qM : mayBeP s := hMM); (have qY : s.na + s.up + s.dn < s.al := by omega); (have qX : s.mi + s.na + s.up + s.dn = s.al ∨ s.pl + s.na + s.up + s.dn < s.al ∧ mode = 3 := by (first | exact .inl (by omega) | exact .inr ⟨by omega, by omega⟩)); rw [if_pos ⟨qM, qY, qX⟩]; done) | (rw [if_neg (fun q => by have q2 := q.2; omega)]; done)
     ·refine zkk ?_
      refine kh5 (Sr fun _ kh12 => za rfl (zz (kh12 ?_)));refine zr (zr1 rfl rfl ?_);refine ⟨?_, hch⟩;unfold noughtP
      first | (have qM : ¬ mayBeP s := hMM; rw [if_neg (fun q => qM q.1)]; done) | ((have qM : mayBeP s := hMM); (have qY : s.na + s.up + s.dn < s.al := by omega); (have qX : s.mi + s.na + s.up + s.dn = s.al ∨ s.pl + s.na + s.up + s.dn < s.al ∧ mode = 3 := by (first | exact .inl (by omega) | exact .inr ⟨by omega, by omega⟩)); rw [if_pos ⟨qM, qY, qX⟩]; done) | (rw [if_neg (fun q => by have q2 := q.2; omega)]; done)
    ·refine zv rfl (zv rfl (zw rfl (ze rfl rfl (zw rfl (ze rfl rfl (zt rfl rfl (zz (kh6 ?_))))))));refine CW.condF rfl ?_
     refine zkk ?_;refine kh5 (Sr fun _ kh14 => za rfl (zz (kh14 ?_)));refine zr (zr1 rfl rfl ?_);refine ⟨?_, hch⟩;unfold noughtP
     first | (have qM : ¬ mayBeP s := hMM; rw [if_neg (fun q => qM q.1)]; done) | ((have qM : mayBeP s := hMM); (have qY : s.na + s.up + s.dn < s.al := by omega); (have qX : s.mi + s.na + s.up + s.dn = s.al ∨ s.pl + s.na + s.up + s.dn < s.al ∧ mode = 3 := by (first | exact .inl (by omega) | exact .inr ⟨by omega, by omega⟩)); rw [if_pos ⟨qM, qY, qX⟩]; done) | (rw [if_neg (fun q => by have q2 := q.2; omega)]; done)
  ·refine zv rfl (zv rfl (zv rfl (zv rfl (zv rfl (zu rfl (zu rfl (zu rfl (zu rfl (zu rfl (zu rfl (zu rfl (zu rfl (zv rfl (ze rfl rfl (zz (kh6 ?_))))))))))))))));refine CW.condF rfl ?_
   refine zkk ?_;refine kh5 (Sr fun _ kh16 => za rfl (zz (kh16 ?_)));refine zr (zr1 rfl rfl ?_);refine ⟨?_, hch⟩;unfold noughtP
   first | (have qM : ¬ mayBeP s := hMM; rw [if_neg (fun q => qM q.1)]; done) | ((have qM : mayBeP s := hMM); (have qY : s.na + s.up + s.dn < s.al := by omega); (have qX : s.mi + s.na + s.up + s.dn = s.al ∨ s.pl + s.na + s.up + s.dn < s.al ∧ mode = 3 := by (first | exact .inl (by omega) | exact .inr ⟨by omega, by omega⟩)); rw [if_pos ⟨qM, qY, qX⟩]; done) | (rw [if_neg (fun q => by have q2 := q.2; omega)]; done)
 ·have hMM : ¬ mayBeP s := hg1
  refine zv rfl (zv rfl (ze rfl rfl (zm rfl (zv rfl (zv rfl (zv rfl (zv rfl (zv rfl (zu rfl (zu rfl (zu rfl (zu rfl (zu rfl (zu rfl (zu rfl (zu rfl (zv rfl (ze rfl rfl (zz (kh6 ?_))))))))))))))))))));refine CW.condF rfl ?_;refine zkk ?_;refine kh5 (Sr fun _ kh18 => za rfl (zz (kh18 ?_)));refine zr (zr1 rfl rfl ?_);refine ⟨?_, hch⟩;unfold noughtP
  first | (have qM : ¬ mayBeP s := hMM; rw [if_neg (fun q => qM q.1)]; done) | ((have qM : mayBeP s := hMM); (have qY : s.na + s.up + s.dn < s.al := by omega); (have qX : s.mi + s.na + s.up + s.dn = s.al ∨ s.pl + s.na + s.up + s.dn < s.al ∧ mode = 3 := by (first | exact .inl (by omega) | exact .inr ⟨by omega, by omega⟩)); rw [if_pos ⟨qM, qY, qX⟩]; done) | (rw [if_neg (fun q => by have q2 := q.2; omega)]; done)

end

/- Package policy: Sift. No condition. -/
section
open Go Sx Wd

/-- A slice of numbers of 64 bits that reads as l. -/
structure NF (w : World) (v : Value) (l : List Nat) : Prop where
  ex : ∃ a c, v = .slice a l.length c ∧ l.length ≤ c ∧ RW w a (l.map f64v)
  hw : ∀ x ∈ l, x < 18446744073709551616
  len : l.length ≤ 70368744177664
theorem NF.keep0 {w w' : World} {v : Value} {l : List Nat} (h : NF w v l) (hc : Chg [] w w') : NF w' v l := by
  obtain ⟨⟨a, c, h1, h2, h3⟩, h4, h5⟩ := h
  exact ⟨⟨a, c, h1, h2, h3.keep0 hc⟩, h4, h5⟩
theorem NF.part {w : World} {a : Option Addr} {l : List Nat} {k c : Nat} (h : RW w a (l.map f64v)) (hw : ∀ x ∈ l.take k, x < 18446744073709551616) (hl : l.length ≤ 70368744177664) (hk : k ≤ l.length) (hc : k ≤ c) : NF w (.slice a k c) (l.take k) := by
  have e : (l.take k).length = k := by rw [List.length_take]; omega
  refine ⟨⟨a, c, by rw [e], by omega, ?_⟩, hw, by omega⟩
  rw [List.map_take]
  exact h.take k
theorem D_getD {l : List Nat} (h : ∀ x ∈ l, x < 18446744073709551616) (i : Nat) : l.getD i 0 < 18446744073709551616 := by
  rw [List.getD_eq_getElem?_getD]
  cases q : l[i]? with
  | none => simp
  | some x => exact h x (List.mem_of_getElem? q)
def finP (x : Nat) : Bool := decide (kindP x ≤ 2)
def filP (l : List Nat) : List Nat := l.filter finP
def cntP (l : List Nat) : SP := l.foldl (fun s x => countP s (kindP x)) SP.zero
def siftE (l : List Nat) (pn pi : Int) : Int :=
  if ¬ mayQ pn pi then 1 else if 65536 < l.length then 2 else if 0 < (cntP l).na ∧ pn = 2 then 60 else if 0 < (cntP l).up + (cntP l).dn ∧ pi = 2 then 61 else 0
theorem take_step {l : List Nat} {i : Nat} (h : i < l.length) : l.take (i + 1) = l.take i ++ [l.getD i 0] := by
  rw [List.take_add_one, List.getD_eq_getElem?_getD, List.getElem?_eq_getElem h]; rfl
theorem cntP_step {l : List Nat} {i : Nat} (h : i < l.length) : cntP (l.take (i + 1)) = countP (cntP (l.take i)) (kindP (l.getD i 0)) := by
  unfold cntP; rw [take_step h, List.foldl_append]; rfl
theorem cntP_le : ∀ (l : List Nat) (s : SP) (n : Nat), s.le n → (l.foldl (fun s x => countP s (kindP x)) s).le (n + l.length)
  | [], s, n, h => h
  | x :: l, s, n, h => by
    have := cntP_le l (countP s (kindP x)) (n + 1) (countP.le h)
    simpa [Nat.add_assoc, Nat.add_comm 1] using this
theorem cnt_le (l : List Nat) : (cntP l).le l.length := by
  have := cntP_le l SP.zero 0 (by refine ⟨?_, ?_, ?_, ?_, ?_, ?_⟩ <;> exact Nat.zero_le _)
  rw [Nat.zero_add] at this; exact this
theorem SP.le.mono {s : SP} {n m : Nat} (h : s.le n) (hm : n ≤ m) : s.le m := by
  obtain ⟨a, b, c, d, e, f⟩ := h
  exact ⟨by omega, by omega, by omega, by omega, by omega, by omega⟩
theorem filP_step {l : List Nat} {i : Nat} (h : i < l.length) : filP (l.take (i + 1)) = if kindP (l.getD i 0) ≤ 2 then filP (l.take i) ++ [l.getD i 0] else filP (l.take i) := by
  unfold filP
  rw [take_step h, List.filter_append, List.filter_cons]
  simp only [finP, decide_eq_true_eq, List.filter_nil]
  split <;> simp
theorem filP_len (l : List Nat) (i : Nat) : (filP (l.take i)).length ≤ i := by
  unfold filP
  have := List.length_filter_le finP (l.take i)
  rw [List.length_take] at this
  omega
theorem set_take {L : List Nat} {m v : Nat} (h : m < L.length) : (L.set m v).take (m + 1) = L.take m ++ [v] := by
  rw [List.take_add_one, List.take_set_of_le (Nat.le_refl _), List.getElem?_set_self h]; rfl

structure KSift (l : List Nat) (pn pi : Int) (w0 : World) (b3 b5 b7 b23 : Nat) (g : Nat × List Nat) (w : World) : Prop where
  le : g.1 ≤ l.length
  len : g.2.length = l.length
  tk : g.2.take (filP (l.take g.1)).length = filP (l.take g.1)
  h3 : BK w b3 34 [.int .i64 pn, .int .i64 pi]
  h5 : BK w b5 103 [.int .i64 0, .int .i64 0, .int .i64 0, .int .i64 0, .int .i64 0, .int .i64 0]
  h7 : BK w b7 103 (cntP (l.take g.1)).cells
  hF : FB w b23 31 g.2
  ch : Chg [] w0 w

theorem Sift_spec (v : Value) (l : List Nat) (pn pi : Int) (w : World) (hv : NF w v l) : Ret Tryz.prog 105 [v, .agg [.int .i64 pn, .int .i64 pi].toArray] w fun u w' => (siftE l pn pi ≠ 0 ∧ u = .tuple [.slice none 0 0, .agg SP.zero.cells.toArray, .int .i64 (siftE l pn pi)].toArray ∧ Chg [] w w') ∨ (siftE l pn pi = 0 ∧ ∃ v2, NF w' v2 (filP l) ∧ u = .tuple [v2, .agg (cntP l).cells.toArray, .int .i64 0].toArray ∧ Chg [] w w') := by
 obtain ⟨⟨al, cl, rfl, hcapl, hrl⟩, hWl, hll⟩ := hv;have hch : Chg [] w w := Chg.refl _ _;refine zE2 Tryz.func105 rfl ?_;refine Sr fun _ kh1 => ?_;refine zBh rfl rfl rfl hch fun b3 wm3 hb3 hcm3 hge3 hgehch3 hch => ?_;refine za rfl ?_;refine WL.allocB (l := [.int .i64 0, .int .i64 0, .int .i64 0, .int .i64 0, .int .i64 0, .int .i64 0]) rfl rfl fun b5 wm5 hb5 hcm5 hge5 => ?_;have hgehch5 := Nat.le_trans hch.size hge5;have hch := hch.ta hcm5;have hneb35 := zdd hb3.lt hge5;have hb3 := hb3.k0 hcm5;refine za rfl (zz (kh1 (Sr fun _ kh3 => ?_)));refine WL.allocB (l := [.int .i64 0, .int .i64 0, .int .i64 0, .int .i64 0, .int .i64 0, .int .i64 0]) rfl rfl fun b7 wm7 hb7 hcm7 hge7 => ?_;have hgehch7 := Nat.le_trans hch.size hge7;have hch := hch.ta hcm7;have hneb37 := zdd hb3.lt hge7;have hb3 := hb3.k0 hcm7;have hneb57 := zdd hb5.lt hge7;have hb5 := hb5.k0 hcm7;refine zz (kh3 (zc fun _ kh5 => ?_));refine CW.block ?_;refine Sr fun _ kh6 => zg hb3 rfl ?_;refine WL.call hasF99 rfl rfl (May_spec pn pi _) fun v w1 h' => ?_;obtain ⟨rfl, hC13⟩ := h';have hch := hch.ta hC13;have hb3 := hb3.k0 hC13;have hb5 := hb5.k0 hC13;have hb7 := hb7.k0 hC13;refine WL.ev (Ev.not rfl) rfl ?_;refine za rfl (zz (kh6 ?_));refine zy rfl ?_ ?_<;>intro hc1<;>try simp only [qs] at hc1
 ·have hM : ¬ mayQ pn pi := hc1
  refine zc fun _ kh8 => ?_;refine CW.regionKC 2 4 rfl hmix fun kR9 kr9 hS hdr => ?_;have hch := hch.ta hdr;have hb5 := hb5.k0 hdr;have hb7 := hb7.k0 hdr;have hb7_r := hb7;refine wk 0 rfl hS (fun _ hw' => Ev.loadA rfl rfl (hb7_r.keep0 hw') rfl) (wk 1 rfl hS (fun _ _ => Ev.assign rfl) ?_);refine WK.storeB 2 rfl (by kernel_rfl) (by kernel_rfl) rfl rfl rfl ao hb5 (by simp) rfl fun ws16 hb5_ hcs16 => ?_;(try simp only [Sx.splice, qt] at hb5_);have hch := hch.s1 hcs16;have hb5 := hb5_;refine WK.after 3 rfl (by kernel_rfl) (by kernel_rfl) (Ev.assign rfl) rfl ?_;refine WK.done (by kernel_rfl) (kr9 _ _ _ ?_);refine kh8 ?_;refine zr (bodyA.retR3 rfl (RVal.tmp rfl) (RVal.cell rfl (hb5.varA rfl rfl)) (RVal.tmp rfl) ?_);exact .inl ⟨by unfold siftE; rw [if_pos hM]; decide, by unfold siftE; rw [if_pos hM]; rfl, hch⟩
 ·have hM : ¬ ¬ mayQ pn pi := fun q => q hc1
  refine Sr fun _ kh10 => zm rfl (zn rfl ?_);refine WL.ev (Ev.gtr rfl rfl) rfl ?_;refine za rfl (zz (kh10 ?_));refine zy rfl ?_ ?_<;>intro hc2<;>try simp only [qs] at hc2
  ·have hL : 65536 < l.length := by omega
   refine zc fun _ kh12 => ?_;refine CW.regionKC 2 4 rfl hmix fun kR13 kr13 hS hdr => ?_;have hch := hch.ta hdr;have hb5 := hb5.k0 hdr;have hb7 := hb7.k0 hdr;have hb7_r := hb7;refine wk 0 rfl hS (fun _ hw' => Ev.loadA rfl rfl (hb7_r.keep0 hw') rfl) (wk 1 rfl hS (fun _ _ => Ev.assign rfl) ?_);refine WK.storeB 2 rfl (by kernel_rfl) (by kernel_rfl) rfl rfl rfl ao hb5 (by simp) rfl fun ws17 hb5_ hcs17 => ?_;(try simp only [Sx.splice, qt] at hb5_);have hch := hch.s1 hcs17;have hb5 := hb5_;refine WK.after 3 rfl (by kernel_rfl) (by kernel_rfl) (Ev.assign rfl) rfl ?_;refine WK.done (by kernel_rfl) (kr13 _ _ _ ?_);refine kh12 ?_;refine zr (bodyA.retR3 rfl (RVal.tmp rfl) (RVal.cell rfl (hb5.varA rfl rfl)) (RVal.tmp rfl) ?_);exact .inl ⟨by unfold siftE; rw [if_neg hM, if_pos hL]; decide, by unfold siftE; rw [if_neg hM, if_pos hL]; rfl, hch⟩
  ·have hL : ¬ 65536 < l.length := by omega
   refine zkk ?_;refine kh5 (Sr fun _ kh14 => zm rfl (zn rfl ?_));refine WL.makeF (0) ((l).length) rfl rfl (by omega) (by omega) (by omega) (by omega) (by omega) rfl fun b23 wm23 hb23 hcm23 hge23 => ?_;have hgehch23 := Nat.le_trans hch.size hge23;have hch := hch.ta hcm23;have hneb323 := zdd hb3.lt hge23;have hb3 := hb3.k0 hcm23;have hneb523 := zdd hb5.lt hge23;have hb5 := hb5.k0 hcm23;have hneb723 := zdd hb7.lt hge23;have hb7 := hb7.k0 hcm23;refine za rfl (zz (kh14 (zc fun _ kh16 => Sr fun _ kh17 => zm rfl (zn rfl (zm rfl (zz (kh17 ?_)))))));refine CW.block ?_;refine CW.loop (S := fun g : Nat × List Nat => [(0, .slice al l.length cl), (3, .pointer (some ⟨b3, 0, none⟩)), (4, .slice none 0 0), (5, .pointer (some ⟨b5, 0, none⟩)), (6, .int .i64 0), (7, .pointer (some ⟨b7, 0, none⟩)), (8, .slice (some ⟨b23, 0, none⟩) (filP (l.take g.1)).length l.length), (25, .int .i64 (l.length : Int)), (26, .int .i64 (g.1 : Int))]) (Inv := KSift l pn pi w b3 b5 b7 b23) (mu := fun g => l.length - g.1) ((0, List.replicate l.length 0)) ?_ ?_ ?_
   ·exact ⟨Nat.zero_le _, by simp, by simp [filP], hb3, hb5, hb7, hb23, hch⟩
   ·exact SLp
   ·rintro ⟨i, L⟩ wr ⟨hi1, hLl, htk, hb3, hb5, hb7, hb23, hch⟩;dsimp only at hi1 hLl htk hb3 hb5 hb7 hb23 hch;dsimp only;have hfl := filP_len l i;have hx64 := D_getD hWl i;have hcle := (cnt_le (l.take i)).mono (m := 65536) (by rw [List.length_take]; omega);refine Sr fun _ kh19 => ?_;refine WL.ev (Ev.lss rfl rfl) rfl ?_;refine zz (kh19 (zc fun _ kh21 => ?_));refine zy rfl ?_ ?_<;>intro hc3<;>try simp only [qs] at hc3
    ·refine zkk ?_
     refine kh21 (zc fun _ kh22 => ?_);refine CW.block ?_;refine Sr fun _ kh23 => zm rfl (za rfl (zz (kh23 (Sr fun _ kh25 => zm rfl (zm rfl ?_)))));refine WL.ev (Ev.ixR (i) rfl rfl (hrl.keep0 hch) (by omega) (by omega) (by simp; omega)) rfl ?_;refine WL.ev (Ev.load rfl rfl ((hrl.keep0 hch).f64 (by first | omega | (simp; omega)))) rfl ?_;refine WL.call hasF195 rfl rfl (kind_spec (l.getD i 0) _ hx64) fun v w2 h' => ?_;obtain ⟨rfl, hC33⟩ := h';have hch := hch.ta hC33;have hb3 := hb3.k0 hC33;have hb5 := hb5.k0 hC33;have hb7 := hb7.k0 hC33;have hb23 := hb23.k0 hC33;refine za rfl (zz (kh25 (Sr fun _ kh27 => zm rfl ?_)));refine WL.call hasF196 rfl rfl (count_spec b7 (kindP (l.getD i 0)) (cntP (l.take i)) _ hb7 (hcle.mono (by decide))) fun v w3 h' => ?_;obtain ⟨hb7_, hC35⟩ := h';have hch := hch.step hC35 (fun y hy => by simp only [List.mem_singleton] at hy; subst hy; exact .inr (by omega));have hb3 := hb3.keep hC35 (by simp; try omega);have hb5 := hb5.keep hC35 (by simp; try omega);have hb23 := hb23.keep hC35 (by simp; try omega);have hb7 := hb7_;rw [← cntP_step (by omega)] at hb7;refine zz (kh27 (Sr fun _ kh29 => zm rfl ?_));refine WL.ev (Ev.leq rfl rfl) rfl ?_;refine zz (kh29 ?_);refine zy rfl ?_ ?_<;>intro hc4<;>try simp only [qs] at hc4
     ·have hk2 : kindP (l.getD i 0) ≤ 2 := by omega
      refine zR fun _ kr31 => ?_;refine zm rfl (zm rfl (zm rfl ?_));refine WL.ev (Ev.ixR (i) rfl rfl (hrl.keep0 hch) (by omega) (by omega) (by simp; omega)) rfl ?_;refine WL.ev (Ev.load rfl rfl ((hrl.keep0 hch).f64 (by first | omega | (simp; omega)))) rfl ?_;refine WL.buildSlice (m := 1) (cs := [f64v (l.getD i 0)]) (by decide) (by decide) rfl (by kernel_rfl) rfl fun b43 w43 hn43 => ?_;have hcm43 := hn43.chg;have hb43 : BK w43 b43 31 [f64v (l.getD i 0)] := hn43.at_;have hch := hch.ta hcm43;have hb3 := hb3.keep hcm43 (by simp; try omega);have hb5 := hb5.keep hcm43 (by simp; try omega);have hb7 := hb7.keep hcm43 (by simp; try omega);have hb23 := hb23.keep hcm43 (by simp; try omega);refine WL.appendF (v := l.getD i 0) rfl rfl hb23 (hb43.at_ rfl) (by omega) (by omega) rfl fun w44 hb23_ hcs44 => ?_;have hch := hch.step hcs44 (fun y hy => by simp only [List.mem_singleton] at hy; subst hy; exact .inr (by omega));have hb3 := hb3.keep hcs44 (by simp; try omega);have hb5 := hb5.keep hcs44 (by simp; try omega);have hb7 := hb7.keep hcs44 (by simp; try omega);have hb23 := hb23_;rw [show (filP (l.take i)).length + 1 = (filP (l.take (i + 1))).length by rw [filP_step (by omega), if_pos hk2]; simp];refine za rfl ?_;refine WL.nil (kr31 _ _ _ (kh22 ?_));refine zR fun _ kr32 => ?_;(first | refine zi rfl rfl ?_ | refine zo rfl rfl ?_);refine zm rfl ?_;refine WL.nil (kr32 _ _ _ ?_);refine ⟨rfl, (i + 1, L.set (filP (l.take i)).length (l.getD i 0)), ?_, ?_, ?_⟩
      ·exact SLp
      ·exact ⟨by dsimp only; omega, by simpa using hLl, by dsimp only; rw [filP_step (by omega), if_pos hk2, List.length_append]; show List.take _ _ = _; rw [show [l.getD i 0].length = 1 from rfl, set_take (by omega), htk], hb3, hb5, hb7, hb23, hch⟩
      ·show l.length - (i + 1) < l.length - i; omega
     ·have hk2 : ¬ kindP (l.getD i 0) ≤ 2 := by omega
      have hfs : filP (l.take (i + 1)) = filP (l.take i) := by rw [filP_step (by omega), if_neg hk2]
      refine zkk ?_;refine kh22 ?_;refine zR fun _ kr33 => ?_;(first | refine zi rfl rfl ?_ | refine zo rfl rfl ?_);refine zm rfl ?_;refine WL.nil (kr33 _ _ _ ?_);refine ⟨rfl, (i + 1, L), ?_, ?_, ?_⟩
      ·rw [← hfs]; repeat (first | exact Subs.nil | refine Subs.cons rfl ?_ | refine Subs.consI rfl (by omega) ?_)
      ·exact ⟨by dsimp only; omega, hLl, by dsimp only; rw [hfs]; exact htk, hb3, hb5, hb7, hb23, hch⟩
      ·show l.length - (i + 1) < l.length - i; omega
    ·have hiX : i = l.length := by omega
     subst hiX;rw [List.take_length] at hb7 hcle htk hfl;rw [List.take_length];unfold SP.cells at hb7;obtain ⟨hcl1, hcl2, hcl3, hcl4, hcl5, hcl6⟩ := hcle;refine CW.exit ?_;refine kh16 (zc fun _ kh34 => ?_);refine CW.block ?_;refine CW.seqM 46 (decide (0 < (cntP l).na ∧ pn = 2)) ?_ ?_
     ·refine zR fun _ kr35 => ?_;refine zf rfl (zl hb7 rfl rfl ?_);refine WL.ev (Ev.gtr rfl rfl) rfl ?_;refine zm rfl ?_;refine zb ?_ ?_<;>intro hg5<;>try simp only [qs] at hg5
      ·refine zw rfl (zf rfl (zw rfl (zl hb3 rfl rfl (zw rfl (zq rfl rfl (zt rfl rfl (za rfl ?_)))))));refine WL.nil (kr35 _ _ _ ?_);refine ⟨rfl, rfl, Subs.consB rfl ?_ ?_⟩
       ·first | (simp; omega) | (refine decide_eq_decide.2 ?_; omega)
       ·exact SMg
      ·refine zv rfl (zv rfl (zv rfl (ze rfl rfl (za rfl ?_))));refine WL.nil (kr35 _ _ _ ?_);refine ⟨rfl, rfl, Subs.consB rfl ?_ ?_⟩
       ·first | (simp; omega) | (refine decide_eq_decide.2 ?_; omega)
       ·exact SMg
     ·refine zy rfl ?_ ?_<;>intro hc6<;>try simp only [qs] at hc6
      ·have hA : 0 < (cntP l).na ∧ pn = 2 := hc6
       refine Sr fun _ kh36 => ?_;refine WL.ev (Ev.build (vs := _) (cs := [_, _, _, _, _, _]) rfl rfl) rfl ?_;refine za rfl ?_;refine zss rfl rfl ao hb5 rfl fun ws18 hb5_ hcs18 => ?_;(try simp only [Sx.splice, qt] at hb5_);have hch := hch.s1 hcs18;have hb5 := hb5_;refine za rfl (zz (kh36 ?_));refine zr (bodyA.retR3 rfl (RVal.tmp rfl) (RVal.cell rfl (hb5.varA rfl rfl)) (RVal.tmp rfl) ?_);exact .inl ⟨by unfold siftE; rw [if_neg hM, if_neg hL, if_pos hA]; decide, by unfold siftE; rw [if_neg hM, if_neg hL, if_pos hA]; rfl, hch⟩
      ·have hA : ¬ (0 < (cntP l).na ∧ pn = 2) := hc6
       refine CW.seqM 56 (decide (0 < (cntP l).up + (cntP l).dn ∧ pi = 2)) ?_ ?_
       ·refine zR fun _ kr38 => ?_;refine zf rfl (zl hb7 rfl rfl (zf rfl (zl hb7 rfl rfl ?_)));(first | refine zi rfl rfl ?_ | refine zo rfl rfl ?_);refine WL.ev (Ev.gtr rfl rfl) rfl ?_;refine zm rfl ?_;refine zb ?_ ?_<;>intro hg7<;>try simp only [qs] at hg7
        ·refine zw rfl (zf rfl (zw rfl (zl hb3 rfl rfl (zw rfl (zq rfl rfl (zt rfl rfl (za rfl ?_)))))));refine WL.nil (kr38 _ _ _ ?_);refine ⟨rfl, rfl, Subs.consB rfl ?_ ?_⟩
         ·first | (simp; omega) | (refine decide_eq_decide.2 ?_; omega)
         ·exact SMg
        ·refine zv rfl (zv rfl (zv rfl (ze rfl rfl (za rfl ?_))));refine WL.nil (kr38 _ _ _ ?_);refine ⟨rfl, rfl, Subs.consB rfl ?_ ?_⟩
         ·first | (simp; omega) | (refine decide_eq_decide.2 ?_; omega)
         ·exact SMg
       ·refine zy rfl ?_ ?_<;>intro hc8<;>try simp only [qs] at hc8
        ·have hB : 0 < (cntP l).up + (cntP l).dn ∧ pi = 2 := hc8
         refine Sr fun _ kh39 => ?_;refine WL.ev (Ev.build (vs := _) (cs := [_, _, _, _, _, _]) rfl rfl) rfl ?_;refine za rfl ?_;refine zss rfl rfl ao hb5 rfl fun ws19 hb5_ hcs19 => ?_;(try simp only [Sx.splice, qt] at hb5_);have hch := hch.s1 hcs19;have hb5 := hb5_;refine za rfl (zz (kh39 ?_));refine zr (bodyA.retR3 rfl (RVal.tmp rfl) (RVal.cell rfl (hb5.varA rfl rfl)) (RVal.tmp rfl) ?_);exact .inl ⟨by unfold siftE; rw [if_neg hM, if_neg hL, if_neg hA, if_pos hB]; decide, by unfold siftE; rw [if_neg hM, if_neg hL, if_neg hA, if_pos hB]; rfl, hch⟩
        ·have hB : ¬ (0 < (cntP l).up + (cntP l).dn ∧ pi = 2) := hc8
         refine zkk ?_;refine kh34 (zc fun _ kh41 => ?_);refine CW.regionKC 3 5 rfl hmix fun kR42 kr42 hS hdr => ?_;have hch := hch.ta hdr;have hb5 := hb5.k0 hdr;have hb7 := hb7.k0 hdr;have hb23 := hb23.k0 hdr;have hb7_r := hb7;refine wk 0 rfl hS (fun _ _ => Ev.move rfl) (wk 1 rfl hS (fun _ hw' => Ev.loadA rfl rfl (hb7_r.keep0 hw') rfl) (wk 2 rfl hS (fun _ _ => Ev.assign rfl) ?_));refine WK.storeB 3 rfl (by kernel_rfl) (by kernel_rfl) rfl rfl rfl ao hb5 (by simp) rfl fun ws20 hb5_ hcs20 => ?_;(try simp only [Sx.splice, qt] at hb5_);have hch := hch.s1 hcs20;have hb23 := hb23.kq hcs20;have hb5 := hb5_;refine WK.after 4 rfl (by kernel_rfl) (by kernel_rfl) (Ev.assign rfl) rfl ?_;refine WK.done (by kernel_rfl) (kr42 _ _ _ ?_);refine kh41 ?_;refine zr (bodyA.retR3 rfl (RVal.tmp rfl) (RVal.cell rfl (hb5.varA rfl rfl)) (RVal.tmp rfl) ?_);refine .inr ⟨by unfold siftE; rw [if_neg hM, if_neg hL, if_neg hA, if_neg hB], _, ?_, rfl, hch⟩;have := NF.part hb23.row (by rw [htk]; exact fun x hx => hWl x (List.mem_filter.1 hx).1) (by omega) (k := (filP l).length) (by omega) (c := l.length) (by omega);rw [htk] at this;exact this

end

/- Deferred calls of named functions; calls through function values. No condition. -/
namespace Sx
open Go

/-- What a function does that is called behind a return. -/
def RetD (P : Program) (f : FuncId) (args : List Value) (w : World) (R : Value → World → Prop) : Prop :=
  ∀ u, CallsD P f args.toArray u w fun e u' w' => u' = u ∧ ∃ v, e = .returned v ∧ R v w'
/-- The one call that is made behind the return: of function g. -/
def bodyD (P : Program) (fn : Func) (n : Nat) (g : FuncId) (R : Value → World → Prop) : AQ
  | .normal, D, s, w | .ret, D, s, w => ∃ vs : List Value, D = [⟨.fn (.func g) #[], vs.toArray⟩] ∧ RetD P g vs w fun _ w' => ∃ v, ResS P fn n D s w' v ∧ R v w'
  | _, _, _, _ => False
section
variable {P : Program} {n : Nat} {D : List Deferred} {s : Sl} {w : World}
theorem frame0 {fn : Func} {args : List Value} (hn : Nat.ble args.length fn.ntmps = true) : Fr fn.ntmps [] (args0 0 args) { tmps := args.toArray ++ Array.replicate (fn.ntmps - args.toArray.size) undef, defers := [] } := by
  have hn' : args.length ≤ fn.ntmps := by simpa [Nat.ble_eq] using hn
  refine ⟨by simp; omega, rfl, fun t v ht => ?_⟩
  rw [look_args0] at ht
  simp only [Nat.zero_le, if_true, Nat.sub_zero] at ht
  have hlt : t < args.length := by
    by_cases hl : t < args.length
    · exact hl
    · rw [List.getElem?_eq_none (by omega)] at ht; cases ht
  rw [Array.getElem?_append_left (by simpa using hlt)]
  simpa using ht
attribute [irreducible] bodyD
variable {ops : Array Oper} {K : KK} {rest : List Oper} {ty : TypeId} {pos : String} {af : Array Edge}
/-! ### Calls through function values -/
variable {d : Nat}
end
end Sx

/- Slices that grow: a function's own row, by its list. No condition. -/
section
open Go Sx Wd

/-- v is a row of the call's own (of a block from lo on, none of X) that reads as l. -/
def GR (w : World) (e : TypeId) (f : Nat → Value) (lo : Nat) (X : List Nat) (v : Value) (l : List Nat) : Prop :=
  w.ownsRow 0 e 1 v l.length (l.map f) ∧ ∀ b, v.ownBlock = some b → lo ≤ b ∧ b ∉ X
section
variable {w w' : World} {e : TypeId} {f : Nat → Value} {lo : Nat} {X : List Nat} {v : Value} {l : List Nat}
theorem GR.nil : GR w e f lo X (.slice none 0 0) [] := ⟨⟨rfl, .inl ⟨rfl, rfl⟩⟩, fun b h => by cases h⟩
theorem GR.lt (h : GR w e f lo X v l) {b : Nat} (hb : v.ownBlock = some b) : b < w.heap.size := own_lt h.1 hb
theorem GR.keep {T : List Nat} (h : GR w e f lo X v l) (hc : Chg T w w') (hT : ∀ b ∈ T, b ∈ X ∨ b < lo ∨ w.heap.size ≤ b) : GR w' e f lo X v l :=
  ⟨own_keep h.1 hc fun b hb hm => by
    obtain ⟨h1, h2⟩ := h.2 b hb
    have h3 := h.lt hb
    rcases hT b hm with q | q | q
    · exact h2 q
    · omega
    · omega, h.2⟩
theorem GR.keep0 (h : GR w e f lo X v l) (hc : Chg [] w w') : GR w' e f lo X v l := h.keep hc (by simp)
theorem GR.one (h : GR w e f lo X v l) : v.oneCell' = true := by
  obtain ⟨a, c, rfl⟩ := own_form h.1; rfl
theorem GR.row (h : GR w e f lo X v l) : ∃ a c, v = .slice a l.length c ∧ l.length ≤ c ∧ RW w a (l.map f) := by
  rcases own_cases h.1 with ⟨rfl, h0, hx⟩ | ⟨g, cap, rfl, hc, _, _⟩
  · have : l = [] := List.length_eq_zero_iff.1 h0
    subst this
    exact ⟨none, 0, rfl, Nat.le_refl _, RW.nil⟩
  · exact ⟨_, cap, rfl, hc, RW.of_own h.1⟩
theorem GR.nu (h : GR w e u32v lo X v l) (hW : W l) (hl : l.length ≤ 70368744177664) : NU w v l := NU.of_own h.1 hW hl
theorem GR.mono {lo' : Nat} {X' : List Nat} (h : GR w e f lo X v l) (hlo : lo' ≤ lo) (hX : ∀ b ∈ X', b ∈ X ∨ b < lo ∨ w.heap.size ≤ b) : GR w e f lo' X' v l :=
  ⟨h.1, fun b hb => by
    obtain ⟨h1, h2⟩ := h.2 b hb
    have h3 := h.lt hb
    refine ⟨by omega, fun hm => ?_⟩
    rcases hX b hm with q | q | q
    · exact h2 q
    · omega
    · omega⟩
/-- What the growing row's block tells the frame. -/
theorem GR.frame {T : List Nat} {w0 : World} (h : GR w e f lo X v l) (hc : Chg v.ownBlock.toList w w') (hf : Chg T w0 w) (hlo : w0.heap.size ≤ lo) : Chg T w0 w' :=
  hf.step hc fun y hy => .inr (by
    cases hv : v.ownBlock with
    | none => rw [hv] at hy; cases hy
    | some b => rw [hv] at hy; have : y = b := by simpa using hy
                subst this; have := (h.2 y hv).1; omega)
theorem GR.notin (h : GR w e f lo X v l) {b : Nat} (hb : b ∈ X ∨ b < lo) : b ∉ v.ownBlock.toList := fun hm => by
  cases hv : v.ownBlock with
  | none => rw [hv] at hm; cases hm
  | some c =>
    rw [hv] at hm
    have : b = c := by simpa using hm
    subst this
    obtain ⟨h1, h2⟩ := h.2 b hv
    rcases hb with q | q
    · exact h2 q
    · omega
end
section
variable {P : Program} {n : Nat} {D : List Deferred} {s : Sl} {w : World} {ops : Array Oper} {K : KK} {rest : List Oper} {ty : TypeId} {pos : String} {af : Array Edge} {d : Nat} {x y : Operand}
theorem Ev.append00 {t e es be : Nat} {de : TypeDesc} {ze : Value} {sz by_ : Nat} {z : Value} {v : Value} {m c : Nat} {xs : List Value} [hT : HasT P t (.slice e) sz by_ z] [hE : HasT P e de es be ze]
    (hx : opnd s x = some v) (hy : opnd s y = some (.slice none 0 c)) (hown : w.ownsRow 0 e es v m xs) :
    Ev P s (.call ⟨.builtin .append, [x, y].toArray, #[t, t]⟩) ty w v w := fun ρ d' pos af g hρ => by
  obtain ⟨i, hi, hi1, hi2, hi3⟩ := hE.inf
  have e1 := hρ x _ hx
  have e2 := hρ y _ hy
  have : (Builtin.append_ #[t, t] ty #[v, .slice none 0 c]).run P w = .ok v w := by
    rcases hown.2 with ⟨rfl, rfl⟩ | ⟨g, cap, cur, rfl, _, _, hnc, _⟩
    · simp [Builtin.append_, run_underlying hT.und, sizeOf, typeInfo, hi, Builtin.lenOf, Builtin.firstCells]
    · simp [Builtin.append_, run_underlying hT.und, sizeOf, typeInfo, hi, Builtin.lenOf, Builtin.firstCells, hnc, storeCells]
  simp [execOp, resolve, invoke, builtin, e1, e2, this]
/-- append(own, a row..). -/
theorem WL.growR {t e be : Nat} {de : TypeDesc} {ze : Value} {sz by_ : Nat} {z : Value} {v : Value} {f : Nat → Value} {lo : Nat} {X : List Nat} {l news : List Nat} {a : Option Addr} {mm c : Nat} [hT : HasT P t (.slice e) sz by_ z] [hE : HasT P e de 1 be ze]
    (hzs : ze.cells.size = 1) (h1 : ∀ i, (f i).oneCell' = true) (hx : opnd s x = some v) (hy : opnd s y = some (.slice a mm c)) (hg : GR w e f lo X v l) (hm : mm = news.length) (hr : RW w a (news.map f)) (hlo : lo ≤ w.heap.size) (hX : ∀ b ∈ X, b < w.heap.size)
    (hbytes : (l.length + news.length) * be ≤ 140737488355328) (h63 : l.length + news.length ≤ 70368744177664) (hd : Nat.blt d n = true)
    (k : ∀ v' w', GR w' e f lo X v' (l ++ news) → Chg v.ownBlock.toList w w' → WL P ops K rest n D ((d, v') :: s) w') :
    WL P ops K (⟨some d, .call ⟨.builtin .append, [x, y].toArray, #[t, t]⟩, ty, pos, af, none⟩ :: rest) n D s w := by
  cases a with
  | some ad =>
    refine WL.append (news := news.map f) hzs (by omega) hx hy hg.1 (by simp; omega) (fun j u hu => ?_) (fun u hu => ?_) (by unfold maxLen; omega) (by rw [hm]; exact hbytes) hd fun v' w' ho hc hl => ?_
    · obtain ⟨ad', e1, hcell⟩ := hr j u hu
      cases e1; exact hcell
    · obtain ⟨i, _, rfl⟩ := List.mem_map.1 hu
      exact h1 i
    · refine k v' w' ⟨by rw [List.length_append, List.map_append, ← hm]; exact ho, fun b hb => ?_⟩ hc
      rcases hl with q | q
      · rw [q] at hb; exact hg.2 b hb
      · rw [q] at hb; cases hb; exact ⟨hlo, fun hm => Nat.lt_irrefl _ (hX _ hm)⟩
  | none =>
    have hn : news = [] := by
      cases news with
      | nil => rfl
      | cons u r => obtain ⟨ad, e1, _⟩ := hr 0 (f u) rfl; cases e1
    subst hn
    have hm0 : mm = 0 := hm
    subst hm0
    refine WL.ev (Ev.append00 hx hy hg.1) hd (k v w ?_ (Chg.refl _ _))
    rw [List.append_nil]; exact hg
end
/-- A row that grows by rows of several cells each. -/
def GRc (w : World) (e : TypeId) (es : Nat) (lo : Nat) (X : List Nat) (v : Value) (m : Nat) (l : List Value) : Prop :=
  w.ownsRow 0 e es v m l ∧ ∀ b, v.ownBlock = some b → lo ≤ b ∧ b ∉ X
end

/- Package root: words. No condition. -/
section
open Go Sx Wd
set_option exponentiation.threshold 5000

/-- The state of moving words up: L what is written, c what is carried. -/
structure LiftI (l : List Nat) (q s i : Nat) (L : List Nat) (c : Nat) : Prop where
  le : i ≤ l.length
  len : L.length = q + i
  w : W L
  cl : c < 2 ^ s
  eq : val L + 2 ^ (32 * (q + i)) * c = 2 ^ (32 * q) * (val (l.take i) * 2 ^ s)
end

/- Package root: words, compared and less. No condition. -/
section
open Go Sx Wd
set_option exponentiation.threshold 5000

end

/- Ratios: their digits, and that a sticky bit rounds them. No condition. -/
namespace Wd
set_option exponentiation.threshold 5000

/-- A sum of neighbours, or twice a number: few digits. -/
def Few (c : Nat) : Prop := ∃ n x, c = n * 2 ^ x ∧ n ≤ 2 ^ 55
/-- The size of a ratio's first digits, by their value. -/
structure DigI (A0 B i size a : Nat) : Prop where
  z : i = 0 → size = 0 ∧ a = A0
  s : 0 < i → A0 * 2 ^ (i - 1) = size * B + a ∧ a < B
  w : size < 2 ^ i
end Wd

/- Whole numbers in words of 64 bits: two's complement. No condition. -/
section
open Wd
set_option exponentiation.threshold 5000

/-- The value of words of 64 bits, the lowest first. -/
def tv : List Nat → Nat
  | [] => 0
  | a :: l => a + 18446744073709551616 * tv l
/-- All words are words. -/
def W64 (l : List Nat) : Prop := ∀ x ∈ l, x < 18446744073709551616
theorem W64.getD {l : List Nat} (h : W64 l) (i : Nat) : l.getD i 0 < 18446744073709551616 := by
  rw [List.getD_eq_getElem?_getD]
  cases q : l[i]? with
  | none => simp
  | some x => exact h x (List.mem_of_getElem? q)
theorem W64.set {l : List Nat} (h : W64 l) {i v : Nat} (hv : v < 18446744073709551616) : W64 (l.set i v) := fun x hx => by
  rcases List.mem_or_eq_of_mem_set hx with q | q
  · exact h x q
  · exact q ▸ hv
theorem tv_set : ∀ {l : List Nat} {i v : Nat}, i < l.length → tv (l.set i v) + l.getD i 0 * 18446744073709551616 ^ i = tv l + v * 18446744073709551616 ^ i
  | a :: l, 0, v, h => by simp [tv]; omega
  | a :: l, i + 1, v, h => by
    have := tv_set (l := l) (i := i) (v := v) (by simpa using h)
    simp only [List.set_cons_succ, tv, List.getD_cons_succ, Nat.pow_succ]
    generalize 18446744073709551616 ^ i = B at this ⊢
    rw [show l.getD i 0 * (B * 18446744073709551616) = 18446744073709551616 * (l.getD i 0 * B) by ac_rfl, show v * (B * 18446744073709551616) = 18446744073709551616 * (v * B) by ac_rfl]
    omega
theorem tv_lt : ∀ {l : List Nat}, W64 l → tv l < 18446744073709551616 ^ l.length
  | [], h => by simp [tv]
  | a :: l, h => by
    have h1 := tv_lt (l := l) (fun x hx => h x (List.mem_cons_of_mem _ hx))
    have h2 := h a (List.mem_cons_self ..)
    simp only [tv, List.length_cons, Nat.pow_succ]
    generalize 18446744073709551616 ^ l.length = B at h1 ⊢
    omega
theorem tv_append (a b : List Nat) : tv (a ++ b) = tv a + 18446744073709551616 ^ a.length * tv b := by
  induction a with
  | nil => simp [tv]
  | cons x a ih =>
    simp only [List.cons_append, tv, ih, List.length_cons, Nat.pow_succ]
    rw [Nat.mul_add, Nat.add_assoc]
    congr 2
    ac_rfl
theorem tv_take {l : List Nat} {i : Nat} (h : i < l.length) : tv (l.take (i + 1)) = tv (l.take i) + l.getD i 0 * 18446744073709551616 ^ i := by
  have : l.take (i + 1) = l.take i ++ [l.getD i 0] := by
    rw [List.take_add_one, List.getD_eq_getElem?_getD, List.getElem?_eq_getElem h]; rfl
  rw [this, tv_append, List.length_take, Nat.min_eq_left (by omega)]
  simp [tv, Nat.mul_comm]
theorem tv_zero (n : Nat) : tv (List.replicate n 0) = 0 := by
  induction n with
  | zero => rfl
  | succ n ih => simp [List.replicate_succ, tv, ih]

/-! ### Adding and taking a term -/
/-- The first k of a term's words, where they lie. -/
def trm (W : List Nat) (at_ : Nat) : Nat → Nat
  | 0 => 0
  | k + 1 => trm W at_ k + W.getD k 0 * 18446744073709551616 ^ (at_ + k)
theorem trm3 {W : List Nat} {at_ : Nat} (h : W.length = 3) : ∀ k, trm W at_ (3 + k) = tv W * 18446744073709551616 ^ at_
  | 0 => by
    match W, h with
    | [a, b, c], _ =>
      simp only [trm, tv, List.getD_cons_zero, List.getD_cons_succ, Nat.pow_add]
      generalize 18446744073709551616 ^ at_ = B
      simp only [Nat.pow_zero, Nat.pow_one, Nat.add_zero, Nat.mul_zero, Nat.mul_one, Nat.zero_add]
      rw [Nat.add_mul, Nat.mul_add, Nat.add_mul]
      have e1 : b * (B * 18446744073709551616) = 18446744073709551616 * b * B := by ac_rfl
      have e2 : c * (B * 18446744073709551616 ^ 2) = 18446744073709551616 * (18446744073709551616 * c) * B := by
        rw [show (18446744073709551616 : Nat) ^ 2 = 18446744073709551616 * 18446744073709551616 from rfl]; ac_rfl
      rw [e1, e2]; omega
  | k + 1 => by
    rw [show 3 + (k + 1) = (3 + k) + 1 by omega, trm, trm3 h k]
    have : W.getD (3 + k) 0 = 0 := by rw [List.getD_eq_getElem?_getD, List.getElem?_eq_none (by omega)]; rfl
    rw [this]; omega
/-- The state of adding: words C, carry c, i words done. -/
structure MvA (L W : List Nat) (at_ : Nat) (C : List Nat) (c i : Nat) : Prop where
  len : C.length = L.length
  w : W64 C
  lo : at_ ≤ i
  hi : i ≤ L.length
  c1 : c ≤ 1
  eq : tv C + c * 18446744073709551616 ^ i = tv L + trm W at_ (i - at_)
theorem MvA.zero {L W : List Nat} {at_ : Nat} (h : W64 L) (ha : at_ ≤ L.length) : MvA L W at_ L 0 at_ := ⟨rfl, h, Nat.le_refl _, ha, by omega, by rw [Nat.sub_self]; simp [trm]⟩
theorem MvA.step {L W C : List Nat} {at_ c i : Nat} (h : MvA L W at_ C c i) (hi : i < L.length) (hw : W.getD (i - at_) 0 < 18446744073709551616) :
    MvA L W at_ (C.set i ((C.getD i 0 + W.getD (i - at_) 0 + c) % 18446744073709551616)) ((C.getD i 0 + W.getD (i - at_) 0 + c) / 18446744073709551616) (i + 1) := by
  obtain ⟨h1, h2, h3, h4, h5, h6⟩ := h
  have hc := h2.getD i
  refine ⟨by simpa using h1, h2.set (Nat.mod_lt _ (by decide)), by omega, by omega, by omega, ?_⟩
  have hs := tv_set (l := C) (i := i) (v := (C.getD i 0 + W.getD (i - at_) 0 + c) % 18446744073709551616) (by omega)
  rw [show i + 1 - at_ = (i - at_) + 1 by omega, trm, show at_ + (i - at_) = i by omega, Nat.pow_succ]
  generalize C.getD i 0 = x at hs hc ⊢
  generalize W.getD (i - at_) 0 = y at hw hs ⊢
  have e : (x + y + c) / 18446744073709551616 * 18446744073709551616 + (x + y + c) % 18446744073709551616 = x + y + c := Nat.div_add_mod' _ _
  generalize (x + y + c) / 18446744073709551616 = q at e ⊢
  generalize (x + y + c) % 18446744073709551616 = r at e hs ⊢
  generalize trm W at_ (i - at_) = z at h6 ⊢
  generalize 18446744073709551616 ^ i = B at h6 hs ⊢
  have e2 : q * (B * 18446744073709551616) = q * 18446744073709551616 * B := by ac_rfl
  have e3 : (q * 18446744073709551616 + r) * B = (x + y + c) * B := by rw [e]
  rw [Nat.add_mul] at e3
  rw [Nat.add_mul, Nat.add_mul] at e3
  omega
/-- The state of taking. -/
structure MvS (L W : List Nat) (at_ : Nat) (C : List Nat) (c i : Nat) : Prop where
  len : C.length = L.length
  w : W64 C
  lo : at_ ≤ i
  hi : i ≤ L.length
  c1 : c ≤ 1
  eq : tv C + trm W at_ (i - at_) = tv L + c * 18446744073709551616 ^ i
theorem MvS.zero {L W : List Nat} {at_ : Nat} (h : W64 L) (ha : at_ ≤ L.length) : MvS L W at_ L 0 at_ := ⟨rfl, h, Nat.le_refl _, ha, by omega, by rw [Nat.sub_self]; simp [trm]⟩
theorem MvS.step {L W C : List Nat} {at_ c i : Nat} (h : MvS L W at_ C c i) (hi : i < L.length) (hw : W.getD (i - at_) 0 < 18446744073709551616) {d b : Nat} (hd : d < 18446744073709551616) (hb : b ≤ 1)
    (e : C.getD i 0 + b * 18446744073709551616 = d + W.getD (i - at_) 0 + c) : MvS L W at_ (C.set i d) b (i + 1) := by
  obtain ⟨h1, h2, h3, h4, h5, h6⟩ := h
  have hc := h2.getD i
  refine ⟨by simpa using h1, h2.set hd, by omega, by omega, hb, ?_⟩
  have hs := tv_set (l := C) (i := i) (v := d) (by omega)
  rw [show i + 1 - at_ = (i - at_) + 1 by omega, trm, show at_ + (i - at_) = i by omega, Nat.pow_succ]
  generalize C.getD i 0 = x at hs hc e ⊢
  generalize W.getD (i - at_) 0 = y at hw e ⊢
  generalize trm W at_ (i - at_) = z at h6 ⊢
  generalize 18446744073709551616 ^ i = B at h6 hs ⊢
  have e2 : b * (B * 18446744073709551616) = b * 18446744073709551616 * B := by ac_rfl
  have e3 : (x + b * 18446744073709551616) * B = (d + y + c) * B := by rw [e]
  rw [Nat.add_mul, Nat.add_mul, Nat.add_mul] at e3
  omega

/-- A value of 128 bits, shifted within three words. -/
def laidW (hi lo by_ : Nat) : List Nat := [lo * 2 ^ by_ % 18446744073709551616, (hi * 2 ^ by_ % 18446744073709551616) ||| (lo / 2 ^ (64 - by_)), hi / 2 ^ (64 - by_)]
theorem laid_or {hi lo k : Nat} (h : lo < 18446744073709551616) (hk : k < 64) : (hi * 2 ^ k % 18446744073709551616) ||| (lo / 2 ^ (64 - k)) = hi * 2 ^ k % 18446744073709551616 + lo / 2 ^ (64 - k) := by
  have e : (18446744073709551616 : Nat) = 2 ^ (64 - k) * 2 ^ k := by rw [← Nat.pow_add, show 64 - k + k = 64 by omega]
  have hp := Nat.two_pow_pos k
  have hq := Nat.two_pow_pos (64 - k)
  have h1 : hi * 2 ^ k % 18446744073709551616 = hi % 2 ^ (64 - k) * 2 ^ k := by rw [e, Nat.mul_mod_mul_right]
  have h2 : lo / 2 ^ (64 - k) < 2 ^ k := by
    rw [Nat.div_lt_iff_lt_mul hq, Nat.mul_comm, ← e]; exact h
  rw [h1, Nat.or_comm, or_of_mul h2, Nat.add_comm]
theorem laidW_val {hi lo k : Nat} (h : lo < 18446744073709551616) (hk : k < 64) : tv (laidW hi lo k) = (hi * 18446744073709551616 + lo) * 2 ^ k := by
  have e : (18446744073709551616 : Nat) = 2 ^ (64 - k) * 2 ^ k := by rw [← Nat.pow_add, show 64 - k + k = 64 by omega]
  simp only [laidW, tv, laid_or h hk]
  have h1 : hi * 2 ^ k % 18446744073709551616 + 18446744073709551616 * (hi / 2 ^ (64 - k)) = hi * 2 ^ k := by
    have h1 : hi * 2 ^ k % 18446744073709551616 = hi % 2 ^ (64 - k) * 2 ^ k := by rw [e, Nat.mul_mod_mul_right]
    have := Nat.mod_add_div hi (2 ^ (64 - k))
    rw [h1]
    calc _ = (hi % 2 ^ (64 - k) + 2 ^ (64 - k) * (hi / 2 ^ (64 - k))) * 2 ^ k := by rw [Nat.add_mul]; congr 1; rw [e]; ac_rfl
      _ = _ := by rw [this]
  have h2 : lo * 2 ^ k % 18446744073709551616 + 18446744073709551616 * (lo / 2 ^ (64 - k)) = lo * 2 ^ k := by
    have h1 : lo * 2 ^ k % 18446744073709551616 = lo % 2 ^ (64 - k) * 2 ^ k := by rw [e, Nat.mul_mod_mul_right]
    have := Nat.mod_add_div lo (2 ^ (64 - k))
    rw [h1]
    calc _ = (lo % 2 ^ (64 - k) + 2 ^ (64 - k) * (lo / 2 ^ (64 - k))) * 2 ^ k := by rw [Nat.add_mul]; congr 1; rw [e]; ac_rfl
      _ = _ := by rw [this]
  rw [Nat.add_mul]
  generalize hi / 2 ^ (64 - k) = p at h1 ⊢
  generalize lo / 2 ^ (64 - k) = q at h2 ⊢
  generalize lo * 2 ^ k % 18446744073709551616 = r at h2 ⊢
  generalize hi * 2 ^ k % 18446744073709551616 = t at h1 ⊢
  rw [show hi * 18446744073709551616 * 2 ^ k = 18446744073709551616 * (hi * 2 ^ k) by ac_rfl]
  generalize hi * 2 ^ k = a at h1 ⊢
  generalize lo * 2 ^ k = b at h2 ⊢
  omega
theorem laidW_w {hi lo k : Nat} (h : lo < 18446744073709551616) (h2 : hi < 18446744073709551616) (hk : k < 64) : W64 (laidW hi lo k) := by
  intro x hx
  simp only [laidW, List.mem_cons, List.not_mem_nil, or_false] at hx
  rcases hx with q | q | q
  · rw [q]; exact Nat.mod_lt _ (by decide)
  · rw [q]
    exact Nat.or_lt_two_pow (n := 64) (Nat.mod_lt _ (by decide)) (Nat.lt_of_le_of_lt (Nat.div_le_self _ _) h)
  · rw [q]; exact Nat.lt_of_le_of_lt (Nat.div_le_self _ _) h2

/-! ### Turning the sign -/
structure MinI (L C : List Nat) (c i : Nat) : Prop where
  len : C.length = L.length
  w : W64 C
  hi : i ≤ L.length
  c1 : c ≤ 1
  same : ∀ j, i ≤ j → C.getD j 0 = L.getD j 0
  eq : tv C + c * 18446744073709551616 ^ i + 2 * tv (L.take i) = tv L + 18446744073709551616 ^ i
theorem MinI.zero {L : List Nat} (h : W64 L) : MinI L L 1 0 := ⟨rfl, h, Nat.zero_le _, by omega, fun _ _ => rfl, by simp [tv]⟩
theorem min_lin {a r x y c : Nat} (e : a + r = y + 0 + c) (hy : y + x = 18446744073709551615) : a + r + x + 1 = 18446744073709551616 + c := by
  rw [e]
  omega
theorem MinI.step {L C : List Nat} {c i y : Nat} (h : MinI L C c i) (hi : i < L.length) (hy : y + C.getD i 0 = 18446744073709551615) :
    MinI L (C.set i ((y + 0 + c) % 18446744073709551616)) ((y + 0 + c) / 18446744073709551616) (i + 1) := by
  obtain ⟨h1, h2, h3, h4, h5, h6⟩ := h
  have hc := h2.getD i
  refine ⟨by simpa using h1, h2.set (Nat.mod_lt _ (by decide)), by omega, by omega, fun j hj => ?_, ?_⟩
  · rw [← h5 j (by omega)]; simp only [List.getD_eq_getElem?_getD, List.getElem?_set_ne (show i ≠ j by omega)]
  have hs := tv_set (l := C) (i := i) (v := (y + 0 + c) % 18446744073709551616) (by omega)
  rw [tv_take hi, ← h5 i (Nat.le_refl _), Nat.pow_succ]
  generalize C.getD i 0 = x at hs hc hy ⊢
  have e : (y + 0 + c) / 18446744073709551616 * 18446744073709551616 + (y + 0 + c) % 18446744073709551616 = y + 0 + c := Nat.div_add_mod' _ _
  generalize (y + 0 + c) / 18446744073709551616 = q at e ⊢
  generalize (y + 0 + c) % 18446744073709551616 = r at e hs ⊢
  generalize tv (L.take i) = z at h6 ⊢
  generalize 18446744073709551616 ^ i = B at h6 hs ⊢
  have e2 : q * (B * 18446744073709551616) = q * 18446744073709551616 * B := by ac_rfl
  have e4 : q * 18446744073709551616 + r + x + 1 = 18446744073709551616 + c := min_lin e hy
  have e3 : (q * 18446744073709551616 + r + x + 1) * B = (18446744073709551616 + c) * B := congrArg (fun t => t * B) e4
  have e5 : (q * 18446744073709551616 + r + x + 1) * B = q * 18446744073709551616 * B + r * B + x * B + B := by simp only [Nat.add_mul, Nat.one_mul]
  have e6 : (18446744073709551616 + c) * B = 18446744073709551616 * B + c * B := Nat.add_mul _ _ _
  omega
theorem MinI.done {L C : List Nat} {c : Nat} (h : MinI L C c L.length) (hL : W64 L) : tv C = (18446744073709551616 ^ L.length - tv L) % 18446744073709551616 ^ L.length := by
  obtain ⟨h1, h2, h3, h4, h5, h6⟩ := h
  rw [List.take_length] at h6
  have hl := tv_lt hL
  have hc := tv_lt h2
  rw [h1] at hc
  generalize 18446744073709551616 ^ L.length = B at h6 hl hc ⊢
  rcases (show c = 0 ∨ c = 1 by omega) with q | q
  · subst q
    rw [Nat.mod_eq_of_lt (by omega)]; omega
  · subst q
    have : tv L = 0 := by omega
    rw [this, Nat.sub_zero, Nat.mod_self]; omega
end

/- Package super: New, laid, one. No condition. -/
section
open Go Sx Wd
set_option exponentiation.threshold 5000

theorem splitP_fin {x : Nat} (h : (splitP x).cls = 1 ∨ (splitP x).cls = 2) : -1074 ≤ (splitP x).exp ∧ (splitP x).exp ≤ 971 ∧ 0 < (splitP x).frac ∧ (splitP x).frac < 9007199254740992 := by
  revert h
  unfold splitP
  split
  · intro h; simp at h
  split
  · intro h; simp at h
  split
  · intro h; dsimp only; omega
  split
  · intro h; dsimp only; omega
  · intro h; simp at h
theorem splitP_cls (x : Nat) : (splitP x).cls ≤ 4 := by
  unfold splitP
  split
  · simp
  split
  · simp
  split
  · simp
  split <;> simp
/-- A term's cells: whether it is below nought, its place, its words. -/
def termV (neg : Bool) (at_ : Nat) (W : List Nat) : List Value := .bool neg :: .int .i64 (at_ : Int) :: W.map u64v
/-- What is added or taken. -/
structure TH where
  cls : Nat
  neg : Bool
  tn : Bool
  at_ : Nat
  W : List Nat
def thingV (t : TH) : List Value := .int .i64 (t.cls : Int) :: .bool t.neg :: termV t.tn t.at_ t.W
def oneP (x : Nat) : TH :=
  if (splitP x).cls = 1 ∨ (splitP x).cls = 2 then ⟨(splitP x).cls, (splitP x).neg, (splitP x).neg, ((splitP x).exp + 2148).toNat / 64, laidW 0 (splitP x).frac (((splitP x).exp + 2148).toNat % 64)⟩
  else ⟨(splitP x).cls, (splitP x).neg, false, 0, [0, 0, 0]⟩

theorem laid_spec (neg : Bool) (hi lo e : Nat) (exp : Int) (w : World) (he : exp = (e : Int) - 2148) (he2 : e < 9000) (hhi : hi < 18446744073709551616) (hlo : lo < 18446744073709551616) : Ret Tryz.prog 275 [.bool neg, .int .u64 (hi : Int), .int .u64 (lo : Int), .int .i64 exp] w fun u w' => u = .agg (termV neg (e / 64) (laidW hi lo (e % 64))).toArray ∧ Chg [] w w' := by
 have hA : hi * 2 ^ (e % 64) % 18446744073709551616 < 2 ^ IntKind.u64.bits := Nat.mod_lt _ (by decide);have hB : lo / 2 ^ (64 - e % 64) < 2 ^ IntKind.u64.bits := Nat.lt_of_le_of_lt (Nat.div_le_self _ _) hlo;have hch : Chg [] w w := Chg.refl _ _;refine zE4 Tryz.func275 rfl ?_;refine Sr fun _ kh1 => ?_;refine WL.allocB (l := [.bool false, .int .i64 0, .int .u64 0, .int .u64 0, .int .u64 0]) rfl rfl fun b8 wm8 hb8 hcm8 hge8 => ?_;have hgehch8 := Nat.le_trans hch.size hge8;have hch := hch.ta hcm8;refine zz (kh1 (Sr fun _ kh3 => zm rfl ?_));refine WL.ev (Ev.subIn rfl rfl (by omega)) rfl ?_;rw [show exp - -2148 = (e : Int) by omega];refine WL.ev (Ev.convIn rfl rfl (in_u64 (by omega))) rfl ?_;refine WL.ev (Ev.remU (b := 64) rfl rfl (by omega)) rfl ?_;refine za rfl (zz (kh3 (Sr fun _ kh5 => zm rfl (zm rfl ?_))));refine WL.ev (Ev.subIn rfl rfl (by omega)) rfl ?_;rw [show exp - -2148 = (e : Int) by omega]
 first | refine WL.ev (Ev.quoIn rfl rfl (by omega) (by simp only [IntKind.max, IntKind.signed, IntKind.bits]; omega) (by omega)) rfl ?_ | refine WL.ev (Ev.quo rfl rfl (by omega)) rfl ?_
 refine zm rfl (zm rfl ?_);refine WL.ev (Ev.shlU64 rfl rfl) rfl ?_;refine zm rfl (zm rfl ?_);refine WL.ev (Ev.shlU64 rfl rfl) rfl ?_;refine zm rfl (zm rfl ?_)
 first | refine WL.ev (Ev.sub64In (a := 64) rfl rfl (by omega) (by omega)) rfl ?_ | refine WL.ev (Ev.sub64 (a := 64) rfl rfl (by omega)) rfl ?_
 refine WL.ev (Ev.shrU rfl rfl (by simp only [IntKind.bits]; omega)) rfl ?_;refine WL.ev (Ev.orU rfl rfl rfl hA hB) rfl ?_;refine zm rfl (zm rfl ?_)
 first | refine WL.ev (Ev.sub64In (a := 64) rfl rfl (by omega) (by omega)) rfl ?_ | refine WL.ev (Ev.sub64 (a := 64) rfl rfl (by omega)) rfl ?_
 refine WL.ev (Ev.shrU rfl rfl (by simp only [IntKind.bits]; omega)) rfl ?_;refine WL.ev (Ev.buildA (vs := _) (cs := [_, _, _]) rfl rfl) rfl ?_;refine WL.ev (Ev.build (vs := _) (cs := [_, _, _, _, _]) rfl rfl) rfl ?_;refine zss rfl rfl ao hb8 rfl fun ws1 hb8_ hcs1 => ?_;(try simp only [Sx.splice, qt] at hb8_);have hch := hch.s1 hcs1;have hb8 := hb8_;refine zz (kh5 ?_);refine zr (bodyA.retR1 rfl (RVal.cell rfl (hb8.varA rfl rfl)) ?_);exact ⟨rfl, hch⟩

theorem New_spec (w : World) : Ret Tryz.prog 100 [] w fun u w' => ∃ b, u = .pointer (some ⟨b, 0, none⟩) ∧ BK w' b 251 ((List.replicate 67 0).map u64v ++ SP.zero.cells) ∧ w.heap.size ≤ b ∧ Chg [] w w' := by
 have hch : Chg [] w w := Chg.refl _ _;refine zE0 Tryz.func100 rfl ?_;refine Sr fun _ kh1 => za rfl (zz (kh1 (Sr fun _ kh3 => ?_)));refine WL.ev (Ev.build (vs := _) (cs := [_, _, _, _, _, _, _, _, _, _, _, _, _, _, _, _, _, _, _, _, _, _, _, _, _, _, _, _, _, _, _, _, _, _, _, _, _, _, _, _, _, _, _, _, _, _, _, _, _, _, _, _, _, _, _, _, _, _, _, _, _, _, _, _, _, _, _, _, _, _, _, _, _]) rfl rfl) rfl ?_;refine zBh rfl rfl rfl hch fun b2 wm2 hb2 hcm2 hge2 hgehch2 hch => ?_;refine za rfl (zz (kh3 ?_));refine zr (zr1 rfl rfl ?_);exact ⟨_, rfl, hb2, hge2, hch⟩

theorem one_spec (x : Nat) (w : World) (hx : x < 18446744073709551616) : Ret Tryz.prog 193 [.float .f64 x] w fun u w' => u = .agg (thingV (oneP x)).toArray ∧ Chg [] w w' := by
 have hch : Chg [] w w := Chg.refl _ _;have hsf := @splitP_fin x;refine zE1 Tryz.func193 rfl ?_;refine Sr fun _ kh1 => ?_;refine WL.allocB (l := [.int .i64 0, .bool false, .bool false, .int .i64 0, .int .u64 0, .int .u64 0, .int .u64 0]) rfl rfl fun b2 wm2 hb2 hcm2 hge2 => ?_;have hgehch2 := Nat.le_trans hch.size hge2;have hch := hch.ta hcm2;refine zz (kh1 (Sr fun _ kh3 => zm rfl ?_));refine WL.call hasF212 rfl rfl (Split_spec x _ hx) fun v w1 h' => ?_;obtain ⟨rfl, hC6⟩ := h';have hch := hch.ta hC6;have hb2 := hb2.k0 hC6;refine WL.allocB (l := [.bool false, .int .i64 0, .int .i64 0, .int .u64 0]) rfl rfl fun b3 wm3 hb3 hcm3 hge3 => ?_;have hgehch3 := Nat.le_trans hch.size hge3;have hch := hch.ta hcm3;have hneb23 := zdd hb2.lt hge3;have hb2 := hb2.k0 hcm3;refine zss rfl rfl ao hb3 rfl fun ws2 hb3_ hcs2 => ?_;(try simp only [Sx.splice, qt] at hb3_);have hch := hch.s1 hcs2;have hb2 := hb2.kq hcs2;have hb3 := hb3_;refine zz (kh3 (Sr fun _ kh5 => zf rfl (zl hb3 rfl rfl (zf rfl (zl hb3 rfl rfl ?_)))));refine WL.ev (Ev.build (vs := _) (cs := [_, _, _, _, _, _, _]) rfl rfl) rfl ?_;refine WL.allocB (l := [.int .i64 0, .bool false, .bool false, .int .i64 0, .int .u64 0, .int .u64 0, .int .u64 0]) rfl rfl fun b4 wm4 hb4 hcm4 hge4 => ?_;have hgehch4 := Nat.le_trans hch.size hge4;have hch := hch.ta hcm4;have hneb24 := zdd hb2.lt hge4;have hb2 := hb2.k0 hcm4;have hneb34 := zdd hb3.lt hge4;have hb3 := hb3.k0 hcm4;refine zss rfl rfl ao hb4 rfl fun ws3 hb4_ hcs3 => ?_;(try simp only [Sx.splice, qt] at hb4_);have hch := hch.s1 hcs3;have hb2 := hb2.kq hcs3;have hb3 := hb3.kq hcs3;have hb4 := hb4_;refine zz (kh5 (zc fun _ kh7 => ?_));refine CW.seqM 19 (decide ((splitP x).cls = 1 ∨ (splitP x).cls = 2)) ?_ ?_
 ·refine zR fun _ kr8 => ?_;refine zf rfl (zl hb3 rfl rfl (zq rfl rfl (zm rfl ?_)));refine zb ?_ ?_<;>intro hg1<;>try simp only [qs] at hg1
  ·refine zv rfl (zv rfl (zv rfl (zt rfl rfl ?_)));refine WL.nil (kr8 _ _ _ ?_);refine ⟨rfl, rfl, Subs.consB rfl ?_ ?_⟩
   ·first | (simp; omega) | (refine decide_eq_decide.2 ?_; omega)
   ·exact SMg
  ·refine zw rfl (zf rfl (zw rfl (zl hb3 rfl rfl (zw rfl (zq rfl rfl (ze rfl rfl ?_))))));refine WL.nil (kr8 _ _ _ ?_);refine ⟨rfl, rfl, Subs.consB rfl ?_ ?_⟩
   ·first | (simp; omega) | (refine decide_eq_decide.2 ?_; omega)
   ·exact SMg
 ·refine zy rfl ?_ ?_<;>intro hc2<;>try simp only [qs] at hc2
  ·have hcl : (splitP x).cls = 1 ∨ (splitP x).cls = 2 := hc2
   have hsf2 := hsf hcl;refine zR fun _ kr9 => ?_;refine zf rfl (zl hb3 rfl rfl (zf rfl (zl hb3 rfl rfl (zf rfl (zl hb3 rfl rfl ?_)))));refine WL.call hasF275 rfl rfl (laid_spec (splitP x).neg 0 (splitP x).frac ((splitP x).exp + 2148).toNat (splitP x).exp _ (by omega) (by omega) (by decide) (by omega)) fun v w2 h' => ?_;obtain ⟨rfl, hC26⟩ := h'
   show WL _ _ _ _ _ _ ((26, Value.agg [_, _, _, _, _].toArray) :: _) _
   have hch := hch.ta hC26;have hb2 := hb2.k0 hC26;have hb4 := hb4.k0 hC26;refine zf rfl ?_;refine zss rfl rfl ao hb4 rfl fun ws4 hb4_ hcs4 => ?_;(try simp only [Sx.splice, qt] at hb4_);have hch := hch.s1 hcs4;have hb2 := hb2.kq hcs4;have hb4 := hb4_;refine WL.nil (kr9 _ _ _ (kh7 ?_));refine Sr fun _ kh10 => zg hb4 rfl ?_;refine zss rfl rfl ao hb2 rfl fun ws5 hb2_ hcs5 => ?_;(try simp only [Sx.splice, qt] at hb2_);have hch := hch.s1 hcs5;have hb2 := hb2_;refine zz (kh10 ?_);refine zr (bodyA.retR1 rfl (RVal.cell rfl (hb2.varA rfl rfl)) ?_);refine ⟨?_, hch⟩;unfold oneP; rw [if_pos hcl]; rfl
  ·have hcl : ¬ ((splitP x).cls = 1 ∨ (splitP x).cls = 2) := fun q => by have q2 := hc2; omega
   refine zkk ?_;refine kh7 (Sr fun _ kh12 => zg hb4 rfl ?_);refine zss rfl rfl ao hb2 rfl fun ws6 hb2_ hcs6 => ?_;(try simp only [Sx.splice, qt] at hb2_);have hch := hch.s1 hcs6;have hb2 := hb2_;refine zz (kh12 ?_);refine zr (bodyA.retR1 rfl (RVal.cell rfl (hb2.varA rfl rfl)) ?_);refine ⟨?_, hch⟩;unfold oneP; rw [if_neg hcl]; rfl

end

/- Package super: neg, minus, move. No condition. -/
section
open Go Sx Wd
set_option exponentiation.threshold 5000

theorem neg_spec {T : TypeId} {R : List Value} (b : Nat) (L : List Nat) (w : World) (hB : TB w b T L R) (hL : L.length = 67) (hW : W64 L) : Ret Tryz.prog 198 [.pointer (some ⟨b, 0, none⟩)] w fun u w' => u = .bool (decide (9223372036854775808 ≤ L.getD 66 0)) ∧ w = w' := by
 have h66 := hW.getD 66;refine zE1 Tryz.func198 rfl ?_;refine Sr fun _ kh1 => za rfl (zz (kh1 (Sr fun _ kh3 => zm rfl ?_)));refine WL.ev (Ev.nilPtr rfl) rfl ?_;refine WL.ev (Ev.ixT (66) rfl rfl (by omega) (by omega)) rfl ?_;refine WL.ev (Ev.load rfl rfl (hB.t64 (by first | omega | (simp; omega)))) rfl ?_;refine WL.ev (Ev.shrU (b := 63) rfl rfl (by simp only [IntKind.bits]; omega)) rfl ?_;rw [show L.getD 66 0 / 2 ^ 63 = L.getD 66 0 / 9223372036854775808 by omega];refine zq rfl rfl (za rfl (zz (kh3 ?_)));refine zr (zr1 rfl rfl ?_);refine ⟨congrArg Value.bool (decide_eq_decide.2 (by omega)), rfl⟩

structure KMin (L : List Nat) (R : List Value) (T : TypeId) (b : Nat) (w0 : World) (g : Nat × Nat × List Nat) (w : World) : Prop where
  m : MinI L g.2.2 g.2.1 g.1
  hB : TB w b T g.2.2 R
  ch : Chg [b] w0 w

theorem minus_spec {T : TypeId} {R : List Value} (b : Nat) (L : List Nat) (w : World) (hB : TB w b T L R) (hL : L.length = 67) (hW : W64 L) : Ret Tryz.prog 276 [.pointer (some ⟨b, 0, none⟩)] w fun u w' => ∃ C, TB w' b T C R ∧ C.length = 67 ∧ W64 C ∧ tv C = (18446744073709551616 ^ 67 - tv L) % 18446744073709551616 ^ 67 ∧ Chg [b] w w' := by
 have hch : Chg [b] w w := Chg.refl _ _;refine zE1 Tryz.func276 rfl ?_;refine Sr fun _ kh1 => za rfl (zz (kh1 (Sr fun _ kh3 => zm rfl (zz (kh3 ?_)))));refine CW.block ?_;refine CW.loop (S := fun g : Nat × Nat × List Nat => [(0, .pointer (some ⟨b, 0, none⟩)), (2, .int .u64 (g.2.1 : Int)), (4, .int .i64 (g.1 : Int))]) (Inv := KMin L R T b w) (mu := fun g => 67 - g.1) ((0, 1, L)) ?_ ?_ ?_
 ·exact ⟨MinI.zero hW, hB, hch⟩
 ·exact SLp
 ·rintro ⟨i, c, C⟩ wr ⟨hM, hB, hch⟩;dsimp only at hM hB hch;dsimp only;have hi67 := hM.hi;have hCl := hM.len;have hcc := hM.c1;have hCi := hM.w.getD i;refine Sr fun _ kh5 => ?_;refine WL.ev (Ev.lss rfl rfl) rfl ?_;refine zz (kh5 (zc fun _ kh7 => ?_));refine zy rfl ?_ ?_<;>intro hc1<;>try simp only [qs] at hc1
  ·refine zkk ?_
   refine kh7 (zc fun _ kh8 => ?_);refine CW.block ?_;refine Sr fun _ kh9 => zm rfl (za rfl (zz (kh9 ?_)));refine CW.regionKC 15 17 rfl hmix fun kR11 kr11 hS hdr => ?_;have hch := hch.ta hdr;have hB := hB.keep0 hdr;have hB_r := hB;refine wk 0 rfl hS (fun _ _ => Ev.move rfl) (wk 1 rfl hS (fun _ _ => Ev.move rfl) (wk 2 rfl hS (fun _ _ => Ev.move rfl) (wk 3 rfl hS (fun _ _ => Ev.move rfl) (wk 4 rfl hS (fun _ _ => Ev.nilPtr rfl) (wk 5 rfl hS (fun _ _ => Ev.ixT (i) rfl rfl (by omega) (by omega)) (wk 6 rfl hS (fun _ hw' => Ev.load rfl rfl ((hB_r.keep0 hw').t64 (by first | omega | (simp; omega)))) (wk 7 rfl hS (fun _ _ => Ev.complU rfl rfl (by simp only [IntKind.bits]; omega)) (wk 8 rfl hS (fun _ _ => Ev.move rfl) (wk 9 rfl hS (fun _ _ => Ev.ext rfl (ext317 (18446744073709551615 - C.getD i 0) 0 c hcc _)) (wk 10 rfl hS (fun _ _ => Ev.move rfl) (wk 11 rfl hS (fun _ _ => Ev.extract rfl rfl) ?_)))))))))));refine WK.takeT 12 rfl (by kernel_rfl) (by kernel_rfl) (by kernel_rfl) (by kernel_rfl) (fun _ => hS) (fun w' => Ev.extract rfl rfl) rfl ?_;refine WK.takeT 13 rfl (by kernel_rfl) (by kernel_rfl) (by kernel_rfl) (by kernel_rfl) (fun _ => hS) (fun w' => Ev.nilPtr rfl) rfl ?_;refine wk 14 rfl hS (fun _ _ => Ev.ixT (i) rfl rfl (by omega) (by omega)) ?_;refine WK.storeT 15 rfl (by kernel_rfl) (by kernel_rfl) rfl rfl hB (by first | omega | (simp; omega)) fun ws7 hB_ hcs7 => ?_;have hch := hch.s1 hcs7;have hB := hB_;refine WK.after 16 rfl (by kernel_rfl) (by kernel_rfl) (Ev.assign rfl) rfl ?_;refine WK.done (by kernel_rfl) (kr11 _ _ _ ?_);refine kh8 ?_;refine zR fun _ kr12 => ?_;(first | refine zi rfl rfl ?_ | refine zo rfl rfl ?_);refine zm rfl ?_;refine WL.nil (kr12 _ _ _ ?_);refine ⟨rfl, (i + 1, ((18446744073709551615 - C.getD i 0) + 0 + c) / 18446744073709551616, C.set i (((18446744073709551615 - C.getD i 0) + 0 + c) % 18446744073709551616)), ?_, ?_, ?_⟩
   ·exact SLp
   ·exact ⟨hM.step (by omega) (by omega), hB, hch⟩
   ·show 67 - (i + 1) < 67 - i; omega
  ·have hiX : i = L.length := by omega
   subst hiX;have hfin := hM.done hW;rw [hL] at hfin;refine CW.exit ?_;refine bodyA.norm0 rfl ?_;exact ⟨C, hB, by omega, hM.w, hfin, hch⟩

end

/- Package super: move. No condition. -/
section
open Go Sx Wd
set_option exponentiation.threshold 5000

theorem term_at {n : Bool} {a_ w0 w1 w2 : Nat} : ∀ {j : Nat}, j < 3 → (termV n a_ [w0, w1, w2])[2 + j]? = some (.int .u64 (([w0, w1, w2].getD j 0 : Nat) : Int))
  | 0, _ => rfl
  | 1, _ => rfl
  | 2, _ => rfl
/-- What adding (sub false) or taking a term has come to. -/
def MvR (sub : Bool) (L W : List Nat) (a_ : Nat) (C : List Nat) : Prop :=
  (sub = false → ∃ c, c ≤ 1 ∧ tv C + c * 18446744073709551616 ^ 67 = tv L + tv W * 18446744073709551616 ^ a_) ∧ (sub = true → ∃ c, c ≤ 1 ∧ tv C + tv W * 18446744073709551616 ^ a_ = tv L + c * 18446744073709551616 ^ 67)
structure MvI (sub : Bool) (L W : List Nat) (a_ : Nat) (C : List Nat) (c i : Nat) : Prop where
  a : sub = false → MvA L W a_ C c i
  s : sub = true → MvS L W a_ C c i
theorem MvI.all {sub : Bool} {L W C : List Nat} {a_ c i : Nat} (h : MvI sub L W a_ C c i) : C.length = L.length ∧ W64 C ∧ a_ ≤ i ∧ i ≤ L.length ∧ c ≤ 1 := by
  cases sub
  · have := h.a rfl; exact ⟨this.len, this.w, this.lo, this.hi, this.c1⟩
  · have := h.s rfl; exact ⟨this.len, this.w, this.lo, this.hi, this.c1⟩
theorem MvI.done {sub : Bool} {L W C : List Nat} {a_ c i : Nat} (h : MvI sub L W a_ C c i) (hW : W.length = 3) (hL : L.length = 67) (ha : a_ ≤ 64) (hx : ¬ (i < 67 ∧ (i < a_ + 3 ∨ 0 < c))) : MvR sub L W a_ C := by
  obtain ⟨h1, h2, h3, h4, h5⟩ := h.all
  have e1 : i - a_ = 3 + (i - a_ - 3) := by omega
  have e2 : c * 18446744073709551616 ^ i = c * 18446744073709551616 ^ 67 := by
    by_cases q : i = 67
    · rw [q]
    · have : c = 0 := by omega
      rw [this, Nat.zero_mul, Nat.zero_mul]
  refine ⟨fun q => ⟨c, h5, ?_⟩, fun q => ⟨c, h5, ?_⟩⟩
  · have := (h.a q).eq
    rw [e1, trm3 hW, e2] at this; exact this
  · have := (h.s q).eq
    rw [e1, trm3 hW, e2] at this; exact this
theorem sub_step {x y c : Nat} (hx : x < 18446744073709551616) (hy : y < 18446744073709551616) (hc : c ≤ 1) : x + (if x < y + c then 1 else 0) * 18446744073709551616 = (x + 18446744073709551616 - y - c) % 18446744073709551616 + y + c := by
  split <;> omega
structure KMv (sub : Bool) (L W : List Nat) (a_ : Nat) (tn : Bool) (R : List Value) (T : TypeId) (b b4 : Nat) (w0 : World) (g : Nat × Nat × List Nat) (w : World) : Prop where
  m : MvI sub L W a_ g.2.2 g.2.1 g.1
  hB : TB w b T g.2.2 R
  h4 : BK w b4 255 (termV tn a_ W)
  ch : Chg [b] w0 w

theorem move_spec {T : TypeId} {R : List Value} (b : Nat) (L W : List Nat) (a_ : Nat) (tn less : Bool) (w : World) (hB : TB w b T L R) (hL : L.length = 67) (hW : W64 L) (hW3 : W.length = 3) (hWW : W64 W) (ha : a_ ≤ 64) : Ret Tryz.prog 315 [.pointer (some ⟨b, 0, none⟩), .agg (termV tn a_ W).toArray, .bool less] w fun u w' => ∃ C, TB w' b T C R ∧ C.length = 67 ∧ W64 C ∧ MvR (tn != less) L W a_ C ∧ Chg [b] w w' := by
 obtain ⟨w0, w1, w2, rfl⟩ : ∃ w0 w1 w2, W = [w0, w1, w2] := by match W, hW3 with | [x, y, z], _ => exact ⟨_, _, _, rfl⟩
 have hch : Chg [b] w w := Chg.refl _ _;refine zE3 Tryz.func315 rfl ?_;refine Sr fun _ kh1 => ?_;refine zBh rfl rfl rfl hch fun b4 wm4 hb4 hcm4 hge4 hgehch4 hch => ?_;have hneb4 : b ≠ b4 := by have := hB.lt; omega
 have hB := hB.keep0 hcm4;refine zz (kh1 (Sr fun _ kh3 => za rfl (zz (kh3 (Sr fun _ kh5 => zf rfl (zl hb4 rfl rfl (za rfl (zz (kh5 ?_)))))))));refine CW.block ?_;refine CW.loop (S := fun g : Nat × Nat × List Nat => [(0, .pointer (some ⟨b, 0, none⟩)), (2, .bool less), (4, .pointer (some ⟨b4, 0, none⟩)), (6, .int .u64 (g.2.1 : Int)), (7, .int .i64 (g.1 : Int))]) (Inv := KMv (tn != less) L [w0, w1, w2] a_ tn R T b b4 w) (mu := fun g => 67 - g.1) ((a_, 0, L)) ?_ ?_ ?_
 ·exact ⟨⟨fun _ => MvA.zero hW (by omega), fun _ => MvS.zero hW (by omega)⟩, hB, hb4, hch⟩
 ·exact SLp
 ·rintro ⟨i, c, C⟩ wr ⟨hM, hB, hb4, hch⟩;dsimp only at hM hB hb4 hch;dsimp only;obtain ⟨hCl, hCw, hia, hi67, hcc⟩ := hM.all;have hCi := hCw.getD i;have hwv := hWW.getD (i - a_);unfold termV at hb4;refine zc fun _ kh7 => ?_;refine CW.seqM 23 (decide (i < 67 ∧ (i < a_ + 3 ∨ 0 < c))) ?_ ?_
  ·refine zR fun _ kr8 => ?_;refine zm rfl ?_;refine WL.ev (Ev.lss rfl rfl) rfl ?_;refine zm rfl ?_;refine zb ?_ ?_<;>intro hg1<;>try simp only [qs] at hg1
   ·refine zw rfl (zm rfl (zw rfl (zf rfl (zw rfl (zl hb4 rfl rfl (zw rfl ?_))))));(first | refine zi rfl rfl ?_ | refine zo rfl rfl ?_);refine zw rfl ?_
    refine WL.ev (Ev.lss rfl rfl) rfl ?_;refine zw rfl (zm rfl ?_);refine zb ?_ ?_<;>intro hg2<;>try simp only [qs] at hg2
    ·refine zv rfl (zv rfl (zw rfl (zt rfl rfl (zt rfl rfl ?_))));refine WL.nil (kr8 _ _ _ ?_);refine ⟨rfl, rfl, Subs.consB rfl ?_ ?_⟩
     ·first | (simp; omega) | (refine decide_eq_decide.2 ?_; omega)
     ·exact SMg
    ·refine zw rfl (zm rfl (zw rfl ?_));refine WL.ev (Ev.gtr rfl rfl) rfl ?_
     refine zw rfl (ze rfl rfl (zt rfl rfl ?_));refine WL.nil (kr8 _ _ _ ?_);refine ⟨rfl, rfl, Subs.consB rfl ?_ ?_⟩
     ·first | (simp; omega) | (refine decide_eq_decide.2 ?_; omega)
     ·exact SMg
   ·refine zv rfl (zv rfl (zv rfl (zv rfl (zv rfl (zv rfl (zu rfl (zu rfl (zv rfl (ze rfl rfl ?_)))))))));refine WL.nil (kr8 _ _ _ ?_);refine ⟨rfl, rfl, Subs.consB rfl ?_ ?_⟩
    ·first | (simp; omega) | (refine decide_eq_decide.2 ?_; omega)
    ·exact SMg
  ·refine zy rfl ?_ ?_<;>intro hc3<;>try simp only [qs] at hc3
   ·have hgo := hc3
    refine zkk ?_;refine kh7 (zc fun _ kh9 => ?_);refine CW.block ?_;refine Sr fun _ kh10 => za rfl (zz (kh10 (zc fun _ kh12 => Sr fun _ kh13 => zm rfl (zf rfl (zl hb4 rfl rfl ?_)))));(first | refine zi rfl rfl ?_ | refine zo rfl rfl ?_);refine WL.ev (Ev.lss rfl rfl) rfl ?_;refine zz (kh13 ?_);refine zy rfl ?_ ?_<;>intro hc4<;>try simp only [qs] at hc4
    ·refine zR fun _ kr15 => ?_
     refine zm rfl (zf rfl (zl hb4 rfl rfl ?_))
     first | refine WL.ev (Ev.subIn rfl rfl (by omega)) rfl ?_ | refine WL.ev (Ev.sub rfl rfl) rfl ?_
     refine zf rfl ?_;refine WL.ev (Ev.indexAddrArr rfl rfl (by omega) (by omega)) rfl ?_;rw [show 2 + ((i : Int) - (a_ : Int)).toNat * 1 = 2 + (i - a_) by omega];refine WL.ev (Ev.load rfl rfl (hb4.at_ (term_at (n := tn) (by omega)))) rfl ?_;refine za rfl ?_;refine WL.nil (kr15 _ _ _ (kh12 ?_));refine Sr fun _ kh16 => zf rfl (zl hb4 rfl rfl (zm rfl ?_));refine WL.ev (Ev.neq_bool rfl rfl) rfl ?_;refine zz (kh16 ?_);refine zy rfl ?_ ?_<;>intro hc5<;>try simp only [qs] at hc5
     ·have hneq := hc5
      refine CW.regionKC 15 17 rfl hmix fun kR18 kr18 hS hdr => ?_;have hch := hch.ta hdr;have hB := hB.keep0 hdr;have hb4 := hb4.k0 hdr;have hB_r := hB;refine wk 0 rfl hS (fun _ _ => Ev.move rfl) (wk 1 rfl hS (fun _ _ => Ev.move rfl) (wk 2 rfl hS (fun _ _ => Ev.move rfl) (wk 3 rfl hS (fun _ _ => Ev.move rfl) (wk 4 rfl hS (fun _ _ => Ev.nilPtr rfl) (wk 5 rfl hS (fun _ _ => Ev.ixT (i) rfl rfl (by omega) (by omega)) (wk 6 rfl hS (fun _ hw' => Ev.load rfl rfl ((hB_r.keep0 hw').t64 (by first | omega | (simp; omega)))) (wk 7 rfl hS (fun _ _ => Ev.move rfl) (wk 8 rfl hS (fun _ _ => Ev.move rfl) (wk 9 rfl hS (fun _ _ => Ev.ext rfl (ext342 (C.getD i 0) ([w0, w1, w2].getD (i - a_) 0) c hcc _)) (wk 10 rfl hS (fun _ _ => Ev.move rfl) (wk 11 rfl hS (fun _ _ => Ev.extract rfl rfl) ?_)))))))))));refine WK.takeT 12 rfl (by kernel_rfl) (by kernel_rfl) (by kernel_rfl) (by kernel_rfl) (fun _ => hS) (fun w' => Ev.extract rfl rfl) rfl ?_;refine WK.takeT 13 rfl (by kernel_rfl) (by kernel_rfl) (by kernel_rfl) (by kernel_rfl) (fun _ => hS) (fun w' => Ev.nilPtr rfl) rfl ?_;refine wk 14 rfl hS (fun _ _ => Ev.ixT (i) rfl rfl (by omega) (by omega)) ?_;refine WK.storeT 15 rfl (by kernel_rfl) (by kernel_rfl) rfl rfl hB (by first | omega | (simp; omega)) fun ws8 hB_ hcs8 => ?_;have hch := hch.s1 hcs8;have hb4 := hb4.kq hcs8;have hB := hB_;refine WK.after 16 rfl (by kernel_rfl) (by kernel_rfl) (Ev.assign rfl) rfl ?_;refine WK.done (by kernel_rfl) (kr18 _ _ _ ?_);refine kh9 ?_;refine zR fun _ kr19 => ?_;refine zm rfl ?_;(first | refine zi rfl rfl ?_ | refine zo rfl rfl ?_);refine za rfl ?_;refine WL.nil (kr19 _ _ _ ?_);refine ⟨rfl, (i + 1, (if C.getD i 0 < ([w0, w1, w2].getD (i - a_) 0) + c then 1 else 0), C.set i ((C.getD i 0 + 18446744073709551616 - ([w0, w1, w2].getD (i - a_) 0) - c) % 18446744073709551616)), ?_, ?_, ?_⟩
      ·exact SLp
      ·have hsub : (tn != less) = true := by simpa using hneq
       refine ⟨⟨fun q => (by rw [hsub] at q; cases q), fun q => ?_⟩, hB, hb4, hch⟩;exact (hM.s q).step (by omega) hwv (Nat.mod_lt _ (by decide)) (by show (if C.getD i 0 < ([w0, w1, w2].getD (i - a_) 0) + c then 1 else 0) ≤ 1; split <;> omega) (by rw [show [w0, w1, w2].getD (i - a_) 0 = ([w0, w1, w2].getD (i - a_) 0) from rfl]; exact sub_step hCi hwv hcc)
      ·show 67 - (i + 1) < 67 - i; omega
     ·have hneq := hc5
      refine CW.regionKC 15 17 rfl hmix fun kR20 kr20 hS hdr => ?_;have hch := hch.ta hdr;have hB := hB.keep0 hdr;have hb4 := hb4.k0 hdr;have hB_r := hB;refine wk 0 rfl hS (fun _ _ => Ev.move rfl) (wk 1 rfl hS (fun _ _ => Ev.move rfl) (wk 2 rfl hS (fun _ _ => Ev.move rfl) (wk 3 rfl hS (fun _ _ => Ev.move rfl) (wk 4 rfl hS (fun _ _ => Ev.nilPtr rfl) (wk 5 rfl hS (fun _ _ => Ev.ixT (i) rfl rfl (by omega) (by omega)) (wk 6 rfl hS (fun _ hw' => Ev.load rfl rfl ((hB_r.keep0 hw').t64 (by first | omega | (simp; omega)))) (wk 7 rfl hS (fun _ _ => Ev.move rfl) (wk 8 rfl hS (fun _ _ => Ev.move rfl) (wk 9 rfl hS (fun _ _ => Ev.ext rfl (ext317 (C.getD i 0) ([w0, w1, w2].getD (i - a_) 0) c hcc _)) (wk 10 rfl hS (fun _ _ => Ev.move rfl) (wk 11 rfl hS (fun _ _ => Ev.extract rfl rfl) ?_)))))))))));refine WK.takeT 12 rfl (by kernel_rfl) (by kernel_rfl) (by kernel_rfl) (by kernel_rfl) (fun _ => hS) (fun w' => Ev.extract rfl rfl) rfl ?_;refine WK.takeT 13 rfl (by kernel_rfl) (by kernel_rfl) (by kernel_rfl) (by kernel_rfl) (fun _ => hS) (fun w' => Ev.nilPtr rfl) rfl ?_;refine wk 14 rfl hS (fun _ _ => Ev.ixT (i) rfl rfl (by omega) (by omega)) ?_;refine WK.storeT 15 rfl (by kernel_rfl) (by kernel_rfl) rfl rfl hB (by first | omega | (simp; omega)) fun ws9 hB_ hcs9 => ?_;have hch := hch.s1 hcs9;have hb4 := hb4.kq hcs9;have hB := hB_;refine WK.after 16 rfl (by kernel_rfl) (by kernel_rfl) (Ev.assign rfl) rfl ?_;refine WK.done (by kernel_rfl) (kr20 _ _ _ ?_);refine kh9 ?_;refine zR fun _ kr21 => ?_;refine zm rfl ?_;(first | refine zi rfl rfl ?_ | refine zo rfl rfl ?_);refine za rfl ?_;refine WL.nil (kr21 _ _ _ ?_);refine ⟨rfl, (i + 1, ((C.getD i 0 + ([w0, w1, w2].getD (i - a_) 0) + c) / 18446744073709551616), C.set i ((C.getD i 0 + ([w0, w1, w2].getD (i - a_) 0) + c) % 18446744073709551616)), ?_, ?_, ?_⟩
      ·exact SLp
      ·have hsub : (tn != less) = false := by simpa using hneq
       refine ⟨⟨fun q => ?_, fun q => (by rw [hsub] at q; cases q)⟩, hB, hb4, hch⟩;have hst := (hM.a q).step (by omega) hwv;exact hst
      ·show 67 - (i + 1) < 67 - i; omega
    ·have hz : [w0, w1, w2].getD (i - a_) 0 = 0 := by rw [List.getD_eq_getElem?_getD, List.getElem?_eq_none (by simp; omega)]; rfl
     refine zkk ?_;refine kh12 (Sr fun _ kh22 => zf rfl (zl hb4 rfl rfl (zm rfl ?_)));refine WL.ev (Ev.neq_bool rfl rfl) rfl ?_;refine zz (kh22 ?_);refine zy rfl ?_ ?_<;>intro hc6<;>try simp only [qs] at hc6
     ·have hneq := hc6
      refine CW.regionKC 15 17 rfl hmix fun kR24 kr24 hS hdr => ?_;have hch := hch.ta hdr;have hB := hB.keep0 hdr;have hb4 := hb4.k0 hdr;have hB_r := hB;refine wk 0 rfl hS (fun _ _ => Ev.move rfl) (wk 1 rfl hS (fun _ _ => Ev.move rfl) (wk 2 rfl hS (fun _ _ => Ev.move rfl) (wk 3 rfl hS (fun _ _ => Ev.move rfl) (wk 4 rfl hS (fun _ _ => Ev.nilPtr rfl) (wk 5 rfl hS (fun _ _ => Ev.ixT (i) rfl rfl (by omega) (by omega)) (wk 6 rfl hS (fun _ hw' => Ev.load rfl rfl ((hB_r.keep0 hw').t64 (by first | omega | (simp; omega)))) (wk 7 rfl hS (fun _ _ => Ev.move rfl) (wk 8 rfl hS (fun _ _ => Ev.move rfl) (wk 9 rfl hS (fun _ _ => Ev.ext rfl (ext342 (C.getD i 0) 0 c hcc _)) (wk 10 rfl hS (fun _ _ => Ev.move rfl) (wk 11 rfl hS (fun _ _ => Ev.extract rfl rfl) ?_)))))))))));refine WK.takeT 12 rfl (by kernel_rfl) (by kernel_rfl) (by kernel_rfl) (by kernel_rfl) (fun _ => hS) (fun w' => Ev.extract rfl rfl) rfl ?_;refine WK.takeT 13 rfl (by kernel_rfl) (by kernel_rfl) (by kernel_rfl) (by kernel_rfl) (fun _ => hS) (fun w' => Ev.nilPtr rfl) rfl ?_;refine wk 14 rfl hS (fun _ _ => Ev.ixT (i) rfl rfl (by omega) (by omega)) ?_;refine WK.storeT 15 rfl (by kernel_rfl) (by kernel_rfl) rfl rfl hB (by first | omega | (simp; omega)) fun ws10 hB_ hcs10 => ?_;have hch := hch.s1 hcs10;have hb4 := hb4.kq hcs10;have hB := hB_;refine WK.after 16 rfl (by kernel_rfl) (by kernel_rfl) (Ev.assign rfl) rfl ?_;refine WK.done (by kernel_rfl) (kr24 _ _ _ ?_);refine kh9 ?_;refine zR fun _ kr25 => ?_;refine zm rfl ?_;(first | refine zi rfl rfl ?_ | refine zo rfl rfl ?_);refine za rfl ?_;refine WL.nil (kr25 _ _ _ ?_);refine ⟨rfl, (i + 1, (if C.getD i 0 < 0 + c then 1 else 0), C.set i ((C.getD i 0 + 18446744073709551616 - 0 - c) % 18446744073709551616)), ?_, ?_, ?_⟩
      ·exact SLp
      ·have hsub : (tn != less) = true := by simpa using hneq
       refine ⟨⟨fun q => (by rw [hsub] at q; cases q), fun q => ?_⟩, hB, hb4, hch⟩;exact (hM.s q).step (by omega) hwv (Nat.mod_lt _ (by decide)) (by show (if C.getD i 0 < 0 + c then 1 else 0) ≤ 1; split <;> omega) (by rw [show [w0, w1, w2].getD (i - a_) 0 = 0 from hz]; exact sub_step hCi (by decide) hcc)
      ·show 67 - (i + 1) < 67 - i; omega
     ·have hneq := hc6
      refine CW.regionKC 15 17 rfl hmix fun kR26 kr26 hS hdr => ?_;have hch := hch.ta hdr;have hB := hB.keep0 hdr;have hb4 := hb4.k0 hdr;have hB_r := hB;refine wk 0 rfl hS (fun _ _ => Ev.move rfl) (wk 1 rfl hS (fun _ _ => Ev.move rfl) (wk 2 rfl hS (fun _ _ => Ev.move rfl) (wk 3 rfl hS (fun _ _ => Ev.move rfl) (wk 4 rfl hS (fun _ _ => Ev.nilPtr rfl) (wk 5 rfl hS (fun _ _ => Ev.ixT (i) rfl rfl (by omega) (by omega)) (wk 6 rfl hS (fun _ hw' => Ev.load rfl rfl ((hB_r.keep0 hw').t64 (by first | omega | (simp; omega)))) (wk 7 rfl hS (fun _ _ => Ev.move rfl) (wk 8 rfl hS (fun _ _ => Ev.move rfl) (wk 9 rfl hS (fun _ _ => Ev.ext rfl (ext317 (C.getD i 0) 0 c hcc _)) (wk 10 rfl hS (fun _ _ => Ev.move rfl) (wk 11 rfl hS (fun _ _ => Ev.extract rfl rfl) ?_)))))))))));refine WK.takeT 12 rfl (by kernel_rfl) (by kernel_rfl) (by kernel_rfl) (by kernel_rfl) (fun _ => hS) (fun w' => Ev.extract rfl rfl) rfl ?_;refine WK.takeT 13 rfl (by kernel_rfl) (by kernel_rfl) (by kernel_rfl) (by kernel_rfl) (fun _ => hS) (fun w' => Ev.nilPtr rfl) rfl ?_;refine wk 14 rfl hS (fun _ _ => Ev.ixT (i) rfl rfl (by omega) (by omega)) ?_;refine WK.storeT 15 rfl (by kernel_rfl) (by kernel_rfl) rfl rfl hB (by first | omega | (simp; omega)) fun ws11 hB_ hcs11 => ?_;have hch := hch.s1 hcs11;have hb4 := hb4.kq hcs11;have hB := hB_;refine WK.after 16 rfl (by kernel_rfl) (by kernel_rfl) (Ev.assign rfl) rfl ?_;refine WK.done (by kernel_rfl) (kr26 _ _ _ ?_);refine kh9 ?_;refine zR fun _ kr27 => ?_;refine zm rfl ?_;(first | refine zi rfl rfl ?_ | refine zo rfl rfl ?_);refine za rfl ?_;refine WL.nil (kr27 _ _ _ ?_);refine ⟨rfl, (i + 1, ((C.getD i 0 + 0 + c) / 18446744073709551616), C.set i ((C.getD i 0 + 0 + c) % 18446744073709551616)), ?_, ?_, ?_⟩
      ·exact SLp
      ·have hsub : (tn != less) = false := by simpa using hneq
       refine ⟨⟨fun q => ?_, fun q => (by rw [hsub] at q; cases q)⟩, hB, hb4, hch⟩;have hst := (hM.a q).step (by omega) hwv;rw [hz] at hst;exact hst
      ·show 67 - (i + 1) < 67 - i; omega
   ·have hstop := hc3
    refine CW.exit ?_;refine bodyA.norm0 rfl ?_;exact ⟨C, hB, by omega, hCw, hM.done rfl hL ha hstop, hch⟩

end

/- Two's complement: what a whole sum is. No condition. -/
section
open Go Sx Wd
set_option exponentiation.threshold 5000

def BB : Nat := 18446744073709551616 ^ 66
def MM : Nat := 18446744073709551616 ^ 67
theorem MM_eq : MM = BB * 18446744073709551616 := Nat.pow_succ ..
/-- Words that stand for S. -/
structure Rep (L : List Nat) (S : Int) : Prop where
  len : L.length = 67
  w : W64 L
  eq : (tv L : Int) = S % (MM : Int)
theorem Rep.zero : Rep (List.replicate 67 0) 0 := ⟨by simp, fun x hx => by rw [List.mem_replicate] at hx; rw [hx.2]; decide, by rw [tv_zero]; simp⟩
theorem emod_of {a S M c : Int} (h0 : 0 ≤ a) (h1 : a < M) (h : a = S + c * M) : a = S % M := by
  have := Int.emod_eq_of_lt h0 h1
  rw [← this, h]
  exact Int.add_mul_emod_self_right ..
theorem MvR.rep {sub : Bool} {L W C : List Nat} {a_ : Nat} {S : Int} (h : MvR sub L W a_ C) (hr : Rep L S) (hC : C.length = 67) (hw : W64 C) :
    Rep C (if sub = true then S - ((tv W * 18446744073709551616 ^ a_ : Nat) : Int) else S + ((tv W * 18446744073709551616 ^ a_ : Nat) : Int)) := by
  have h1 : tv C < MM := by have := tv_lt hw; rw [hC] at this; exact this
  obtain ⟨_, _, he⟩ := hr
  have hd := Int.emod_add_mul_ediv S (MM : Int)
  refine ⟨hC, hw, ?_⟩
  generalize hX : tv W * 18446744073709551616 ^ a_ = X at h ⊢
  cases sub
  · obtain ⟨c, hc, e⟩ := h.1 rfl
    rw [hX, show (18446744073709551616 : Nat) ^ 67 = MM from rfl] at e
    rw [if_neg (by simp)]
    refine emod_of (c := -(S / (MM : Int)) - (c : Int)) (by omega) (by omega) ?_
    have e' : (tv C : Int) + (c : Int) * (MM : Int) = (tv L : Int) + (X : Int) := by exact_mod_cast e
    rw [Int.sub_mul, Int.neg_mul, Int.mul_comm (S / (MM : Int))]
    omega
  · obtain ⟨c, hc, e⟩ := h.2 rfl
    rw [hX, show (18446744073709551616 : Nat) ^ 67 = MM from rfl] at e
    rw [if_pos rfl]
    refine emod_of (c := -(S / (MM : Int)) + (c : Int)) (by omega) (by omega) ?_
    have e' : (tv C : Int) + (X : Int) = (tv L : Int) + (c : Int) * (MM : Int) := by exact_mod_cast e
    rw [Int.add_mul, Int.neg_mul, Int.mul_comm (S / (MM : Int))]
    omega
theorem Rep.split {L : List Nat} {S : Int} (hr : Rep L S) : tv L = tv (L.take 66) + L.getD 66 0 * BB ∧ tv (L.take 66) < BB := by
  have h1 := tv_take (l := L) (i := 66) (by rw [hr.len]; decide)
  rw [show L.take (66 + 1) = L from List.take_of_length_le (by rw [hr.len]; decide)] at h1
  refine ⟨h1, ?_⟩
  have := tv_lt (l := L.take 66) (fun x hx => hr.w x (List.mem_of_mem_take hx))
  rwa [List.length_take, hr.len] at this
/-- A sum within its bounds: the highest word, and what is below. -/
theorem Rep.pos {L : List Nat} {S : Int} (hr : Rep L S) (h0 : 0 ≤ S) (h1 : S < (16384 * BB : Nat)) : L.getD 66 0 < 16384 ∧ (tv L : Int) = S := by
  obtain ⟨h2, h3⟩ := hr.split
  have hM := MM_eq
  have he := hr.eq
  rw [Int.emod_eq_of_lt h0 (by omega)] at he
  refine ⟨?_, he⟩
  generalize L.getD 66 0 = x at h2 ⊢
  have h4 : x * BB < 16384 * BB := by omega
  exact Nat.lt_of_mul_lt_mul_right h4
theorem Rep.neg {L : List Nat} {S : Int} (hr : Rep L S) (h0 : S < 0) (h1 : -((16384 * BB : Nat) : Int) < S) : 18446744073709535232 ≤ L.getD 66 0 ∧ (L.getD 66 0 = 18446744073709535232 → 0 < tv (L.take 66)) ∧ (tv L : Int) = S + (MM : Int) := by
  obtain ⟨h2, h3⟩ := hr.split
  have hM := MM_eq
  have he := hr.eq
  have e : S % (MM : Int) = S + (MM : Int) := (emod_of (c := 1) (by omega) (by omega) (by omega)).symm
  rw [e] at he
  refine ⟨?_, fun q => ?_, he⟩
  · generalize L.getD 66 0 = x at h2 ⊢
    have h4 : 18446744073709551616 * BB < (x + 16385) * BB := by rw [Nat.add_mul]; omega
    have := Nat.lt_of_mul_lt_mul_right h4
    omega
  · rw [q] at h2; omega
theorem i64shr14 {x : Nat} (hx : x < 18446744073709551616) : (IntKind.i64.wrap (x : Int)).fdiv (2 ^ (min (14 : Int).toNat IntKind.i64.bits)) = if x < 9223372036854775808 then ((x / 16384 : Nat) : Int) else ((x : Int) - 18446744073709551616) / 16384 := by
  show (IntKind.i64.wrap (x : Int)).fdiv 16384 = _
  rw [Int.fdiv_eq_ediv_of_nonneg _ (by omega), IntKind.wrap_i64]
  split <;> omega
end

/- Package super: great. No condition. -/
section
open Go Sx Wd
set_option exponentiation.threshold 5000

theorem tv_take0 {L : List Nat} : ∀ {i : Nat}, i ≤ L.length → (∀ j, j < i → L.getD j 0 = 0) → tv (L.take i) = 0
  | 0, _, _ => by simp [tv]
  | i + 1, h, hz => by rw [tv_take (by omega), tv_take0 (by omega) (fun j hj => hz j (by omega)), hz i (by omega)]; simp
section
variable {P : Program} {s : Sl} {w : World} {ty : TypeId} {x q : Operand}
/-- a[:j] of an array by its address. -/
theorem Sx.Ev.sliceAH (j : Nat) {t b m e : Nat} {es be : Nat} {k' : IntKind} {hi : Int} {de : TypeDesc} {ze : Value} {sz by_ : Nat} {z : Value} [hT : HasT P t (.array m e) sz by_ z] [hE : HasT P e de es be ze]
    (hx : opnd s x = some (.pointer (some ⟨b, 0, none⟩))) (hq : opnd s q = some (.int k' hi)) (hj : hi = (j : Int)) (h2 : j ≤ m) : Ev P s (.slice t x none (some q) none) ty w (.slice (some ⟨b, 0, none⟩) j m) w := fun ρ d' pos af g hρ => by
  have e1 := hρ x _ hx
  have e3 := hρ q _ hq
  subst hj
  have h1 : (0 : Int) ≤ (j : Int) := by omega
  have h3 : (j : Int) ≤ (m : Int) := by omega
  simp [execOp, e1, e3, Instr.sliceAt, Instr.slice, hT.underlying, Instr.sliceBounds, Instr.sliceBound, asIntOf, Instr.sureAddr, h1, h2, h3, hE.sizeOf]
  try (intro _; simp [Addr.add])
end
structure KGr (L : List Nat) (R : List Value) (T : TypeId) (b : Nat) (w0 : World) (i : Nat) (w : World) : Prop where
  le : i ≤ 66
  z : ∀ j, j < i → L.getD j 0 = 0
  hB : TB w b T L R
  ch : Chg [] w0 w

theorem great_spec {T : TypeId} {R : List Value} (b : Nat) (L : List Nat) (S : Int) (w : World) (hB : TB w b T L R) (hr : Rep L S) (h1 : -((16384 * BB : Nat) : Int) < S) (h2 : S < (16384 * BB : Nat)) : Ret Tryz.prog 316 [.pointer (some ⟨b, 0, none⟩)] w fun u w' => u = .bool false ∧ Chg [] w w' := by
 have hL := hr.len;have h66 := hr.w.getD 66;have hch : Chg [] w w := Chg.refl _ _;refine zE1 Tryz.func316 rfl ?_;refine Sr fun _ kh1 => za rfl (zz (kh1 (Sr fun _ kh3 => za rfl (zz (kh3 (Sr fun _ kh5 => zm rfl (zm rfl ?_)))))));refine WL.ev (Ev.quoIn rfl rfl (by decide) (by decide) (by decide)) rfl ?_;rw [show (4238 : Int) / 64 = ((66 : Nat) : Int) by decide];refine WL.ev (Ev.nilPtr rfl) rfl ?_;refine WL.ev (Ev.ixT (66) rfl rfl (by omega) (by omega)) rfl ?_;refine WL.ev (Ev.load rfl rfl (hB.t64 (by first | omega | (simp; omega)))) rfl ?_;refine WL.ev (Ev.conv rfl rfl) rfl ?_;refine zm rfl ?_;refine WL.ev (Ev.remIn rfl rfl (by decide) (by decide)) rfl ?_;rw [show (4238 : Int) % 64 = 14 by decide];refine WL.ev (Ev.shr rfl rfl (by decide)) rfl ?_;rw [i64shr14 h66];rcases Int.lt_or_le S 0 with hS | hS
 ·have hn := hr.neg hS h1;rw [if_neg (by omega), show ((L.getD 66 0 : Nat) : Int) - 18446744073709551616 = -16384 + (((L.getD 66 0 : Nat) : Int) - 18446744073709535232) by omega, show (-16384 + (((L.getD 66 0 : Nat) : Int) - 18446744073709535232)) / 16384 = -1 by omega];refine za rfl (zz (kh5 (zc fun _ kh7 => Sr fun _ kh8 => zm rfl ?_)));refine WL.ev (Ev.neq rfl rfl) rfl ?_;refine zz (kh8 ?_);refine zy rfl ?_ ?_<;>intro hc1<;>try simp only [qs] at hc1
  ·simp at hc1
  ·refine zkk ?_
   refine kh7 (zc fun _ kh10 => Sr fun _ kh11 => zm rfl (zm rfl ?_));refine WL.ev (Ev.quoIn rfl rfl (by decide) (by decide) (by decide)) rfl ?_;rw [show (4238 : Int) / 64 = ((66 : Nat) : Int) by decide];refine WL.ev (Ev.nilPtr rfl) rfl ?_;refine WL.ev (Ev.ixT (66) rfl rfl (by omega) (by omega)) rfl ?_;refine WL.ev (Ev.load rfl rfl (hB.t64 (by first | omega | (simp; omega)))) rfl ?_;refine zm rfl ?_;refine WL.ev (Ev.remIn rfl rfl (by decide) (by decide)) rfl ?_;rw [show (4238 : Int) % 64 = 14 by decide];refine WL.ev (Ev.subIn rfl rfl (by decide)) rfl ?_;rw [show (64 : Int) - 14 = ((50 : Nat) : Int) by decide];refine WL.ev (Ev.shlU64 rfl rfl) rfl ?_;refine WL.ev (Ev.neq rfl rfl) rfl ?_;refine zz (kh11 ?_);refine zy rfl ?_ ?_<;>intro hc2<;>try simp only [qs] at hc2
   ·refine Sr fun _ kh13 => za rfl (zz (kh13 ?_));refine zr (zr1 rfl rfl ?_);exact ⟨rfl, hch⟩
   ·have hx50 := hc2
    refine zkk ?_;refine kh10 (zc fun _ kh15 => Sr fun _ kh16 => zm rfl ?_);refine WL.ev (Ev.nilPtr rfl) rfl ?_;refine zm rfl ?_;refine WL.ev (Ev.quoIn rfl rfl (by decide) (by decide) (by decide)) rfl ?_;rw [show (4238 : Int) / 64 = ((66 : Nat) : Int) by decide];refine WL.ev (Ev.sliceAH 66 rfl rfl rfl (by decide)) rfl ?_;refine zn rfl (zm rfl (zz (kh16 ?_)));refine CW.block ?_;refine CW.loop (S := fun i : Nat => [(36, .slice (some ⟨b, 0, none⟩) 66 67), (37, .int .i64 66), (38, .int .i64 (i : Int))]) (Inv := KGr L R T b w) (mu := fun i => 66 - i) (0) ?_ ?_ ?_
    ·exact ⟨by omega, fun j hj => by omega, hB, hch⟩
    ·exact SLp
    ·rintro i wr ⟨hi66, hz, hB, hch⟩;have hCi := hr.w.getD i;refine Sr fun _ kh18 => ?_;refine WL.ev (Ev.lss rfl rfl) rfl ?_;refine zz (kh18 (zc fun _ kh20 => ?_));refine zy rfl ?_ ?_<;>intro hc3<;>try simp only [qs] at hc3
     ·refine zkk ?_
      refine kh20 (zc fun _ kh21 => ?_);refine CW.block ?_;refine Sr fun _ kh22 => ?_;refine WL.ev (Ev.ixB (i) rfl rfl (by omega) (by omega)) rfl ?_;refine WL.ev (Ev.load rfl rfl (hB.t64 (by first | omega | (simp; omega)))) rfl ?_;refine za rfl (zz (kh22 (Sr fun _ kh24 => zm rfl ?_)));refine WL.ev (Ev.neq rfl rfl) rfl ?_;refine zz (kh24 ?_);refine zy rfl ?_ ?_<;>intro hc4<;>try simp only [qs] at hc4
      ·refine Sr fun _ kh26 => za rfl (zz (kh26 ?_));refine zr (zr1 rfl rfl ?_);exact ⟨rfl, hch⟩
      ·refine zkk ?_
       refine kh21 ?_;refine zR fun _ kr28 => ?_;(first | refine zi rfl rfl ?_ | refine zo rfl rfl ?_);refine zm rfl ?_;refine WL.nil (kr28 _ _ _ ?_);refine ⟨rfl, i + 1, ?_, ?_, ?_⟩
       ·exact SLp
       ·exact ⟨by omega, fun j hj => by rcases Nat.lt_or_ge j i with q | q; exact hz j q; rw [show j = i by omega]; omega, hB, hch⟩
       ·omega
     ·exfalso
      have h0 := tv_take0 (L := L) (i := 66) (by omega) (fun j hj => hz j (by omega));have := hn.2.1 (by omega);omega
 ·have hp := hr.pos hS h2;rw [if_pos (by omega), show L.getD 66 0 / 16384 = 0 by omega];refine za rfl (zz (kh5 (zc fun _ kh29 => Sr fun _ kh30 => zm rfl ?_)));refine WL.ev (Ev.neq rfl rfl) rfl ?_;refine zz (kh30 ?_);refine zy rfl ?_ ?_<;>intro hc5<;>try simp only [qs] at hc5
  ·refine Sr fun _ kh32 => zm rfl ?_
   refine WL.ev (Ev.neq rfl rfl) rfl ?_;refine za rfl (zz (kh32 ?_));refine zr (zr1 rfl rfl ?_);exact ⟨rfl, hch⟩
  ·simp at hc5

end

/- Package super: size. No condition. -/
section
open Go Sx Wd
set_option exponentiation.threshold 5000

theorem splice_all : ∀ (vs pre l : List Value), l.length = vs.length → Sx.splice (pre ++ l) pre.length vs = pre ++ vs
  | [], pre, l, h => by
    have : l = [] := List.length_eq_zero_iff.1 (by simpa using h)
    subst this; simp [Sx.splice]
  | v :: vs, pre, [], h => by simp at h
  | v :: vs, pre, x :: l, h => by
    have := splice_all vs (pre ++ [v]) l (by simpa using h)
    simp only [Sx.splice]
    rw [show (pre ++ x :: l).set pre.length v = pre ++ [v] ++ l by simp]
    simpa using this
theorem TB.nil {w : World} {b : Nat} {T : TypeId} {L : List Nat} (h : TB w b T L []) : BK w b T (L.map u64v) := by
  unfold TB at h; rwa [List.append_nil] at h
theorem TB.of {w : World} {b : Nat} {T : TypeId} {L : List Nat} (h : BK w b T (L.map u64v)) : TB w b T L [] := by
  unfold TB; rwa [List.append_nil]

theorem size_spec (L : List Nat) (w : World) (hL : L.length = 67) (hW : W64 L) : Ret Tryz.prog 197 [.agg (L.map u64v).toArray] w fun u w' => ∃ C, u = .agg (C.map u64v).toArray ∧ C.length = 67 ∧ W64 C ∧ tv C = (if 9223372036854775808 ≤ L.getD 66 0 then (MM - tv L) % MM else tv L) ∧ Chg [] w w' := by
 have hch : Chg [] w w := Chg.refl _ _;refine zE1 Tryz.func197 rfl ?_;refine Sr fun _ kh1 => ?_;refine WL.boxB (l := L.map u64v) rfl rfl rfl fun b1 wm1 hb1 hcm1 hge1 => ?_;have hB1 : TB wm1 b1 249 L [] := TB.of hb1;have hch := hch.trans hcm1;refine WL.allocB (l := (List.replicate 67 0).map u64v) rfl rfl fun b2 wm2 hb2 hcm2 hge2 => ?_;have hne := zdd hB1.lt hge2;have hB1 := hB1.keep0 hcm2;have hch := hch.trans hcm2;have hw2 := hcm1.size;have hw3 := hcm2.size;refine zz (kh1 (zc fun _ kh3 => Sr fun _ kh4 => ?_));refine WL.call hasF198 rfl rfl (neg_spec b1 L _ hB1 hL hW) fun v w1 h' => ?_;obtain ⟨rfl, rfl⟩ := h';refine zz (kh4 ?_);refine zy rfl ?_ ?_<;>intro hc1<;>try simp only [qs] at hc1
 ·have hc63 : 9223372036854775808 ≤ L.getD 66 0 := by simpa using hc1
  refine zR fun _ kr6 => ?_;refine WL.call hasF276 rfl rfl (minus_spec b1 L _ hB1 hL hW) fun v w2 h' => ?_;obtain ⟨C, hB1, hC67, hCW, hCt, hC4⟩ := h';have hb2 := hb2.kq hC4;have hch := hch.step hC4 (fun y hy => by simp only [List.mem_singleton] at hy; subst hy; exact .inr (by omega));refine WL.nil (kr6 _ _ _ (kh3 ?_));refine Sr fun _ kh7 => ?_;refine WL.ev (Ev.loadA rfl rfl (TB.nil hB1) (by simp [hC67])) rfl ?_;refine WL.storeB (l' := C.map u64v) rfl rfl (by simp [hC67]) (by intro v hv; obtain ⟨x, _, rfl⟩ := List.mem_map.1 hv; rfl) hb2 (by simp [hC67]) (splice_all (C.map u64v) [] ((List.replicate 67 0).map u64v) (by simp [hC67])) fun ws hb2_ hcs => ?_;have hch := hch.step hcs (fun y hy => by simp only [List.mem_singleton] at hy; subst hy; exact .inr (by omega));refine zz (kh7 ?_);refine zr (bodyA.retR1 rfl (RVal.cell rfl (BK.varA hb2_ rfl (by simp [hC67]))) ?_);exact ⟨C, rfl, hC67, hCW, by rw [if_pos hc63]; exact hCt, hch⟩
 ·have hc63 : ¬ 9223372036854775808 ≤ L.getD 66 0 := by simpa using hc1
  refine zkk ?_;refine kh3 (Sr fun _ kh9 => ?_);refine WL.ev (Ev.loadA rfl rfl (TB.nil hB1) (by simp [hL])) rfl ?_;refine WL.storeB (l' := L.map u64v) rfl rfl (by simp [hL]) (by intro v hv; obtain ⟨x, _, rfl⟩ := List.mem_map.1 hv; rfl) hb2 (by simp [hL]) (splice_all (L.map u64v) [] ((List.replicate 67 0).map u64v) (by simp [hL])) fun ws hb2_ hcs => ?_;have hch := hch.step hcs (fun y hy => by simp only [List.mem_singleton] at hy; subst hy; exact .inr (by omega));refine zz (kh9 ?_);refine zr (bodyA.retR1 rfl (RVal.cell rfl (BK.varA hb2_ rfl (by simp [hL]))) ?_);exact ⟨L, rfl, hL, hW, by rw [if_neg hc63], hch⟩

end

/- Package super: count, put. No condition. -/
section
open Go Sx Wd
set_option exponentiation.threshold 5000

/-- Where things of a sort are counted. -/
def countA (cls : Nat) (neg : Bool) (b : Nat) : Option Addr :=
  if cls = 4 then some ⟨b, 67, none⟩ else if cls = 3 ∧ neg = true then some ⟨b, 69, none⟩ else if cls = 3 then some ⟨b, 68, none⟩
  else if cls = 0 ∧ neg = true then some ⟨b, 70, none⟩ else if cls = 0 then some ⟨b, 71, none⟩ else none

theorem acount_spec (b : Nat) (t : TH) (w : World) (hW3 : t.W.length = 3) : Ret Tryz.prog 273 [.pointer (some ⟨b, 0, none⟩), .agg (thingV t).toArray] w fun u w' => u = .pointer (countA t.cls t.neg b) ∧ Chg [] w w' := by
 obtain ⟨cls, neg, tn, a_, W⟩ := t;dsimp only at hW3;obtain ⟨w0, w1, w2, rfl⟩ : ∃ w0 w1 w2, W = [w0, w1, w2] := by match W, hW3 with | [x, y, z], _ => exact ⟨_, _, _, rfl⟩
 dsimp only;have hch : Chg [] w w := Chg.refl _ _;refine zE2 Tryz.func273 rfl ?_;refine Sr fun _ kh1 => ?_;refine zBh rfl rfl rfl hch fun b3 wm3 hb3 hcm3 hge3 hgehch3 hch => ?_;refine za rfl (zz (kh1 (zc fun _ kh3 => ?_)));refine CW.block ?_;refine Sr fun _ kh4 => zf rfl (zl hb3 rfl rfl (zq rfl rfl (za rfl (zz (kh4 ?_)))));refine zy rfl ?_ ?_<;>intro hc1<;>try simp only [qs] at hc1
 ·refine Sr fun _ kh6 => zm rfl ?_
  refine WL.ev (Ev.nilPtr rfl) rfl ?_;refine zf rfl (zf rfl (za rfl (zz (kh6 ?_))));refine zr (zr1 rfl rfl ?_);refine ⟨?_, hch⟩;unfold countA;rw [if_pos (by omega)]
 ·refine CW.seqM 13 (decide (cls = 3 ∧ neg = true)) ?_ ?_
  ·refine zR fun _ kr8 => ?_;refine zf rfl (zl hb3 rfl rfl (zq rfl rfl (zm rfl ?_)));refine zb ?_ ?_<;>intro hg2<;>try simp only [qs] at hg2
   ·refine zw rfl (zf rfl (zw rfl (zl hb3 rfl rfl (zt rfl rfl (za rfl ?_)))));refine WL.nil (kr8 _ _ _ ?_);refine ⟨rfl, rfl, Subs.consB rfl ?_ ?_⟩
    ·first | (simp_all; done) | (simp; omega) | (cases neg <;> simp_all <;> omega)
    ·exact SMg
   ·refine zv rfl (zv rfl (ze rfl rfl (za rfl ?_)));refine WL.nil (kr8 _ _ _ ?_);refine ⟨rfl, rfl, Subs.consB rfl ?_ ?_⟩
    ·first | (simp_all; done) | (simp; omega) | (cases neg <;> simp_all <;> omega)
    ·exact SMg
  ·refine zy rfl ?_ ?_<;>intro hc3<;>try simp only [qs] at hc3
   ·have hk3n := hc3
    refine Sr fun _ kh9 => zm rfl ?_;refine WL.ev (Ev.nilPtr rfl) rfl ?_;refine zf rfl (zf rfl (za rfl (zz (kh9 ?_))));refine zr (zr1 rfl rfl ?_);refine ⟨?_, hch⟩;unfold countA;rw [if_neg (by omega), if_pos hk3n]
   ·have hk3n := hc3
    refine Sr fun _ kh11 => zf rfl (zl hb3 rfl rfl (zq rfl rfl (za rfl (zz (kh11 ?_)))));refine zy rfl ?_ ?_<;>intro hc4<;>try simp only [qs] at hc4
    ·refine Sr fun _ kh13 => zm rfl ?_
     refine WL.ev (Ev.nilPtr rfl) rfl ?_;refine zf rfl (zf rfl (za rfl (zz (kh13 ?_))));refine zr (zr1 rfl rfl ?_);refine ⟨?_, hch⟩;unfold countA;rw [if_neg (by omega), if_neg hk3n, if_pos (by omega)]
    ·refine CW.seqM 33 (decide (cls = 0 ∧ neg = true)) ?_ ?_
     ·refine zR fun _ kr15 => ?_;refine zf rfl (zl hb3 rfl rfl (zq rfl rfl (zm rfl ?_)));refine zb ?_ ?_<;>intro hg5<;>try simp only [qs] at hg5
      ·refine zw rfl (zf rfl (zw rfl (zl hb3 rfl rfl (zt rfl rfl (za rfl ?_)))));refine WL.nil (kr15 _ _ _ ?_);refine ⟨rfl, rfl, Subs.consB rfl ?_ ?_⟩
       ·first | (simp_all; done) | (simp; omega) | (cases neg <;> simp_all <;> omega)
       ·exact SMg
      ·refine zv rfl (zv rfl (ze rfl rfl (za rfl ?_)));refine WL.nil (kr15 _ _ _ ?_);refine ⟨rfl, rfl, Subs.consB rfl ?_ ?_⟩
       ·first | (simp_all; done) | (simp; omega) | (cases neg <;> simp_all <;> omega)
       ·exact SMg
     ·refine zy rfl ?_ ?_<;>intro hc6<;>try simp only [qs] at hc6
      ·have hk0n := hc6
       refine Sr fun _ kh16 => zm rfl ?_;refine WL.ev (Ev.nilPtr rfl) rfl ?_;refine zf rfl (zf rfl (za rfl (zz (kh16 ?_))));refine zr (zr1 rfl rfl ?_);refine ⟨?_, hch⟩;unfold countA;rw [if_neg (by omega), if_neg hk3n, if_neg (by omega), if_pos hk0n]
      ·have hk0n := hc6
       refine Sr fun _ kh18 => zf rfl (zl hb3 rfl rfl (zq rfl rfl (za rfl (zz (kh18 ?_)))));refine zy rfl ?_ ?_<;>intro hc7<;>try simp only [qs] at hc7
       ·refine Sr fun _ kh20 => zm rfl ?_
        refine WL.ev (Ev.nilPtr rfl) rfl ?_;refine zf rfl (zf rfl (za rfl (zz (kh20 ?_))));refine zr (zr1 rfl rfl ?_);refine ⟨?_, hch⟩;unfold countA;rw [if_neg (by omega), if_neg hk3n, if_neg (by omega), if_neg hk0n, if_pos (by omega)]
       ·refine zkk ?_
        refine kh3 (Sr fun _ kh22 => za rfl (zz (kh22 ?_)));refine zr (zr1 rfl rfl ?_);refine ⟨?_, hch⟩;unfold countA;rw [if_neg (by omega), if_neg hk3n, if_neg (by omega), if_neg hk0n, if_neg (by omega)]

theorem aput_spec {R : List Value} (b : Nat) (L W : List Nat) (a_ : Nat) (tn less : Bool) (S : Int) (w : World) (hB : TB w b 251 L R) (hr : Rep L S) (hW3 : W.length = 3) (hWW : W64 W) (ha : a_ ≤ 64) (S2 : Int) (hS2 : S2 = if (tn != less) = true then S - ((tv W * 18446744073709551616 ^ a_ : Nat) : Int) else S + ((tv W * 18446744073709551616 ^ a_ : Nat) : Int)) (h1 : -((16384 * BB : Nat) : Int) < S2) (h2 : S2 < (16384 * BB : Nat)) : Ret Tryz.prog 274 [.pointer (some ⟨b, 0, none⟩), .agg (termV tn a_ W).toArray, .bool less] w fun u w' => u = .bool true ∧ ∃ C, TB w' b 251 C R ∧ Rep C S2 ∧ Chg [b] w w' := by
 obtain ⟨x0, x1, x2, rfl⟩ : ∃ x0 x1 x2, W = [x0, x1, x2] := by match W, hW3 with | [x, y, z], _ => exact ⟨_, _, _, rfl⟩
 have hch : Chg [b] w w := Chg.refl _ _;refine zE3 Tryz.func274 rfl ?_;refine Sr fun _ kh1 => ?_;refine zBh rfl rfl rfl hch fun b4 wm4 hb4 hcm4 hge4 hgehch4 hch => ?_;have hneb4 : b ≠ b4 := by have := hB.lt; omega
 have hB := hB.keep0 hcm4;refine za rfl (zz (kh1 (zc fun _ kh3 => ?_)));refine CW.regionTC 5 hmix (by kernel_rfl) fun kR4 kr4 hdr => ?_;have hch := hch.ta hdr;have hB := hB.keep0 hdr;have hb4 := hb4.k0 hdr;refine ym rfl ?_;refine WS.ev (Ev.nilPtr rfl) rfl ?_;refine WS.ev (Ev.fieldAddr rfl) rfl ?_;refine WS.ev (Ev.loadA rfl rfl hb4 rfl) rfl ?_;refine ym rfl ?_;refine WS.nil ?_;refine WL.call hasF315 rfl rfl (move_spec b L [x0, x1, x2] a_ tn less _ hB hr.len hr.w rfl hWW ha) fun v w1 h' => ?_;obtain ⟨C, hB, hCl, hCw, hMv, hC12⟩ := h';have hRC := hMv.rep hr hCl hCw;rw [← hS2] at hRC;have hch := hch.step hC12 (fun y hy => by simp only [List.mem_singleton] at hy; subst hy; exact .inl (by simp));refine WL.nil (kr4 _ _ _ (kh3 ?_));refine zc fun _ kh5 => Sr fun _ kh6 => zm rfl ?_;refine WL.ev (Ev.nilPtr rfl) rfl ?_;refine zf rfl ?_;refine WL.call hasF316 rfl rfl (great_spec b C S2 _ hB hRC h1 h2) fun v w2 h' => ?_;obtain ⟨rfl, hC16⟩ := h';have hch := hch.ta hC16;have hB := hB.keep0 hC16;refine zz (kh6 ?_);refine CW.condF rfl ?_;refine zkk ?_;refine kh5 (Sr fun _ kh8 => za rfl (zz (kh8 ?_)));refine zr (zr1 rfl rfl ?_);exact ⟨rfl, C, hB, hRC, hch⟩

end

/- Package super: more, Add. No condition. -/
section
open Go Sx Wd
set_option exponentiation.threshold 5000

/-- The counts when one more is put. -/
def cnt1 (s : SP) (cls : Nat) (neg : Bool) : SP :=
  if cls = 4 then ⟨s.na + 1, s.up, s.dn, s.mi, s.pl, s.al + 1⟩ else if cls = 3 ∧ neg = true then ⟨s.na, s.up, s.dn + 1, s.mi, s.pl, s.al + 1⟩ else if cls = 3 then ⟨s.na, s.up + 1, s.dn, s.mi, s.pl, s.al + 1⟩
  else if cls = 0 ∧ neg = true then ⟨s.na, s.up, s.dn, s.mi + 1, s.pl, s.al + 1⟩ else if cls = 0 then ⟨s.na, s.up, s.dn, s.mi, s.pl + 1, s.al + 1⟩ else ⟨s.na, s.up, s.dn, s.mi, s.pl, s.al + 1⟩
/-- What a thing adds, in units of the lowest bit. -/
def thv (t : TH) : Int := if t.cls = 1 ∨ t.cls = 2 then (if t.tn = true then -((tv t.W * 18446744073709551616 ^ t.at_ : Nat) : Int) else ((tv t.W * 18446744073709551616 ^ t.at_ : Nat) : Int)) else 0
theorem TB.tl {w : World} {b : Nat} {T : TypeId} {L : List Nat} {R : List Value} {j : Nat} {v : Value} (h : TB w b T L R) (hL : L.length = 67) (hv : R[j]? = some v) : w.cell? ⟨b, 67 + j, none⟩ = some v := by rw [← hL]; exact h.tail_ hv
theorem TB.setr {L : List Nat} {R R' : List Value} {i j : Nat} {v : Value} (hL : L.length = 67) (hi : i = 67 + j) (hR : R.set j v = R') : (L.map u64v ++ R).set i v = L.map u64v ++ R' := by
  subst hi
  rw [List.set_append_right _ _ (by simp; omega), List.length_map, hL, Nat.add_sub_cancel_left, hR]

theorem countA_cases (s : SP) (cls : Nat) (neg : Bool) (b N : Nat) (hs : s.le N) (hc : cls ≤ 4) :
    (∃ k v : Nat, countA cls neg b = some ⟨b, 67 + k, none⟩ ∧ k < 5 ∧ s.cells[k]? = some (.int .i64 (v : Int)) ∧ v ≤ N ∧ (s.cells.set k (.int .i64 ((v : Int) + 1))).set 5 (.int .i64 ((s.al : Int) + 1)) = (cnt1 s cls neg).cells ∧ (s.cells.set k (.int .i64 ((v : Int) + 1)))[5]? = some (.int .i64 (s.al : Int)) ∧ ¬ (cls = 1 ∨ cls = 2))
    ∨ (countA cls neg b = none ∧ s.cells.set 5 (.int .i64 ((s.al : Int) + 1)) = (cnt1 s cls neg).cells ∧ (cls = 1 ∨ cls = 2)) := by
  obtain ⟨a1, a2, a3, a4, a5, a6⟩ := hs
  unfold countA cnt1
  by_cases q1 : cls = 4
  · rw [if_pos q1, if_pos q1]; exact .inl ⟨0, s.na, rfl, by decide, rfl, a1, by simp [SP.cells], rfl, by omega⟩
  rw [if_neg q1, if_neg q1]
  by_cases q2 : cls = 3 ∧ neg = true
  · rw [if_pos q2, if_pos q2]; exact .inl ⟨2, s.dn, rfl, by decide, rfl, a3, by simp [SP.cells], rfl, by omega⟩
  rw [if_neg q2, if_neg q2]
  by_cases q3 : cls = 3
  · rw [if_pos q3, if_pos q3]; exact .inl ⟨1, s.up, rfl, by decide, rfl, a2, by simp [SP.cells], rfl, by omega⟩
  rw [if_neg q3, if_neg q3]
  by_cases q4 : cls = 0 ∧ neg = true
  · rw [if_pos q4, if_pos q4]; exact .inl ⟨3, s.mi, rfl, by decide, rfl, a4, by simp [SP.cells], rfl, by omega⟩
  rw [if_neg q4, if_neg q4]
  by_cases q5 : cls = 0
  · rw [if_pos q5, if_pos q5]; exact .inl ⟨4, s.pl, rfl, by decide, rfl, a5, by simp [SP.cells], rfl, by omega⟩
  rw [if_neg q5, if_neg q5]
  exact .inr ⟨rfl, by simp [SP.cells], by omega⟩

theorem more_spec (b : Nat) (L : List Nat) (t : TH) (s : SP) (S : Int) (w : World) (hB : TB w b 251 L s.cells) (hr : Rep L S) (hW3 : t.W.length = 3) (hWW : W64 t.W) (ha : t.at_ ≤ 64) (hcl : t.cls ≤ 4) (hs : s.le 1099511627775) (h1 : -((16384 * BB : Nat) : Int) < S + thv t) (h2 : S + thv t < (16384 * BB : Nat)) : Ret Tryz.prog 192 [.pointer (some ⟨b, 0, none⟩), .agg (thingV t).toArray] w fun u w' => u = .int .i64 0 ∧ ∃ C, TB w' b 251 C (cnt1 s t.cls t.neg).cells ∧ Rep C (S + thv t) ∧ Chg [b] w w' := by
 obtain ⟨cls, neg, tn, a_, W⟩ := t;dsimp only at hW3 hWW ha hcl;obtain ⟨x0, x1, x2, rfl⟩ : ∃ x0 x1 x2, W = [x0, x1, x2] := by match W, hW3 with | [x, y, z], _ => exact ⟨_, _, _, rfl⟩
 dsimp only;have hs6 := hs.2.2.2.2.2;have hL := hr.len;have hch : Chg [b] w w := Chg.refl _ _;refine zE2 Tryz.func192 rfl ?_;refine Sr fun _ kh1 => ?_;refine zBh rfl rfl rfl hch fun b3 wm3 hb3 hcm3 hge3 hgehch3 hch => ?_;have hneb3 : b ≠ b3 := by have := hB.lt; omega
 have hB := hB.keep0 hcm3;refine za rfl (zz (kh1 (zc fun _ kh3 => Sr fun _ kh4 => zm rfl ?_)));refine WL.ev (Ev.nilPtr rfl) rfl ?_;refine zf rfl (zf rfl ?_);refine WL.ev (Ev.load rfl rfl (TB.tl (j := 5) hB hL rfl)) rfl ?_;refine zq rfl rfl (zz (kh4 ?_));refine zy rfl ?_ ?_<;>intro hc1<;>try simp only [qs] at hc1
 ·exfalso; omega
 ·refine zkk ?_
  refine kh3 (zc fun _ kh6 => Sr fun _ kh7 => zm rfl (zg hb3 rfl ?_));refine WL.call hasF273 rfl rfl (acount_spec b ⟨cls, neg, tn, a_, [x0, x1, x2]⟩ _ rfl) fun v w1 h' => ?_;obtain ⟨rfl, hC14⟩ := h';have hch := hch.ta hC14;have hB := hB.keep0 hC14;have hb3 := hb3.k0 hC14;dsimp only; rcases countA_cases s cls neg b _ hs hcl with ⟨k, v, hk1, hk2, hk3, hk4, hk5, hk6, hk7⟩ | ⟨hk1, hk5, hk7⟩
  ·rw [hk1];refine za rfl (zz (kh7 (Sr fun _ kh9 => zm rfl ?_)));refine WL.ev (Ev.neqPtrNil rfl rfl) rfl ?_;refine zz (kh9 ?_);refine CW.condT rfl ?_;refine zR fun _ kr11 => ?_;refine zm rfl ?_;refine WL.ev (Ev.nilPtr rfl) rfl ?_;refine WL.ev (Ev.load rfl rfl (TB.tl (j := k) hB hL hk3)) rfl ?_;(first | refine zi rfl rfl ?_ | refine zo rfl rfl ?_);refine WL.ev (Ev.nilPtr rfl) rfl ?_;refine WL.storeC (l' := L.map u64v ++ s.cells.set k (.int .i64 ((v : Int) + 1))) rfl rfl rfl hB (by simp [SP.cells, hL]; omega) (TB.setr (j := k) hL rfl rfl) fun ws5 hB_ hcs5 => ?_;have hch := hch.step hcs5 (fun y hy => by simp only [List.mem_singleton] at hy; subst hy; exact .inl (by simp));have hB := hB_;refine WL.nil (kr11 _ _ _ (kh6 ?_));refine Sr fun _ kh12 => zm rfl ?_;refine WL.ev (Ev.nilPtr rfl) rfl ?_;refine zf rfl (zf rfl ?_);refine WL.ev (Ev.load rfl rfl (TB.tl (j := 5) hB hL hk6)) rfl ?_;(first | refine zi rfl rfl ?_ | refine zo rfl rfl ?_);refine WL.ev (Ev.nilPtr rfl) rfl ?_;refine zf rfl (zf rfl ?_);refine WL.storeC (l' := L.map u64v ++ (cnt1 s cls neg).cells) rfl rfl rfl hB (by simp [SP.cells, hL]) (TB.setr (j := 5) hL rfl hk5) fun ws8 hB_ hcs8 => ?_;have hch := hch.step hcs8 (fun y hy => by simp only [List.mem_singleton] at hy; subst hy; exact .inl (by simp));have hB := hB_;refine zz (kh12 (Sr fun _ kh14 => za rfl (zz (kh14 ?_))));refine zr (zr1 rfl rfl ?_);have e0 : thv ⟨cls, neg, tn, a_, [x0, x1, x2]⟩ = 0 := if_neg hk7;rw [e0, Int.add_zero];exact ⟨rfl, L, hB, hr, hch⟩
  ·rw [hk1];have hb3 : BK _ b3 _ [.int .i64 (cls : Int), .bool neg, .bool tn, .int .i64 (a_ : Int), u64v x0, u64v x1, u64v x2] := hb3;refine za rfl (zz (kh7 (Sr fun _ kh16 => zm rfl ?_)));refine WL.ev (Ev.neqPtrNil rfl rfl) rfl ?_;refine zz (kh16 ?_);refine CW.condF rfl ?_;refine Sr fun _ kh18 => zm rfl (zf rfl ?_);refine WL.ev (Ev.loadB rfl rfl hb3 rfl rfl) rfl ?_;simp only [List.drop_succ_cons, List.drop_zero, List.take_succ_cons, List.take_zero];refine WL.call hasF274 rfl rfl (aput_spec b L [x0, x1, x2] a_ tn false S _ hB hr rfl hWW ha (S + thv ⟨cls, neg, tn, a_, [x0, x1, x2]⟩) (by show S + (if cls = 1 ∨ cls = 2 then _ else _) = _; rw [if_pos hk7]; cases tn <;> simp [Int.sub_eq_add_neg]) h1 h2) fun v w2 h' => ?_;obtain ⟨rfl, C, hB_, hRC, hC25⟩ := h';have hch := hch.step hC25 (fun y hy => by simp only [List.mem_singleton] at hy; subst hy; exact .inl (by simp));have hB := hB_;refine WL.ev (Ev.not rfl) rfl ?_;refine zz (kh18 ?_);refine CW.condF rfl ?_;refine zkk ?_;refine kh6 (Sr fun _ kh20 => zm rfl ?_);refine WL.ev (Ev.nilPtr rfl) rfl ?_;refine zf rfl (zf rfl ?_);refine WL.ev (Ev.load rfl rfl (TB.tl (j := 5) hB hRC.len rfl)) rfl ?_;(first | refine zi rfl rfl ?_ | refine zo rfl rfl ?_);refine WL.ev (Ev.nilPtr rfl) rfl ?_;refine zf rfl (zf rfl ?_);refine WL.storeC (l' := C.map u64v ++ (cnt1 s cls neg).cells) rfl rfl rfl hB (by simp [SP.cells, hRC.len]) (TB.setr (j := 5) hRC.len rfl hk5) fun ws8 hB_ hcs8 => ?_;have hch := hch.step hcs8 (fun y hy => by simp only [List.mem_singleton] at hy; subst hy; exact .inl (by simp));have hB := hB_;refine zz (kh20 (Sr fun _ kh22 => za rfl (zz (kh22 ?_))));refine zr (zr1 rfl rfl ?_);exact ⟨rfl, C, hB, hRC, hch⟩

end

/- Package super: Add. No condition. -/
section
open Go Sx Wd
set_option exponentiation.threshold 5000

theorem oneP_ok {x : Nat} : (oneP x).W.length = 3 ∧ W64 (oneP x).W ∧ (oneP x).at_ ≤ 64 ∧ (oneP x).cls ≤ 4 ∧ (oneP x).cls = (splitP x).cls ∧ (oneP x).neg = (splitP x).neg := by
  have hc := splitP_cls x
  unfold oneP
  split
  · rename_i h
    have hf := splitP_fin h
    exact ⟨rfl, laidW_w (by omega) (by decide) (by omega), by dsimp only; omega, hc, rfl, rfl⟩
  · exact ⟨rfl, fun y hy => by simp at hy; omega, by dsimp only; omega, hc, rfl, rfl⟩

theorem acAdd_spec (b : Nat) (L : List Nat) (x : Nat) (s : SP) (S : Int) (w : World) (hB : TB w b 251 L s.cells) (hr : Rep L S) (hx : x < 18446744073709551616) (hs : s.le 1099511627775) (h1 : -((16384 * BB : Nat) : Int) < S + thv (oneP x)) (h2 : S + thv (oneP x) < (16384 * BB : Nat)) : Ret Tryz.prog 101 [.pointer (some ⟨b, 0, none⟩), .float .f64 x] w fun u w' => u = .int .i64 0 ∧ ∃ C, TB w' b 251 C (cnt1 s (splitP x).cls (splitP x).neg).cells ∧ Rep C (S + thv (oneP x)) ∧ Chg [b] w w' := by
 have hch : Chg [b] w w := Chg.refl _ _;obtain ⟨ho1, ho2, ho3, ho4, ho5, ho6⟩ := @oneP_ok x;refine zE2 Tryz.func101 rfl ?_;refine Sr fun _ kh1 => za rfl (zz (kh1 (Sr fun _ kh3 => zm rfl (zm rfl ?_))));refine WL.call hasF193 rfl rfl (one_spec x _ hx) fun v w1 h' => ?_;obtain ⟨rfl, hC7⟩ := h';have hch := hch.ta hC7;have hB := hB.keep0 hC7;refine WL.call hasF192 rfl rfl (more_spec b L (oneP x) s S _ hB hr ho1 ho2 ho3 ho4 hs h1 h2) fun v w2 h' => ?_;obtain ⟨rfl, C, hB, hRC, hC8⟩ := h';rw [ho5, ho6] at hB;have hch := hch.step hC8 (fun y hy => by simp only [List.mem_singleton] at hy; subst hy; exact .inl (by simp));refine za rfl (zz (kh3 ?_));refine zr (zr1 rfl rfl ?_);exact ⟨rfl, C, hB, hRC, hch⟩

end

/- math/bits: Mul64. No condition. -/
section
open Go Sx Wd
set_option exponentiation.threshold 5000

end

/- Package super: product. No condition. -/
section
open Go Sx Wd
set_option exponentiation.threshold 5000

def prodP (x y : Nat) : TH :=
  if (splitP x).cls = 4 ∨ (splitP y).cls = 4 ∨ (min (splitP x).cls (splitP y).cls = 0 ∧ max (splitP x).cls (splitP y).cls = 3) then ⟨4, false, false, 0, [0, 0, 0]⟩
  else if (splitP x).cls = 3 ∨ (splitP y).cls = 3 then ⟨3, (splitP x).neg != (splitP y).neg, false, 0, [0, 0, 0]⟩
  else if (splitP x).cls = 0 ∨ (splitP y).cls = 0 then ⟨0, (splitP x).neg != (splitP y).neg, false, 0, [0, 0, 0]⟩
  else ⟨2, (splitP x).neg != (splitP y).neg, (splitP x).neg != (splitP y).neg, ((splitP x).exp + (splitP y).exp + 2148).toNat / 64, laidW ((splitP x).frac * (splitP y).frac / 18446744073709551616) ((splitP x).frac * (splitP y).frac % 18446744073709551616) (((splitP x).exp + (splitP y).exp + 2148).toNat % 64)⟩
end

/- Package super: AddProduct. No condition. -/
section
open Go Sx Wd
set_option exponentiation.threshold 5000

end

/- Package super: Exact. No condition. -/
section
open Go Sx Wd
set_option exponentiation.threshold 5000

/-- Words of 64 bits as pairs of words. -/
def prs : List Nat → List Nat
  | [] => []
  | x :: l => x % 4294967296 :: x / 4294967296 :: prs l
theorem prs_len : ∀ l, (prs l).length = 2 * l.length
  | [] => rfl
  | x :: l => by simp only [prs, List.length_cons, prs_len l]; omega
theorem prs_snoc : ∀ (l : List Nat) (x : Nat), prs (l ++ [x]) = prs l ++ [x % 4294967296, x / 4294967296]
  | [], x => rfl
  | y :: l, x => by simp only [List.cons_append, prs, prs_snoc l x]
theorem prs_val : ∀ l, val (prs l) = tv l
  | [] => rfl
  | x :: l => by simp only [prs, val, tv, prs_val l]; omega
theorem prs_W : ∀ {l : List Nat}, W64 l → W (prs l)
  | [], _ => fun y hy => by cases hy
  | x :: l, h => by
    have hx := h x (List.mem_cons_self ..)
    exact W_cons.2 ⟨Nat.mod_lt _ (by decide), W_cons.2 ⟨by omega, prs_W fun y hy => h y (List.mem_cons_of_mem _ hy)⟩⟩
theorem prs_step {C : List Nat} {i : Nat} (h : i < C.length) (hW : W64 C) : prs (C.take i) ++ [C.getD i 0 % 4294967296, C.getD i 0 / 4294967296 % 4294967296] = prs (C.take (i + 1)) := by
  have hx := hW.getD i
  rw [show C.take (i + 1) = C.take i ++ [C.getD i 0] by rw [List.take_add_one, List.getD_eq_getElem?_getD, List.getElem?_eq_getElem h]; rfl, prs_snoc, Nat.mod_eq_of_lt (a := C.getD i 0 / 4294967296) (by omega)]
theorem lt_of_some {l : List Value} {j : Nat} {v : Value} (h : l[j]? = some v) : j < l.length := (List.getElem?_eq_some_iff.1 h).1
theorem wd_len_gen {n k K : Nat} (h : n < 2 ^ k) (hk : k ≤ 32 * K) : (wd n).length ≤ K := wd_length_le.2 (Nat.lt_of_lt_of_le h (Nat.pow_le_pow_right (by decide) hk))
/-- What an accumulator's sum is, as a dyad. -/
def sumD (S : Int) : Dy := (formD (decide (S < 0)) S.natAbs (-2148)).getD Dy.zero
theorem sumD_eq {S : Int} (h1 : -((16384 * BB : Nat) : Int) < S) (h2 : S < (16384 * BB : Nat)) (neg : Bool) : formD neg S.natAbs (-2148) = some (if S = 0 then Dy.zero else ⟨neg, S.natAbs / 2 ^ tz S.natAbs, -2148 + tz S.natAbs⟩) := by
  by_cases h0 : S = 0
  · subst h0; rfl
  · have hn : S.natAbs ≠ 0 := by omega
    have hlt : S.natAbs < 2 ^ 4238 := by
      have : 16384 * BB = 2 ^ 4238 := by unfold BB; rw [show (18446744073709551616 : Nat) = 2 ^ 64 from rfl, ← Nat.pow_mul, show (16384 : Nat) = 2 ^ 14 from rfl, ← Nat.pow_add]
      rw [← this]; omega
    have hb := bl_le.2 hlt
    have ht := tz_lt_bl hn
    rw [if_neg h0, formD_some hn]
    have h3 : (wd (S.natAbs / 2 ^ tz S.natAbs)).length ≤ 8192 := wd_len_gen (Nat.lt_of_le_of_lt (Nat.div_le_self _ _) hlt) (by omega)
    omega
theorem prs_step' {C : List Nat} {i : Nat} (h : i < C.length) (hW : W64 C) : prs (C.take i) ++ [C.getD i 0 % 4294967296, C.getD i 0 / 2 ^ 32 % 4294967296] = prs (C.take (i + 1)) := prs_step h hW
structure KEx (C : List Nat) (b2 : Nat) (w0 : World) (g : Nat × Value) (w : World) : Prop where
  i : g.1 ≤ 67
  gr : GR w 209 u32v w0.heap.size [b2] g.2 (prs (C.take g.1))
  h2 : BK w b2 107 [.bool false, .slice none 0 0, .int .i64 0]
  ge : w0.heap.size ≤ b2
  ch : Chg [] w0 w
theorem rep_abs {L C : List Nat} {S : Int} (hr : Rep L S) (h1 : -((16384 * BB : Nat) : Int) < S) (h2 : S < (16384 * BB : Nat)) (hC : tv C = (if 9223372036854775808 ≤ L.getD 66 0 then (MM - tv L) % MM else tv L)) :
    decide (9223372036854775808 ≤ L.getD 66 0) = decide (S < 0) ∧ tv C = S.natAbs := by
  have hM := MM_eq
  by_cases h0 : S < 0
  · obtain ⟨a, _, c⟩ := hr.neg h0 h1
    rw [if_pos (by omega)] at hC
    refine ⟨decide_eq_decide.2 (by omega), ?_⟩
    rw [hC, Nat.mod_eq_of_lt (by omega)]
    omega
  · obtain ⟨a, c⟩ := hr.pos (by omega) h2
    rw [if_neg (by omega)] at hC
    refine ⟨decide_eq_decide.2 (by omega), ?_⟩
    rw [hC]; omega

theorem Exact_spec {R : List Value} (b : Nat) (L : List Nat) (S : Int) (w : World) (hB : TB w b 251 L R) (hr : Rep L S) (hg : GW w) (h1 : -((16384 * BB : Nat) : Int) < S) (h2 : S < (16384 * BB : Nat)) : Ret Tryz.prog 108 [.pointer (some ⟨b, 0, none⟩)] w fun u w' => DY w' u (sumD S) ∧ Chg [] w w' := by
 have hch : Chg [] w w := Chg.refl _ _;have hLL := hr.len;have hB0 := hB;have hg0 := hg;refine zE1 Tryz.func108 rfl ?_;refine Sr fun _ kh1 => ?_;refine zAh rfl rfl hch fun b2 wm2 hb2 hcm2 hge2 hgehch2 hch => ?_;have hneb2 : b ≠ b2 := by have := hB.lt; omega
 have hB := hB.keep0 hcm2;refine zz (kh1 (Sr fun _ kh3 => zm rfl ?_));refine WL.ev (Ev.nilPtr rfl) rfl ?_;refine zf rfl ?_;refine WL.ev (Ev.loadAgg (cs := L.map u64v) rfl (by simp [hLL]) rfl (fun j v hv => by rw [add_addr, Nat.zero_add]; exact BK.at_ hB (by rw [List.getElem?_append_left (lt_of_some hv)]; exact hv))) rfl ?_;refine WL.call hasF197 rfl rfl (size_spec L _ hLL hr.w) fun v w1 h' => ?_;obtain ⟨C, rfl, hCl, hCw, hCv, hC13⟩ := h';have hch := hch.ta hC13;have hB := hB.keep0 hC13;have hb2 := hb2.k0 hC13;refine WL.allocB (l := (List.replicate 67 0).map u64v) rfl rfl fun b3 wm3 hb3 hcm3 hge3 => ?_;have hne3 : b ≠ b3 := by have := hB.lt; omega
 have hne23 := zdd hb2.lt hge3;have hw3 := hch.size;have hch := hch.trans hcm3;have hb2 := hb2.k0 hcm3;have hB := hB.keep0 hcm3;refine WL.storeB (l' := C.map u64v) rfl rfl (by simp [hCl]) (by intro v hv; obtain ⟨x, _, rfl⟩ := List.mem_map.1 hv; rfl) hb3 (by simp [hCl]) (splice_all (C.map u64v) [] ((List.replicate 67 0).map u64v) (by simp [hCl])) fun ws3 hb3 hcs3 => ?_;have hch := hch.step hcs3 (fun y hy => by simp only [List.mem_singleton] at hy; subst hy; exact .inr (by omega));have hb2 := hb2.kq hcs3;have hB := hB.kq hcs3;refine zz (kh3 (Sr fun _ kh5 => za rfl (zz (kh5 (zc fun _ kh7 => Sr fun _ kh8 => ?_)))));refine WL.ev (Ev.loadA rfl rfl hb3 (by simp [hCl])) rfl ?_;refine zm rfl (zz (kh8 ?_));refine CW.block ?_;refine CW.loop (S := fun g : Nat × Value => [(0, .pointer (some ⟨b, 0, none⟩)), (2, .pointer (some ⟨b2, 0, none⟩)), (4, g.2), (14, .agg (C.map u64v).toArray), (15, .int .i64 (g.1 : Int))]) (Inv := KEx C b2 w) (mu := fun g => 67 - g.1) ((0, .slice none 0 0)) ?_ ?_ ?_
 ·exact ⟨by omega, GR.nil, hb2, hge2, hch⟩
 ·exact SLp
 ·rintro ⟨i, vo⟩ wr ⟨hi, hgr, hb2, hge2, hch⟩;dsimp only at hi hgr hb2 hge2 hch;dsimp only;have hx := hCw.getD i;have hpl := prs_len (C.take i);rw [List.length_take] at hpl;have hws := hch.size;refine Sr fun _ kh10 => ?_;refine WL.ev (Ev.lss rfl rfl) rfl ?_;refine zz (kh10 (zc fun _ kh12 => ?_));refine zy rfl ?_ ?_<;>intro hc1<;>try simp only [qs] at hc1
  ·refine zkk ?_
   refine kh12 (zc fun _ kh13 => ?_);refine CW.block ?_;refine Sr fun _ kh14 => ?_;refine WL.ev (Ev.indexAr (i := i) (v := u64v (C.getD i 0)) rfl rfl (by omega) rfl (map_at u64v 0 (by omega))) rfl ?_;refine za rfl (zz (kh14 ?_));refine zR fun _ kr16 => ?_;refine zm rfl (zm rfl ?_);refine WL.ev (Ev.conv32 rfl rfl) rfl ?_;refine zm rfl ?_;refine WL.ev (Ev.shrU (b := 32) rfl rfl (by simp only [IntKind.bits]; omega)) rfl ?_;refine WL.ev (Ev.conv32 rfl rfl) rfl ?_;refine WL.buildSlice (m := 2) (cs := [u32v (((C.getD i 0) % 4294967296)), u32v ((((C.getD i 0) / 2 ^ 32) % 4294967296))]) (by decide) (by decide) rfl (by kernel_rfl) rfl fun b24 w24 hn24 => ?_;have hcm24 := hn24.chg;have hge24 := hn24.ge;have hb24 : OB w24 b24 _ [((C.getD i 0) % 4294967296), (((C.getD i 0) / 2 ^ 32) % 4294967296)] := hn24.at_;have hgehch24 := Nat.le_trans hch.size hge24;have hch := hch.ta hcm24;have hneb224 := zdd hb2.lt hge24;have hb2 := hb2.k0 hcm24;have hgr := hgr.keep0 hcm24;refine WL.growR (f := u32v) (lo := w.heap.size) (X := [b2]) (l := prs (C.take i)) (news := [((C.getD i 0) % 4294967296), (((C.getD i 0) / 2 ^ 32) % 4294967296)]) (by rfl) (fun i => rfl) rfl rfl hgr (by first | rfl | (simp; done) | (simp; omega) | omega) hb24.row (by first | omega | exact hch.size | exact Nat.le_refl _) (by intro y hy; simp only [List.mem_singleton] at hy; subst hy; exact hb2.lt) (by simp only [List.length_append, List.length_cons, List.length_nil]; omega) (by simp only [List.length_append, List.length_cons, List.length_nil]; omega) rfl fun v25 w25 hg25 hcg25 => ?_;have hch := GR.frame hgr hcg25 hch (by first | omega | exact Nat.le_refl _);have hb2 := hb2.keep hcg25 (hgr.notin (by first | exact .inl (by simp) | exact .inr (by omega)));have hgr := hg25;rw [show (prs (C.take i) ++ [((C.getD i 0) % 4294967296), (((C.getD i 0) / 2 ^ 32) % 4294967296)]) = prs (C.take (i + 1)) from by exact prs_step' (by omega) hCw] at hgr;refine za rfl ?_;refine WL.nil (kr16 _ _ _ (kh13 ?_));refine zR fun _ kr17 => ?_;(first | refine zi rfl rfl ?_ | refine zo rfl rfl ?_);refine zm rfl ?_;refine WL.nil (kr17 _ _ _ ?_);refine ⟨rfl, (i + 1, v25), ?_, ?_, ?_⟩
   ·exact SLp
   ·exact ⟨by omega, hgr, hb2, hge2, hch⟩
   ·show 67 - (i + 1) < 67 - i; omega
  ·have hi67 : i = 67 := by omega
   subst hi67;have hB := hB0.keep0 hch;have hg := hg0.keep0 hch;have hNU := hgr.nu (by rw [List.take_of_length_le (by omega)]; exact prs_W hCw) (by omega);rw [List.take_of_length_le (by omega)] at hNU;obtain ⟨ea, ec⟩ := rep_abs hr h1 h2 hCv;refine CW.exit ?_;refine kh7 (Sr fun _ kh18 => zm rfl ?_);refine WL.ev (Ev.nilPtr rfl) rfl ?_;refine zf rfl ?_;refine WL.call hasF198 rfl rfl (neg_spec b L _ hB hLL hr.w) fun v w2 h' => ?_;obtain ⟨rfl, rfl⟩ := h';rw [ea];refine zm rfl ?_;refine WL.call hasF128 rfl rfl (Make_spec (decide (S < 0)) vo (prs C) (-2148) _ hNU hg (by omega)) fun v w3 h' => ?_;obtain ⟨hDR, hC33⟩ := h';have hfe := sumD_eq h1 h2 (decide (S < 0));rw [prs_val, ec] at hDR;have hsD : formD (decide (S < 0)) S.natAbs (-2148) = some (sumD S) := by unfold sumD; rw [hfe]; rfl
   rcases hDR with ⟨r, dd, he33, rfl, hN33⟩ | ⟨he33, _⟩
   rotate_left
   · rw [hsD] at he33; cases he33
   rw [hsD] at he33;cases he33;have hch := hch.ta hC33;have hb2 := hb2.k0 hC33;refine zm rfl (zx rfl rfl (zx rfl rfl ?_));refine zAh rfl rfl hch fun b7 wm7 hb7 hcm7 hge7 hgehch7 hch => ?_;have hN33 := hN33.keep0 hcm7;have hneb27 := zdd hb2.lt hge7;have hb2 := hb2.k0 hcm7;refine zss rfl rfl ao hb7 rfl fun ws8 hb7_ hcs8 => ?_;(try simp only [Sx.splice, qt] at hb7_);have hch := hch.s1 hcs8;have hb2 := hb2.kq hcs8;have hN33 := hN33.keepBK hb7 hcs8 an;have hb7 := hb7_;refine za rfl (zz (kh18 (Sr fun _ kh20 => zg hb7 rfl ?_)));refine zss rfl rfl ao hb2 rfl fun ws9 hb2_ hcs9 => ?_;(try simp only [Sx.splice, qt] at hb2_);have hch := hch.s1 hcs9;have hN33 := hN33.keepBK hb2 hcs9 an;have hb2 := hb2_;refine zz (kh20 ?_);refine zr (bodyA.retR1 rfl (RVal.cell rfl (hb2.varA rfl rfl)) ?_);exact ⟨⟨_, rfl, hN33⟩, hch⟩

end

/- Package root: about, digits. No condition. -/
section
open Go Sx Wd
set_option exponentiation.threshold 5000

end

/- Package root: quotient. No condition. -/
section
open Go Sx Wd
set_option exponentiation.threshold 5000

end

/- Package root: forms. No condition. -/
section
open Go Sx Wd
set_option exponentiation.threshold 5000

/-- Cells from an address on. -/
def RC (w : World) (ad : Addr) (l : List Value) : Prop := ∀ j v, l[j]? = some v → w.cell? (ad.add j) = some v
theorem sgD_zero {neg : Bool} {n : Nat} : sgD neg n = 0 ↔ n = 0 := by
  unfold sgD
  by_cases h : n = 0
  · rw [if_pos h]; simp [h]
  · rw [if_neg h]; cases neg <;> simp [h]

end

/- Package root: rounded, Quot. No condition. -/
section
open Go Sx Wd
set_option exponentiation.threshold 5000

/-- A form's value is what it was made of. -/
theorem formD_val {neg : Bool} {n : Nat} {e : Int} {d : Dy} (h : formD neg n e = some d) (h0 : n ≠ 0) : ∃ t : Nat, n = d.m * 2 ^ t ∧ d.e = e + t ∧ d.neg = neg := by
  unfold formD at h
  rw [if_neg h0] at h
  split at h
  · cases h
  · cases h; exact ⟨tz n, (tz_spec h0).2, rfl, rfl⟩
end

/- What numbers are, as whole numbers of 2^-2148, and their sums. No condition. -/
section
open Go Sx Wd
set_option exponentiation.threshold 9000

/-- A number's size in units of 2^-2148 (nought, if it is none or not finite). -/
def fvN (x : Nat) : Nat := if (splitP x).cls = 1 ∨ (splitP x).cls = 2 then (splitP x).frac * 2 ^ ((splitP x).exp + 2148).toNat else 0
def fvI (x : Nat) : Int := if (splitP x).neg = true then -(fvN x : Int) else (fvN x : Int)
theorem b64 (e : Nat) : 18446744073709551616 ^ (e / 64) * 2 ^ (e % 64) = 2 ^ e := by
  rw [show (18446744073709551616 : Nat) = 2 ^ 64 from rfl, ← Nat.pow_mul, ← Nat.pow_add]
  congr 1; omega
theorem thv_one (x : Nat) : thv (oneP x) = fvI x := by
  unfold thv oneP fvI fvN
  by_cases h : (splitP x).cls = 1 ∨ (splitP x).cls = 2
  · obtain ⟨h1, h2, h3, h4⟩ := splitP_fin h
    rw [if_pos h, if_pos h]
    dsimp only
    rw [if_pos h, laidW_val (by omega) (by omega)]
    have e : (0 * 18446744073709551616 + (splitP x).frac) * 2 ^ (((splitP x).exp + 2148).toNat % 64) * 18446744073709551616 ^ (((splitP x).exp + 2148).toNat / 64) = (splitP x).frac * 2 ^ ((splitP x).exp + 2148).toNat := by
      rw [← b64 ((splitP x).exp + 2148).toNat, Nat.zero_mul, Nat.zero_add]; ac_rfl
    rw [e]
  · simp [h]
theorem fvN_lt (x : Nat) : fvN x < 2 ^ 3172 := by
  unfold fvN
  split
  · rename_i h
    obtain ⟨h1, h2, h3, h4⟩ := splitP_fin h
    have h5 : 2 ^ ((splitP x).exp + 2148).toNat ≤ 2 ^ 3119 := Nat.pow_le_pow_right (by decide) (by omega)
    have h6 : (splitP x).frac * 2 ^ ((splitP x).exp + 2148).toNat < 9007199254740992 * 2 ^ 3119 := Nat.lt_of_lt_of_le (Nat.mul_lt_mul_of_pos_right h4 (Nat.two_pow_pos _)) (Nat.mul_le_mul_left _ h5)
    rw [show (9007199254740992 : Nat) = 2 ^ 53 from rfl, ← Nat.pow_add] at h6
    exact h6
  · exact Nat.two_pow_pos _
/-- A product's, in units of 2^-2148. -/
theorem thv_prod {x y : Nat} (hx : (splitP x).cls ≤ 2) (hy : (splitP y).cls ≤ 2) : thv (prodP x y) * (2 ^ 2148 : Nat) = fvI x * fvI y := by
  unfold prodP
  rw [if_neg (by omega), if_neg (by omega)]
  by_cases h : (splitP x).cls = 0 ∨ (splitP y).cls = 0
  · rw [if_pos h]
    have e : fvN x = 0 ∨ fvN y = 0 := by
      unfold fvN
      rcases h with h | h
      · left; rw [if_neg (by omega)]
      · right; rw [if_neg (by omega)]
    have e1 : fvI x * fvI y = 0 := by
      unfold fvI
      rcases e with e | e
      · rw [e]; simp
      · rw [e]; simp
    rw [e1]
    unfold thv
    simp
  · rw [if_neg h]
    have hcx : (splitP x).cls = 1 ∨ (splitP x).cls = 2 := by omega
    have hcy : (splitP y).cls = 1 ∨ (splitP y).cls = 2 := by omega
    obtain ⟨h1, h2, h3, h4⟩ := splitP_fin hcx
    obtain ⟨k1, k2, k3, k4⟩ := splitP_fin hcy
    unfold thv
    dsimp only
    rw [if_pos (.inr rfl), laidW_val (Nat.mod_lt _ (by decide)) (Nat.mod_lt _ (by decide))]
    have e0 : (splitP x).frac * (splitP y).frac / 18446744073709551616 * 18446744073709551616 + (splitP x).frac * (splitP y).frac % 18446744073709551616 = (splitP x).frac * (splitP y).frac := Nat.div_add_mod' ..
    rw [e0]
    have e : (splitP x).frac * (splitP y).frac * 2 ^ (((splitP x).exp + (splitP y).exp + 2148).toNat % 64) * 18446744073709551616 ^ (((splitP x).exp + (splitP y).exp + 2148).toNat / 64) * 2 ^ 2148 = fvN x * fvN y := by
      unfold fvN
      rw [if_pos hcx, if_pos hcy]
      have e2 := b64 ((splitP x).exp + (splitP y).exp + 2148).toNat
      have e3 : 2 ^ ((splitP x).exp + (splitP y).exp + 2148).toNat * 2 ^ 2148 = 2 ^ ((splitP x).exp + 2148).toNat * 2 ^ ((splitP y).exp + 2148).toNat := by
        rw [← Nat.pow_add, ← Nat.pow_add]; congr 1; omega
      calc _ = (splitP x).frac * (splitP y).frac * ((18446744073709551616 ^ (((splitP x).exp + (splitP y).exp + 2148).toNat / 64) * 2 ^ (((splitP x).exp + (splitP y).exp + 2148).toNat % 64)) * 2 ^ 2148) := by ac_rfl
        _ = (splitP x).frac * (splitP y).frac * (2 ^ ((splitP x).exp + 2148).toNat * 2 ^ ((splitP y).exp + 2148).toNat) := by rw [e2, e3]
        _ = _ := by ac_rfl
    generalize (splitP x).frac * (splitP y).frac * 2 ^ (((splitP x).exp + (splitP y).exp + 2148).toNat % 64) * 18446744073709551616 ^ (((splitP x).exp + (splitP y).exp + 2148).toNat / 64) = p at e
    have ei : (p : Int) * (2 ^ 2148 : Nat) = (fvN x : Int) * (fvN y : Int) := by rw [← Int.natCast_mul, e, Int.natCast_mul]
    unfold fvI
    cases (splitP x).neg <;> cases (splitP y).neg <;> simp only [bne_self_eq_false, Bool.true_bne, Bool.false_bne, Bool.not_false, Bool.not_true, if_true, if_false, Bool.false_eq_true, Int.neg_mul, Int.mul_neg, Int.neg_neg] <;> rw [ei]
theorem thv_prod_lt {x y : Nat} (hx : (splitP x).cls ≤ 2) (hy : (splitP y).cls ≤ 2) : (thv (prodP x y)).natAbs < 2 ^ 4196 := by
  have h := thv_prod hx hy
  have h1 := fvN_lt x
  have h2 := fvN_lt y
  have h3 : (fvI x * fvI y).natAbs = fvN x * fvN y := by
    rw [Int.natAbs_mul]
    unfold fvI
    split <;> split <;> simp
  have h4 : fvN x * fvN y < 2 ^ 3172 * 2 ^ 3172 := Nat.mul_lt_mul_of_lt_of_lt h1 h2
  rw [← Nat.pow_add] at h4
  rw [← h3, ← h, Int.natAbs_mul, Int.natAbs_natCast] at h4
  apply Nat.lt_of_mul_lt_mul_right (a := 2 ^ 2148)
  rw [← Nat.pow_add]; exact h4
/-- A list's sum. -/
def sumI (l : List Nat) : Int := (l.map fvI).sum
theorem sum_snoc (l : List Int) (x : Int) : (l ++ [x]).sum = l.sum + x := by
  induction l with
  | nil => simp
  | cons a l ih => simp only [List.cons_append, List.sum_cons, ih]; omega
theorem sumI_step {l : List Nat} {i : Nat} (h : i < l.length) : sumI (l.take (i + 1)) = sumI (l.take i) + fvI (l.getD i 0) := by
  unfold sumI
  rw [take_step h, List.map_append, List.map_cons, List.map_nil, sum_snoc]
theorem fvI_abs (x : Nat) : (fvI x).natAbs = fvN x := by unfold fvI; split <;> simp
theorem sumI_le : ∀ (l : List Nat), (sumI l).natAbs ≤ l.length * 2 ^ 3172
  | [] => by simp [sumI]
  | x :: l => by
    have h1 := sumI_le l
    have h2 := fvN_lt x
    have h3 := fvI_abs x
    have e : sumI (x :: l) = fvI x + sumI l := by simp [sumI]
    rw [e, List.length_cons, Nat.add_mul, Nat.one_mul]
    generalize 2 ^ 3172 = B at *
    generalize l.length * B = C at *
    omega
theorem BB_pow : 16384 * BB = 2 ^ 4238 := by
  unfold BB
  rw [show (18446744073709551616 : Nat) = 2 ^ 64 from rfl, ← Nat.pow_mul, show (16384 : Nat) = 2 ^ 14 from rfl, ← Nat.pow_add]
theorem sumI_in {l : List Nat} (h : l.length ≤ 1099511627776) : -((16384 * BB : Nat) : Int) < sumI l ∧ sumI l < (16384 * BB : Nat) := by
  have h1 := sumI_le l
  have h2 : l.length * 2 ^ 3172 < 2 ^ 41 * 2 ^ 3172 := Nat.mul_lt_mul_of_pos_right (by omega) (Nat.two_pow_pos _)
  rw [← Nat.pow_add] at h2
  have h3 : 2 ^ (41 + 3172) ≤ 16384 * BB := by rw [BB_pow]; exact Nat.pow_le_pow_right (by decide) (by decide)
  generalize 16384 * BB = M at *
  generalize 2 ^ (41 + 3172) = M2 at *
  omega
end

/- Package mean: clean, right, told, all. No condition. -/
section
open Go Sx Wd
set_option exponentiation.threshold 5000

theorem intD_ok {n : Int} (h : n.natAbs < 18446744073709551616) : (intD n).ok := formD_ok (intD_eq h)
end

/- Package mean: Mean. No condition. -/
section
open Go Sx Wd
set_option exponentiation.threshold 5000

def isF64 : Value → Bool
  | .float .f64 _ => true
  | _ => false
end

/- Reference of layer 6. No condition. -/
section
open Go Sx Wd

theorem kindP_bits {x : Nat} (hx : x < 18446744073709551616) : kindP x = if 9218868437227405312 < x % 9223372036854775808 then 5 else if x % 9223372036854775808 = 9218868437227405312 ∧ x / 9223372036854775808 = 1 then 4 else if x % 9223372036854775808 = 9218868437227405312 then 3 else if x % 9223372036854775808 = 0 ∧ x / 9223372036854775808 = 1 then 1 else if x % 9223372036854775808 = 0 then 2 else 0 := by
  have e1 : x / 4503599627370496 % 2048 = 2047 ↔ 9218868437227405312 ≤ x % 9223372036854775808 := by omega
  have e2 : (x / 4503599627370496 % 2048 = 2047 ∧ x % 4503599627370496 ≠ 0) ↔ 9218868437227405312 < x % 9223372036854775808 := by omega
  have e3 : x / 9223372036854775808 % 2 = 1 ↔ x / 9223372036854775808 = 1 := by omega
  have e4 : (¬ 0 < x / 4503599627370496 % 2048 ∧ ¬ 0 < x % 4503599627370496) ↔ x % 9223372036854775808 = 0 := by omega
  by_cases h1 : 9218868437227405312 < x % 9223372036854775808
  · have L : kindP x = 5 := by unfold kindP splitP; rw [if_pos (e2.2 h1)]; rfl
    rw [L, if_pos h1]
  · have n1 : ¬ (x / 4503599627370496 % 2048 = 2047 ∧ x % 4503599627370496 ≠ 0) := fun q => h1 (e2.1 q)
    by_cases h2 : x % 9223372036854775808 = 9218868437227405312
    · have p2 := e1.2 (by omega)
      by_cases h3 : x / 9223372036854775808 = 1
      · have L : kindP x = 4 := by
          unfold kindP splitP; rw [if_neg n1, if_pos p2]; simp [e3.2 h3]
        rw [L, if_neg h1, if_pos ⟨h2, h3⟩]
      · have L : kindP x = 3 := by
          have h5 : ¬ x / 9223372036854775808 % 2 = 1 := fun q => h3 (e3.1 q)
          unfold kindP splitP; rw [if_neg n1, if_pos p2]; simp [h5]
        rw [L, if_neg h1, if_neg (fun q => h3 q.2), if_pos h2]
    · have n2 : ¬ x / 4503599627370496 % 2048 = 2047 := fun q => h2 (by have := e1.1 q; omega)
      by_cases h4 : x % 9223372036854775808 = 0
      · have h5 := e4.2 h4
        by_cases h3 : x / 9223372036854775808 = 1
        · have L : kindP x = 1 := by
            unfold kindP splitP; rw [if_neg n1, if_neg n2, if_neg h5.1, if_neg h5.2]; simp [e3.2 h3]
          rw [L, if_neg h1, if_neg (fun q => h2 q.1), if_neg h2, if_pos ⟨h4, h3⟩]
        · have L : kindP x = 2 := by
            have h6 : ¬ x / 9223372036854775808 % 2 = 1 := fun q => h3 (e3.1 q)
            unfold kindP splitP; rw [if_neg n1, if_neg n2, if_neg h5.1, if_neg h5.2]; simp [h6]
          rw [L, if_neg h1, if_neg (fun q => h2 q.1), if_neg h2, if_neg (fun q => h3 q.2), if_pos h4]
      · have L : kindP x = 0 := by
          unfold kindP splitP; rw [if_neg n1, if_neg n2]
          by_cases h6 : 0 < x / 4503599627370496 % 2048
          · rw [if_pos h6]; rfl
          · rw [if_neg h6, if_pos (Classical.byContradiction fun q => h4 (e4.1 ⟨h6, q⟩))]; rfl
        rw [L, if_neg h1, if_neg (fun q => h2 q.1), if_neg h2, if_neg (fun q => h4 q.1), if_neg h4]

/-- What a policy refuses. -/
def refE (s : SP) (pn pi : Int) : Int := if 0 < s.na ∧ pn = 2 then 60 else if 0 < s.up + s.dn ∧ pi = 2 then 61 else 0

end

/- Drawn regions with two operations that may come up in either order. No condition. -/
namespace Sx
open Go

/-- Operation i comes up next. -/
def WHat (P : Program) (ops : Array Oper) (K : KK) (S : World → Prop) (fuel : Nat) (listed : Array Bool) (n : Nat) (D : List Deferred) (s : Sl) (w : World) (i : Nat) : Prop :=
  ∀ a, Fr n D s a → wpOp P ops (post n K) i (fun a' w' => S w' ∧ wpAnyH P .any ops (post n K) S fuel (listed.setIfInBounds i true) a' w') a w
section
variable {P : Program} {A : AQ} {n : Nat} {D : List Deferred} {s : Sl} {w : World} {ops : Array Oper} {K : KK} {S : World → Prop} {fuel : Nat} {listed : Array Bool}
variable {op : Op} {ty : TypeId} {pos : String} {af : Array Edge} {d : Nat} {v : Value}
theorem WH.all2 (i j : Nat) (hr : Region.ready .any ops listed = [i, j]) (h1 : WHat P ops K S fuel listed n D s w i) (h2 : WHat P ops K S fuel listed n D s w j) : WH P ops K S (fuel + 1) listed n D s w := fun a ha =>
  wpAnyH_all hr (by simp) fun k hk => by
    rcases (by simpa using hk : k = i ∨ k = j) with rfl | rfl
    · exact h1 a ha
    · exact h2 a ha
theorem WHat.call (i : Nat) {f : FuncId} {xs : List Operand} {at_ : Array TypeId} {vs : List Value} {R : Value → World → Prop} (hi : ops[i]? = some ⟨some d, .call ⟨.value (.func f), xs.toArray, at_⟩, ty, pos, af, none⟩) (hF : HasF P f) (hx : opnds s xs = some vs) (hd : Nat.blt d n = true) (h : Ret P f vs w R)
  (k : ∀ v w', R v w' → S w' ∧ WH P ops K S fuel (listed.setIfInBounds i true) n D ((d, v) :: s) w') : WHat P ops K S fuel listed n D s w i := fun a ha => by
 unfold wpOp;simp only [hi];rw [if_pos (by simp [Region.wanted])];refine .inl ?_;unfold Oper.wp;rw [exec_call hF rfl hx fun x u hx => ha.eval hx];exact Calls.mono h fun e w' ⟨v, he, hR⟩ => by subst he; exact ⟨(k v w' hR).1, (k v w' hR).2 _ (ha.put hd v)⟩
theorem WHat.one (i : Nat) {w' : World} (hi : ops[i]? = some ⟨some d, op, ty, pos, af, none⟩) (he : Ev P s op ty w v w') (hS : S w') (hd : Nat.blt d n = true)
    (k : WH P ops K S fuel (listed.setIfInBounds i true) n D ((d, v) :: s) w') : WHat P ops K S fuel listed n D s w i := fun a ha => by
  unfold wpOp
  simp only [hi]
  rw [if_pos (by simp [Region.wanted])]
  refine .inl ?_
  unfold Oper.wp
  rw [he a.eval (some d) pos af none fun x u hx => ha.eval hx]
  exact ⟨hS, k _ (ha.put hd v)⟩
theorem WH.buildSliceC (i : Nat) {w0 : World} {t e : TypeId} {de : TypeDesc} {sz by_ es be : Nat} {z ze : Value} {ps : List (Nat × Operand)} {vs : List (Nat × Value)} {cs : List Value} {m : Nat} [hT : HasT P t (.slice e) sz by_ z] [hE : HasT P e de es be ze]
    (hi : ops[i]? = some ⟨some d, .buildSlice t m ps.toArray, ty, pos, af, none⟩) (hr : Region.ready .any ops listed = [i]) (hS : Chg [] w0 w)
    (hm : m * es ≤ 2 ^ 24) (hp : 0 < m * es) (hx : opndP s ps = some vs) (hf : Instr.fill (fun i => some (i * es, es)) ((Array.range (m * es)).map (ze.cells[· % ze.cells.size]!)) vs = some cs.toArray) (hd : Nat.blt d n = true)
    (k : ∀ b w', New w b (.cells cs.toArray e) w' → Chg [] w0 w' → WH P ops K (Chg [] w0) fuel (listed.setIfInBounds i true) n D ((d, .slice (some ⟨b, 0, none⟩) m m) :: s) w') : WH P ops K (Chg [] w0) (fuel + 1) listed n D s w := by
  obtain ⟨b, w', he, hn⟩ := ev_buildSlice (P := P) (ty := ty) (w := w) (t := t) (hT := hT) (hE := hE) hm hp hx hf
  exact WH.one i hi hr he (hS.trans hn.chg) hd (k b w' hn (hS.trans hn.chg))
theorem WHat.allocC (i : Nat) {w0 : World} {t : TypeId} {ds : TypeDesc} {sz by_ : Nat} {z : Value} {l : List Value} [hT : HasT P t ds sz by_ z] (hi : ops[i]? = some ⟨some d, .alloc t, ty, pos, af, none⟩) (hS : Chg [] w0 w) (hl : z.cells = l.toArray) (hd : Nat.blt d n = true)
    (k : ∀ b w', BK w' b t l → Chg [] w w' → w.heap.size ≤ b → Chg [] w0 w' → WH P ops K (Chg [] w0) fuel (listed.setIfInBounds i true) n D ((d, .pointer (some ⟨b, 0, none⟩)) :: s) w') : WHat P ops K (Chg [] w0) fuel listed n D s w i := by
  have hn := new_alloc w (.cells l.toArray t)
  refine WHat.one i (v := .pointer (some ⟨w.heap.size, 0, none⟩)) (w' := w.alloc (.cells l.toArray t)) hi (fun ρ d' pos af g hρ => ?_) (hS.trans hn.chg) hd (k _ _ hn.at_ hn.chg hn.ge (hS.trans hn.chg))
  simp [execOp, Instr.alloc, hT.zero, newVar, newRow, hl]
theorem WH.allocC (i : Nat) {w0 : World} {t : TypeId} {ds : TypeDesc} {sz by_ : Nat} {z : Value} {l : List Value} [hT : HasT P t ds sz by_ z] (hi : ops[i]? = some ⟨some d, .alloc t, ty, pos, af, none⟩) (hr : Region.ready .any ops listed = [i]) (hS : Chg [] w0 w) (hl : z.cells = l.toArray) (hd : Nat.blt d n = true)
    (k : ∀ b w', BK w' b t l → Chg [] w w' → w.heap.size ≤ b → Chg [] w0 w' → WH P ops K (Chg [] w0) fuel (listed.setIfInBounds i true) n D ((d, .pointer (some ⟨b, 0, none⟩)) :: s) w') : WH P ops K (Chg [] w0) (fuel + 1) listed n D s w := fun a ha =>
  wpAnyH_all hr (by simp) fun j hj => by
    obtain rfl : j = i := by simpa using hj
    exact WHat.allocC j hi hS hl hd k a ha
theorem WH.storeBN (i : Nat) {w0 : World} {t : TypeId} {ds : TypeDesc} {sz by_ : Nat} {z0 : Value} {b o : Nat} {l l' vs : List Value} {T : TypeId} {x y : Operand} [hT : HasT P t ds sz by_ z0] (hi : ops[i]? = some ⟨none, .store t x y, ty, pos, af, none⟩) (hr : Region.ready .any ops listed = [i]) (hS : Chg [] w0 w) (hge : w0.heap.size ≤ b)
    (hx : opnd s x = some (.pointer (some ⟨b, o, none⟩))) (hy : opnd s y = some (.agg vs.toArray)) (hs : vs.length = sz) (h1 : ∀ v ∈ vs, v.oneCell' = true)
    (hb : BK w b T l) (ho : o + vs.length ≤ l.length) (he : splice l o vs = l') (k : ∀ w', BK w' b T l' → Chg [b] w w' → Chg [] w0 w' → WH P ops K (Chg [] w0) fuel (listed.setIfInBounds i true) n D s w') : WH P ops K (Chg [] w0) (fuel + 1) listed n D s w := by
  subst he
  obtain ⟨w', he, hu⟩ := evS_storeAgg (P := P) (ty := ty) (t := t) (hT := hT) hx hy hs h1 hb ho
  have hS' : Chg [] w0 w' := hS.step hu.chg fun y hy => .inr (by simp only [List.mem_singleton] at hy; omega)
  exact WH.oneS i hi hr he hS' (k w' hu.at_ hu.chg hS')
end
end Sx

/- What the reference of layer 2 computes, in plain numbers. No condition. -/
section
open Go Sx Wd

structure PlusI (la lb : List Nat) (i : Nat) (L : List Nat) (c : Nat) : Prop where
  le : i ≤ max la.length lb.length ∨ i = max la.length lb.length + 1 ∧ c = 0
  len : L.length = i
  w : W L
  c1 : c ≤ 1
  v : val L + 2 ^ (32 * i) * c = val (la.take i) + val (lb.take i)
structure MinusI (la lb : List Nat) (i : Nat) (L : List Nat) (c : Nat) : Prop where
  le : i ≤ la.length
  len : L.length = i
  w : W L
  c1 : c ≤ 1
  v : val L + val (lb.take i) = val (la.take i) + 2 ^ (32 * i) * c
/-- Digit by digit, from above. -/
structure PartI (la : List Nat) (b k : Nat) (Q : List Nat) (r : Nat) : Prop where
  le : k ≤ la.length
  len : Q.length = la.length
  w : W Q
  z : ∀ j, j < k → Q.getD j 0 = 0
  rl : r < b
  v : val (la.drop k) = val (Q.drop k) * b + r
/-- v's memory is newer than w0. -/
def Fh (w0 : World) (v : Value) : Prop := ∀ ad m c, v = .slice (some ad) m c → w0.heap.size ≤ ad.block
/-- v lies in no word of block b. -/
def Av (b : Nat) (v : Value) : Prop := ∀ ad m c, v = .slice (some ad) m c → ad.block ≠ b
end

/- Reference of layer 2: size, Norm, Of, at, Bit, Len, Low. No condition. -/
section
open Go Sx Wd

end

/- Reference of layer 2: Cmp, Plus, Minus, Times. No condition. -/
section
open Go Sx Wd

end

/- Reference of layer 2: digit, Parts, Moved. No condition. -/
section
open Go Sx Wd

end

/- Reference of layer 3: forms. No condition. -/
section
open Go Sx Wd

end

/- Reference of layer 3: Number, Bits, Of, Int, Neg, Sign. No condition. -/
section
open Go Sx Wd

end

/- Reference of layer 3: Add, Mul, Against. No condition. -/
section
open Go Sx Wd

theorem mulD_form {x y : Dy} (hx : x.ok) (hy : y.ok) : formD (x.neg != y.neg) (x.m * y.m) (x.e + y.e) = mulD x y := by
  unfold mulD
  split
  · rename_i h
    have h0 : x.m * y.m ≠ 0 := fun e => by rw [e, wd_zero] at h; simp at h
    have h1 : x.m ≠ 0 := fun e => h0 (by rw [e, Nat.zero_mul])
    have h2 : y.m ≠ 0 := fun e => h0 (by rw [e, Nat.mul_zero])
    have ho : x.m * y.m % 2 = 1 := by rw [Nat.mul_mod, hx.odd h1, hy.odd h2]
    have ht := tz_odd ho
    exact formD_none h0 (by rw [ht, Nat.pow_zero, Nat.div_one]; omega)
  · rfl
end

/- Reference of layer 3: Against. No condition. -/
section
open Go Sx Wd

end

/- Sums of forms as whole numbers of the lowest unit. No condition. -/
section
open Go Sx Wd

theorem tz_scale {m : Nat} (h : m ≠ 0) (k : Nat) : tz (m * 2 ^ k) = tz m + k := by
  obtain ⟨h1, h2⟩ := tz_spec h
  refine tz_unique (m := m / 2 ^ tz m) ?_ h1
  rw [Nat.pow_add, ← Nat.mul_assoc, ← h2]
theorem formD_scale {neg : Bool} {m k : Nat} {e f : Int} (he : f = e - (k : Int)) : formD neg (m * 2 ^ k) f = formD neg m e := by
  by_cases h0 : m = 0
  · subst h0; rw [Nat.zero_mul, formD_zero, formD_zero]
  · have hk := Nat.two_pow_pos k
    have hn : m * 2 ^ k ≠ 0 := Nat.mul_ne_zero h0 (by omega)
    have ht := tz_scale h0 k
    have hd : m * 2 ^ k / 2 ^ tz (m * 2 ^ k) = m / 2 ^ tz m := by
      rw [ht, Nat.pow_add, Nat.mul_comm (2 ^ tz m), ← Nat.div_div_eq_div_mul, Nat.mul_div_cancel _ hk]
    unfold formD
    rw [if_neg hn, if_neg h0, hd, ht, he]
    have e1 : (1048576 - ((tz m + k : Nat) : Int) < e - (k : Int) ∨ e - (k : Int) < -1048576 - ((tz m + k : Nat) : Int) ∨ 8192 < (wd (m / 2 ^ tz m)).length) ↔ (1048576 - (tz m : Int) < e ∨ e < -1048576 - (tz m : Int) ∨ 8192 < (wd (m / 2 ^ tz m)).length) := by omega
    by_cases h : 1048576 - (tz m : Int) < e ∨ e < -1048576 - (tz m : Int) ∨ 8192 < (wd (m / 2 ^ tz m)).length
    · rw [if_pos (e1.2 h), if_pos h]
    · rw [if_neg (fun q => h (e1.1 q)), if_neg h, show e - (k : Int) + ((tz m + k : Nat) : Int) = e + (tz m : Int) by omega]
/-- Sums that an accumulator may have. -/
def InB (S : Int) : Prop := -((16384 * BB : Nat) : Int) < S ∧ S < (16384 * BB : Nat)
theorem InB.lt {S : Int} (h : InB S) : S.natAbs < 2 ^ 4238 := by
  obtain ⟨h1, h2⟩ := h
  rw [← BB_pow]; omega
theorem sumD_some {S : Int} (h : InB S) {neg : Bool} (hn : S ≠ 0 → neg = decide (S < 0)) : formD neg S.natAbs (-2148) = some (sumD S) := by
  obtain ⟨h1, h2⟩ := h
  have e := sumD_eq h1 h2 (decide (S < 0))
  unfold sumD
  rw [e, sumD_eq h1 h2 neg, Option.getD_some]
  by_cases h0 : S = 0
  · rw [if_pos h0, if_pos h0]
  · rw [if_neg h0, if_neg h0, hn h0]
theorem rsumD_zero : sumD 0 = Dy.zero := rfl
theorem sumD_val {S : Int} (h : InB S) (h0 : S ≠ 0) : sumD S = ⟨decide (S < 0), S.natAbs / 2 ^ tz S.natAbs, -2148 + tz S.natAbs⟩ := by
  obtain ⟨h1, h2⟩ := h
  unfold sumD
  rw [sumD_eq h1 h2, if_neg h0, Option.getD_some]
theorem rsumD_ok {S : Int} (h : InB S) : (sumD S).ok := formD_ok (sumD_some h (neg := decide (S < 0)) (fun _ => rfl))
theorem rsumD_m0 {S : Int} (h : InB S) : (sumD S).m = 0 ↔ S = 0 := by
  constructor
  · intro hm
    apply Classical.byContradiction
    intro h0
    rw [sumD_val h h0] at hm
    have := (tz_spec (n := S.natAbs) (by omega)).1
    dsimp only at hm
    rw [hm] at this; simp at this
  · intro h0; rw [h0]; rfl
theorem scaled_len {p c n : Nat} (h : n = p * 2 ^ c) (hn : n < 2 ^ 4238) : (wd p).length ≤ 8192 := by
  have h1 : p ≤ n := by rw [h]; exact Nat.le_mul_of_pos_right _ (Nat.two_pow_pos _)
  exact wd_len_gen (Nat.lt_of_le_of_lt h1 hn) (by decide)
theorem addD_sum {S T : Int} (hS : InB S) (hT : InB T) (hST : InB (S + T)) : addD (sumD S) (sumD T) = some (sumD (S + T)) := by
  by_cases h0 : S = 0
  · subst h0
    rw [rsumD_zero, Int.zero_add]
    unfold addD; rw [if_pos (show Dy.zero.m = 0 from rfl)]
  by_cases h1 : T = 0
  · subst h1
    rw [rsumD_zero, Int.add_zero]
    unfold addD; rw [if_neg (fun q => h0 ((rsumD_m0 hS).1 q)), if_pos (show Dy.zero.m = 0 from rfl)]
  obtain ⟨-, ha⟩ := tz_spec (n := S.natAbs) (by omega)
  obtain ⟨-, hb⟩ := tz_spec (n := T.natAbs) (by omega)
  have hx := sumD_val hS h0
  have hy := sumD_val hT h1
  have hxm : (sumD S).m ≠ 0 := fun q => h0 ((rsumD_m0 hS).1 q)
  have hym : (sumD T).m ≠ 0 := fun q => h1 ((rsumD_m0 hT).1 q)
  have hsl := hS.lt
  have htl := hT.lt
  generalize tz S.natAbs = a at *
  generalize tz T.natAbs = b at *
  generalize hX : S.natAbs / 2 ^ a = X at *
  generalize hY : T.natAbs / 2 ^ b = Y at *
  obtain ⟨c, hc⟩ : ∃ c, c = min a b := ⟨_, rfl⟩
  have he : min (sumD S).e (sumD T).e = -2148 + (c : Int) := by rw [hx, hy]; dsimp only; omega
  have hpe : ((sumD S).e - (-2148 + (c : Int))).toNat = a - c := by rw [hx]; dsimp only; omega
  have hqe : ((sumD T).e - (-2148 + (c : Int))).toNat = b - c := by rw [hy]; dsimp only; omega
  have hp : S.natAbs = X * 2 ^ (a - c) * 2 ^ c := by rw [Nat.mul_assoc, ← Nat.pow_add, show a - c + c = a by omega]; exact ha
  have hq : T.natAbs = Y * 2 ^ (b - c) * 2 ^ c := by rw [Nat.mul_assoc, ← Nat.pow_add, show b - c + c = b by omega]; exact hb
  rw [addD_eq hxm hym rfl rfl, he, hpe, hqe]
  rw [show (sumD S).m = X by rw [hx], show (sumD T).m = Y by rw [hy], show (sumD S).neg = decide (S < 0) by rw [hx], show (sumD T).neg = decide (T < 0) by rw [hy]]
  generalize X * 2 ^ (a - c) = p at *
  generalize Y * 2 ^ (b - c) = q at *
  have lp := scaled_len hp hsl
  have lq := scaled_len hq htl
  rw [if_neg (by omega)]
  have hc2 := Nat.two_pow_pos c
  by_cases hs : decide (S < 0) = decide (T < 0)
  · rw [if_pos hs, ← formD_scale (k := c) (f := -2148) (by omega), Nat.add_mul, ← hp, ← hq]
    have hiff : S < 0 ↔ T < 0 := by simpa using hs
    have e : S.natAbs + T.natAbs = (S + T).natAbs := by omega
    rw [e]
    exact sumD_some hST fun _ => decide_eq_decide.2 (by omega)
  · have hiff : ¬ (S < 0 ↔ T < 0) := fun q => hs (decide_eq_decide.2 q)
    rw [if_neg hs]
    by_cases hlt : p < q
    · have hl2 : S.natAbs < T.natAbs := by rw [hp, hq]; exact Nat.mul_lt_mul_of_pos_right hlt hc2
      rw [if_pos hlt, ← formD_scale (k := c) (f := -2148) (by omega), Nat.sub_mul, ← hp, ← hq, show T.natAbs - S.natAbs = (S + T).natAbs by omega]
      exact sumD_some hST fun _ => decide_eq_decide.2 (by omega)
    · have hl2 : T.natAbs ≤ S.natAbs := by rw [hp, hq]; exact Nat.mul_le_mul_right _ (by omega)
      rw [if_neg hlt, ← formD_scale (k := c) (f := -2148) (by omega), Nat.sub_mul, ← hp, ← hq, show S.natAbs - T.natAbs = (S + T).natAbs by omega]
      exact sumD_some hST fun hne => decide_eq_decide.2 (by omega)
theorem kind_cls {x : Nat} : kindP x ≤ 2 ↔ (splitP x).cls ≤ 2 := by
  unfold kindP splitP
  by_cases a : x / 4503599627370496 % 2048 = 2047 ∧ x % 4503599627370496 ≠ 0
  · rw [if_pos a]; simp
  · rw [if_neg a]
    by_cases b : x / 4503599627370496 % 2048 = 2047
    · rw [if_pos b]; by_cases d : x / 9223372036854775808 % 2 = 1 <;> simp [d]
    · rw [if_neg b]
      by_cases d : 0 < x / 4503599627370496 % 2048
      · rw [if_pos d]; simp
      · rw [if_neg d]
        by_cases f : 0 < x % 4503599627370496
        · rw [if_pos f]; simp
        · rw [if_neg f]; by_cases g : x / 9223372036854775808 % 2 = 1 <;> simp [g]
theorem fvI_in (x : Nat) : InB (fvI x) := by
  have h := sumI_in (l := [x]) (by simp)
  have : sumI [x] = fvI x := by simp [sumI]
  rw [this] at h; exact h
theorem rfvI_abs (x : Nat) : (fvI x).natAbs = fvN x := by unfold fvI; split <;> omega
theorem fvI_zero {x : Nat} (h : ¬ ((splitP x).cls = 1 ∨ (splitP x).cls = 2)) : fvI x = 0 := by
  unfold fvI fvN; rw [if_neg h]; split <;> rfl
end

/- Numbers as the machine's: a number less itself; which are finite. No condition. -/
section
open Go Sx Wd

theorem cls_le2 (x : Nat) : (splitP x).cls ≤ 2 ↔ x % 9223372036854775808 < 9218868437227405312 := by
  have e : x % 9223372036854775808 < 9218868437227405312 ↔ x / 4503599627370496 % 2048 ≠ 2047 := by omega
  rw [e]
  unfold splitP
  split
  · rename_i h; simp; exact h.1
  · split
    · rename_i h1 h; simp; exact h
    · split
      · rename_i h2 h1 h; simp; exact h1
      · split
        · rename_i h2 h1 h; simp; exact h2
        · rename_i h2 h1 h; simp; exact h2
section
variable {P : Program} {n : Nat} {D : List Deferred} {s : Sl} {w : World} {ops : Array Oper} {K : KK} {rest : List Oper} {ty : TypeId} {pos : String} {af : Array Edge} {d : Nat} {x y : Operand}
end
end

/- Package mean: finite. No condition. -/
section
open Go Sx Wd
set_option exponentiation.threshold 5000

def finL (l : List Nat) : Prop := ∀ x ∈ l, (splitP x).cls ≤ 2
instance (l : List Nat) : Decidable (finL l) := by unfold finL; exact inferInstance
end

/- Package mean: Weighted. No condition. -/
section
open Go Sx Wd
set_option exponentiation.threshold 5000

theorem sumD_zero : sumD 0 = Dy.zero := rfl
theorem sumD_form {S : Int} (h1 : -((16384 * BB : Nat) : Int) < S) (h2 : S < (16384 * BB : Nat)) (h0 : S ≠ 0) : sumD S = ⟨decide (S < 0), S.natAbs / 2 ^ tz S.natAbs, -2148 + tz S.natAbs⟩ := by
  unfold sumD
  rw [sumD_eq h1 h2, if_neg h0]; rfl
theorem sumD_m0 {S : Int} (h1 : -((16384 * BB : Nat) : Int) < S) (h2 : S < (16384 * BB : Nat)) : (sumD S).m = 0 ↔ S = 0 := by
  constructor
  · intro h
    apply Classical.byContradiction
    intro h0
    rw [sumD_form h1 h2 h0] at h
    have := (tz_spec (n := S.natAbs) (by omega)).1
    simp only at h
    rw [h] at this; cases this
  · intro h; rw [h]; rfl
theorem sumD_sg {S : Int} (h1 : -((16384 * BB : Nat) : Int) < S) (h2 : S < (16384 * BB : Nat)) : sgD (sumD S).neg (sumD S).m = if S < 0 then -1 else if S = 0 then 0 else 1 := by
  by_cases h0 : S = 0
  · subst h0; rfl
  · have hm : (sumD S).m ≠ 0 := fun e => h0 ((sumD_m0 h1 h2).1 e)
    unfold sgD
    rw [if_neg hm, sumD_form h1 h2 h0]
    by_cases h : S < 0
    · simp [h]
    · simp [h, h0]
end

/- Products and signs of forms, as whole numbers of the lowest unit. No condition. -/
section
open Go Sx Wd
set_option exponentiation.threshold 5000

theorem sumD_up {S : Int} (h : InB S) (h0 : S ≠ 0) : ∃ a : Nat, S.natAbs = (sumD S).m * 2 ^ a ∧ (sumD S).e = -2148 + (a : Int) ∧ (sumD S).neg = decide (S < 0) := by
  obtain ⟨-, ha⟩ := tz_spec (n := S.natAbs) (by omega)
  have hx := sumD_val h h0
  exact ⟨tz S.natAbs, by rw [hx]; exact ha, by rw [hx], by rw [hx]⟩
theorem thv_in {x y : Nat} (hx : (splitP x).cls ≤ 2) (hy : (splitP y).cls ≤ 2) : InB (thv (prodP x y)) := by
  have h := thv_prod_lt hx hy
  have h2 : 2 ^ 4196 < 16384 * BB := by rw [BB_pow]; exact Nat.pow_lt_pow_right (by decide) (by decide)
  unfold InB
  generalize 16384 * BB = M at *
  generalize 2 ^ 4196 = N at *
  omega
theorem mulD_sum {x y : Nat} (hx : (splitP x).cls ≤ 2) (hy : (splitP y).cls ≤ 2) : mulD (sumD (fvI x)) (sumD (fvI y)) = some (sumD (thv (prodP x y))) := by
  have hp := thv_prod hx hy
  have hZ := thv_in hx hy
  have hX := fvI_in x
  have hY := fvI_in y
  generalize thv (prodP x y) = Z at *
  generalize fvI x = S at *
  generalize fvI y = T at *
  have hokX := rsumD_ok hX
  have hokY := rsumD_ok hY
  rw [← mulD_form hokX hokY]
  have hq : (2 : Nat) ^ 2148 ≠ 0 := Nat.ne_of_gt (Nat.two_pow_pos _)
  by_cases h0 : S = 0
  · subst h0
    have : Z = 0 := by
      rw [Int.zero_mul] at hp
      rcases Int.mul_eq_zero.1 hp with q | q
      · exact q
      · exact absurd (by exact_mod_cast q) hq
    subst this
    rw [show (sumD 0).m = 0 from rfl, Nat.zero_mul, formD_zero]; rfl
  by_cases h1 : T = 0
  · subst h1
    have : Z = 0 := by
      rw [Int.mul_zero] at hp
      rcases Int.mul_eq_zero.1 hp with q | q
      · exact q
      · exact absurd (by exact_mod_cast q) hq
    subst this
    rw [show (sumD 0).m = 0 from rfl, Nat.mul_zero, formD_zero]; rfl
  obtain ⟨a, a1, a2, a3⟩ := sumD_up hX h0
  obtain ⟨b, b1, b2, b3⟩ := sumD_up hY h1
  have hXm : (sumD S).m ≠ 0 := fun q => h0 ((rsumD_m0 hX).1 q)
  have hYm : (sumD T).m ≠ 0 := fun q => h1 ((rsumD_m0 hY).1 q)
  have hodd : ((sumD S).m * (sumD T).m) % 2 = 1 := by rw [Nat.mul_mod, hokX.odd hXm, hokY.odd hYm]
  have hZ0 : Z ≠ 0 := fun q => by
    rw [q, Int.zero_mul] at hp
    rcases Int.mul_eq_zero.1 hp.symm with q | q
    · exact h0 q
    · exact h1 q
  have habs : Z.natAbs * 2 ^ 2148 = (sumD S).m * (sumD T).m * 2 ^ (a + b) := by
    have := congrArg Int.natAbs hp
    rw [Int.natAbs_mul, Int.natAbs_mul, Int.natAbs_natCast] at this
    rw [this, a1, b1, Nat.pow_add]
    simp only [Nat.mul_comm, Nat.mul_left_comm, Nat.mul_assoc]
  have ht1 := tz_scale (m := Z.natAbs) (by omega) 2148
  rw [habs, tz_mul _ _ hodd] at ht1
  obtain ⟨k, hk⟩ : ∃ k, k = tz Z.natAbs := ⟨_, rfl⟩
  rw [← hk] at ht1
  have hval : Z.natAbs = (sumD S).m * (sumD T).m * 2 ^ k := by
    rw [ht1, Nat.pow_add, ← Nat.mul_assoc] at habs
    exact Nat.eq_of_mul_eq_mul_right (Nat.two_pow_pos _) habs
  rw [← formD_scale (k := k) (f := -2148) (by omega), ← hval, a3, b3]
  refine sumD_some hZ fun _ => ?_
  have hs : (Z < 0) ↔ ¬ (S < 0 ↔ T < 0) := by
    have hpos : (0 : Int) < ((2 ^ 2148 : Nat) : Int) := by exact_mod_cast Nat.two_pow_pos _
    constructor
    · intro hz hiff
      have hneg : Z * ((2 ^ 2148 : Nat) : Int) < 0 := Int.mul_neg_of_neg_of_pos hz hpos
      rw [hp] at hneg
      by_cases hsn : S < 0
      · have := Int.mul_pos_of_neg_of_neg hsn (hiff.1 hsn); omega
      · have := Int.mul_nonneg (show 0 ≤ S by omega) (show 0 ≤ T by have := fun q => hsn (hiff.2 q); omega); omega
    · intro hn
      apply Classical.byContradiction
      intro hz
      have hge : 0 ≤ Z * ((2 ^ 2148 : Nat) : Int) := Int.mul_nonneg (by omega) (by omega)
      rw [hp] at hge
      by_cases hsn : S < 0
      · have htp : 0 < T := by
          have : ¬ T < 0 := fun q => hn ⟨fun _ => q, fun _ => hsn⟩
          omega
        have := Int.mul_neg_of_neg_of_pos hsn htp; omega
      · have htn : T < 0 := Classical.byContradiction fun q => hn ⟨fun z => absurd z hsn, fun z => absurd z q⟩
        have := Int.mul_neg_of_pos_of_neg (show 0 < S by omega) htn; omega
  by_cases hsn : S < 0 <;> by_cases htn : T < 0
  · rw [decide_eq_true hsn, decide_eq_true htn, decide_eq_false (fun q => hs.1 q ⟨fun _ => htn, fun _ => hsn⟩)]; rfl
  · rw [decide_eq_true hsn, decide_eq_false htn, decide_eq_true (hs.2 fun q => htn (q.1 hsn))]; rfl
  · rw [decide_eq_false hsn, decide_eq_true htn, decide_eq_true (hs.2 fun q => hsn (q.2 htn))]; rfl
  · rw [decide_eq_false hsn, decide_eq_false htn, decide_eq_false (fun q => hs.1 q ⟨fun z => absurd z hsn, fun z => absurd z htn⟩)]; rfl
end

/- Package mean: Middle, Of. No condition. -/
section
open Go Sx Wd
set_option exponentiation.threshold 5000

theorem NF.of_row {w : World} {a : Option Addr} {l : List Nat} {k c : Nat} (h : RW w a (l.map f64v)) (hw : ∀ x ∈ l, x < 18446744073709551616) (hl : l.length ≤ 70368744177664) (hk : k = l.length) (hc : k ≤ c) : NF w (.slice a k c) l := by
  subst hk
  exact ⟨⟨a, c, rfl, hc, h⟩, hw, hl⟩
end

/- Means as plain numbers: what told and Weighted come to; the values that the statements ask. No condition. -/
section
open Go Sx Wd
set_option exponentiation.threshold 9000

theorem intD_form {n : Nat} (h0 : n ≠ 0) (hn : n < 18446744073709551616) : ∃ t : Nat, n = (intD (n : Int)).m * 2 ^ t ∧ (intD (n : Int)).e = t ∧ (intD (n : Int)).neg = false := by
  have h := intD_eq (n := (n : Int)) (by omega)
  rw [show decide ((n : Int) < 0) = false from decide_eq_false (by omega), Int.natAbs_natCast] at h
  obtain ⟨t, h1, h2, h3⟩ := formD_val h h0
  exact ⟨t, h1, by omega, h3⟩
/-- The exact sum S (in units of 2^-2148) through n, rounded. -/
def MeanQ (S : Int) (n : Nat) (mode : Int) (bits : Nat) : Prop :=
  ∃ r, IsNear S.natAbs (n * 2 ^ 1073) (decide (S < 0)) mode r ∧ r ≤ 9218868437227405312 ∧ bits = (if S < 0 then r + 9223372036854775808 else r)
end

/- The order of finite numbers, by their values; the least and the greatest of two. No condition. -/
section
open Go Sx Wd
set_option exponentiation.threshold 9000
set_option maxRecDepth 4000

theorem signed_val (s : Bool) (m k : Nat) : Ieee.signed s m k = if s then -((m * 2 ^ k : Nat) : Int) else ((m * 2 ^ k : Nat) : Int) := by
  unfold Ieee.signed
  rw [Nat.shiftLeft_eq]
theorem splitP_small {x : Nat} (h1 : x % 9223372036854775808 < 4503599627370496) : splitP x = if 0 < x % 4503599627370496 then ⟨decide (x / 9223372036854775808 % 2 = 1), 1, -1074, x % 4503599627370496⟩ else ⟨decide (x / 9223372036854775808 % 2 = 1), 0, -1074, 0⟩ := by
  have e : x / 4503599627370496 % 2048 = 0 := by omega
  unfold splitP
  rw [e, if_neg (fun hh => absurd hh.1 (by decide)), if_neg (by decide), if_neg (by decide)]
theorem splitP_norm {x : Nat} (h1 : ¬ x % 9223372036854775808 < 4503599627370496) (h2 : x % 9223372036854775808 < 9218868437227405312) : splitP x = ⟨decide (x / 9223372036854775808 % 2 = 1), 2, -1074 + ((x / 4503599627370496 % 2048 : Nat) : Int) - 1, x % 4503599627370496 + 4503599627370496⟩ := by
  have e : x / 4503599627370496 % 2048 ≠ 2047 := by omega
  have e2 : 0 < x / 4503599627370496 % 2048 := by omega
  unfold splitP
  rw [if_neg (fun hh => e hh.1), if_neg e, if_pos e2]
theorem read_fin {x : Nat} (h : (splitP x).cls ≤ 2) : ∃ (m p : Nat), Ieee.double.read x = .number (x / 9223372036854775808 % 2 == 1) m ((p : Int) - 1074) ∧ fvN x = m * 2 ^ (p + 1074) ∧ nz (x % 9223372036854775808) = m * 2 ^ p ∧ (splitP x).neg = decide (x / 9223372036854775808 % 2 = 1) := by
  have hr := (cls_le2 x).1 h
  have hlp : Ieee.double.leastPlace = -1074 := by decide
  unfold Ieee.Format.read
  simp only [Fl.double_sign, Fl.double_inf, Fl.double_bin, hlp]
  by_cases h1 : x % 9223372036854775808 < 4503599627370496
  · rw [if_pos h1]
    have hs := splitP_small h1
    refine ⟨x % 9223372036854775808, 0, rfl, ?_, ?_, ?_⟩
    · unfold fvN
      rw [hs]
      by_cases h2 : 0 < x % 4503599627370496
      · rw [if_pos h2]
        dsimp only
        rw [if_pos (.inl rfl), show x % 9223372036854775808 = x % 4503599627370496 by omega]
        rfl
      · rw [if_neg h2]
        dsimp only
        rw [if_neg (by decide), show x % 9223372036854775808 = 0 by omega, Nat.zero_mul]
    · unfold nz; rw [if_pos h1]; simp
    · rw [hs]; split <;> rfl
  · rw [if_neg h1, if_pos hr]
    have hs := splitP_norm h1 hr
    refine ⟨4503599627370496 + x % 9223372036854775808 % 4503599627370496, x % 9223372036854775808 / 4503599627370496 - 1, ?_, ?_, ?_, ?_⟩
    · rw [show (-1074 : Int) + ((x % 9223372036854775808 / 4503599627370496 - 1 : Nat) : Int) = ((x % 9223372036854775808 / 4503599627370496 - 1 : Nat) : Int) - 1074 by omega]
    · unfold fvN
      rw [hs]
      dsimp only
      rw [if_pos (.inr rfl), show x % 4503599627370496 + 4503599627370496 = 4503599627370496 + x % 9223372036854775808 % 4503599627370496 by omega, show (-1074 + ((x / 4503599627370496 % 2048 : Nat) : Int) - 1 + 2148).toNat = x % 9223372036854775808 / 4503599627370496 - 1 + 1074 by omega]
    · unfold nz; rw [if_neg h1]
    · rw [hs]
theorem fvN_nz {x : Nat} (h : (splitP x).cls ≤ 2) : fvN x = nz (x % 9223372036854775808) * 2 ^ 1074 := by
  obtain ⟨m, p, _, h2, h3, _⟩ := read_fin h
  rw [h2, h3, Nat.pow_add, Nat.mul_assoc]
theorem fvI_nz {x : Nat} (h : (splitP x).cls ≤ 2) (hx : x < 18446744073709551616) : fvI x = if 9223372036854775808 ≤ x then -((nz (x % 9223372036854775808) * 2 ^ 1074 : Nat) : Int) else ((nz (x % 9223372036854775808) * 2 ^ 1074 : Nat) : Int) := by
  obtain ⟨m, p, _, _, _, h4⟩ := read_fin h
  unfold fvI
  rw [h4, fvN_nz h]
  by_cases q : 9223372036854775808 ≤ x
  · rw [if_pos (by simp; omega), if_pos q]
  · rw [if_neg (by simp; omega), if_neg q]
theorem cmp_scale {a b c : Int} (hc : 0 < c) : compare (a * c) (b * c) = compare a b := by
  show compareOfLessAndEq (a * c) (b * c) = compareOfLessAndEq a b
  unfold compareOfLessAndEq
  have h1 : a * c < b * c ↔ a < b := Int.mul_lt_mul_right hc
  have h2 : a * c = b * c ↔ a = b := ⟨fun h => Int.eq_of_mul_eq_mul_right (by omega) h, fun h => by rw [h]⟩
  by_cases q : a < b
  · rw [if_pos q, if_pos (h1.2 q)]
  · rw [if_neg q, if_neg (fun hh => q (h1.1 hh))]
    by_cases q2 : a = b
    · rw [if_pos q2, if_pos (h2.2 q2)]
    · rw [if_neg q2, if_neg (fun hh => q2 (h2.1 hh))]
theorem order_fin {x y : Nat} (hx : (splitP x).cls ≤ 2) (hy : (splitP y).cls ≤ 2) : FloatKind.f64.format.order x y = some (compare (fvI x) (fvI y)) := by
  obtain ⟨m, p, h1, h2, _, h4⟩ := read_fin hx
  obtain ⟨n, q, k1, k2, _, k4⟩ := read_fin hy
  show (Ieee.double.read x).order (Ieee.double.read y) = _
  rw [h1, k1]
  unfold Ieee.Datum.order
  dsimp only
  obtain ⟨b, hb⟩ : ∃ b : Nat, b = min p q := ⟨_, rfl⟩
  have e1 : ((p : Int) - 1074 - min ((p : Int) - 1074) ((q : Int) - 1074)).toNat = p - b := by omega
  have e2 : ((q : Int) - 1074 - min ((p : Int) - 1074) ((q : Int) - 1074)).toNat = q - b := by omega
  rw [e1, e2]
  have hc : (0 : Int) < ((2 ^ (b + 1074) : Nat) : Int) := by have := Nat.two_pow_pos (b + 1074); omega
  rw [← cmp_scale (a := Ieee.signed _ m _) (b := Ieee.signed _ n _) hc]
  have key : ∀ (s : Bool) (m p : Nat), b ≤ p → Ieee.signed s m (p - b) * ((2 ^ (b + 1074) : Nat) : Int) = if s = true then -((m * 2 ^ (p + 1074) : Nat) : Int) else ((m * 2 ^ (p + 1074) : Nat) : Int) := by
    intro s m p hbp
    have e : m * 2 ^ (p + 1074) = m * 2 ^ (p - b) * 2 ^ (b + 1074) := by
      rw [Nat.mul_assoc, ← Nat.pow_add]; congr 2; omega
    rw [signed_val, e]
    cases s
    · simp only [Bool.false_eq_true, if_false]; rw [← Int.natCast_mul]
    · simp only [if_true]; rw [Int.neg_mul, ← Int.natCast_mul]
  rw [key _ _ _ (by omega), key _ _ _ (by omega)]
  unfold fvI
  rw [h2, k2, h4, k4]
  have e5 : ∀ z : Nat, ((z / 9223372036854775808 % 2 == 1) = true) ↔ (decide (z / 9223372036854775808 % 2 = 1) = true) := fun z => by simp
  simp only [e5]
theorem icmp (a b : Int) : compare a b = if a < b then .lt else if a = b then .eq else .gt := rfl
theorem icmp_gt (a b : Int) : compare a b = .gt ↔ b < a := by
  rw [icmp]
  by_cases q : a < b
  · rw [if_pos q]; constructor
    · intro h; cases h
    · intro h; omega
  · rw [if_neg q]
    by_cases q2 : a = b
    · rw [if_pos q2]; constructor
      · intro h; cases h
      · intro h; omega
    · rw [if_neg q2]; constructor
      · intro h; omega
      · intro h; rfl
theorem fcmp_gt (a b : Int) : (some (compare a b) == some Ordering.gt) = decide (b < a) := by
  rw [Bool.eq_iff_iff]; simp [icmp_gt]
section
variable {P : Program} {s : Sl} {w : World} {ty : TypeId} {x y : Operand} {t t' : TypeId} {a b : Nat}
end
end

/- Means of finite numbers: from the least to the greatest; of like numbers; signs turned. No condition. -/
section
open Go Sx Wd
set_option exponentiation.threshold 9000

theorem fin_mod {x : Nat} (h : (splitP x).cls ≤ 2) : x % 9223372036854775808 < 9218868437227405312 := (cls_le2 x).1 h
theorem fin_of {r : Nat} (h : r < 9218868437227405312) : (splitP r).cls ≤ 2 ∧ (splitP (r + 9223372036854775808)).cls ≤ 2 := ⟨(cls_le2 r).2 (by omega), (cls_le2 _).2 (by omega)⟩
theorem fv_pos {r : Nat} (h : r < 9218868437227405312) : fvI r = (nz r * 2 ^ 1074 : Nat) := by
  rw [fvI_nz (fin_of h).1 (by omega), if_neg (by omega), Nat.mod_eq_of_lt (by omega)]
theorem nz_zero {k : Nat} : nz k = 0 ↔ k = 0 := by
  constructor
  · intro h
    apply Classical.byContradiction
    intro h0
    have := nz_mono (show 0 < k by omega)
    omega
  · intro h; rw [h]; decide
end

/- The nearest number to a value; forms of sums, put against one another. No condition. -/
section
open Go Sx Wd
set_option exponentiation.threshold 9000

/-! ### Forms of sums -/
theorem mulD_int {S : Int} {n : Nat} (h : InB S) (hn : n ≠ 0) (hn2 : n < 18446744073709551616) (hP : InB (S * (n : Int))) : mulD (sumD S) (intD (n : Int)) = some (sumD (S * (n : Int))) := by
  have hok := rsumD_ok h
  have hok2 := intD_ok (n := (n : Int)) (by omega)
  rw [← mulD_form hok hok2]
  obtain ⟨t, q1, q2, q3⟩ := intD_form hn hn2
  by_cases h0 : S = 0
  · subst h0
    rw [show (sumD 0).m = 0 from rfl, Nat.zero_mul, formD_zero, Int.zero_mul]; rfl
  · obtain ⟨a, h1, h2, h3⟩ := sumD_up h h0
    have hS : S * (n : Int) ≠ 0 := by
      intro q
      rcases Int.mul_eq_zero.1 q with q | q
      · exact h0 q
      · omega
    have hv : (S * (n : Int)).natAbs = (sumD S).m * (intD (n : Int)).m * 2 ^ (a + t) := by
      rw [Int.natAbs_mul, Int.natAbs_natCast, h1, Nat.pow_add]
      calc (sumD S).m * 2 ^ a * n = (sumD S).m * 2 ^ a * ((intD (n : Int)).m * 2 ^ t) := by rw [← q1]
        _ = _ := by simp only [Nat.mul_comm, Nat.mul_left_comm, Nat.mul_assoc]
    rw [← formD_scale (k := a + t) (f := -2148) (by omega), ← hv, h3, q3]
    refine sumD_some hP fun _ => ?_
    have : (S * (n : Int) < 0) ↔ S < 0 := by
      constructor
      · intro q
        apply Int.lt_of_not_ge; intro q2
        have := Int.mul_nonneg q2 (show (0 : Int) ≤ n by omega)
        omega
      · intro q; exact Int.mul_neg_of_neg_of_pos q (by omega)
    rw [Bool.bne_false]
    exact decide_eq_decide.2 this.symm
theorem splitP_exp {x : Nat} (h : (splitP x).cls = 1 ∨ (splitP x).cls = 2) : -1074 ≤ (splitP x).exp := by
  unfold splitP at h ⊢
  by_cases a : x / 4503599627370496 % 2048 = 2047 ∧ x % 4503599627370496 ≠ 0
  · rw [if_pos a] at h; simp at h
  · rw [if_neg a] at h ⊢
    by_cases b : x / 4503599627370496 % 2048 = 2047
    · rw [if_pos b] at h; simp at h
    · rw [if_neg b] at h ⊢
      by_cases d : 0 < x / 4503599627370496 % 2048
      · rw [if_pos d] at h ⊢; dsimp only; omega
      · rw [if_neg d] at h ⊢
        by_cases f : 0 < x % 4503599627370496
        · rw [if_pos f]; simp
        · rw [if_neg f]; simp
theorem fin_form {x : Nat} (h : (splitP x).cls = 1 ∨ (splitP x).cls = 2) : formD (splitP x).neg (splitP x).frac (splitP x).exp = some (sumD (fvI x)) := by
  have he := splitP_exp h
  rw [← formD_scale (k := ((splitP x).exp + 2148).toNat) (f := -2148) (by omega)]
  have e1 : fvN x = (splitP x).frac * 2 ^ ((splitP x).exp + 2148).toNat := by unfold fvN; rw [if_pos h]
  rw [← e1, ← rfvI_abs]
  refine sumD_some (fvI_in x) fun hn => ?_
  unfold fvI at hn ⊢
  cases hg : (splitP x).neg
  · rw [if_neg (by decide)]; exact (decide_eq_false (by omega)).symm
  · rw [hg, if_pos rfl] at hn
    rw [if_pos rfl]; exact (decide_eq_true (by omega)).symm
theorem bl_sgn {x y : Nat} : (bl x < bl y → sgn x y = -1) ∧ (bl y < bl x → sgn x y = 1) := by
  constructor
  · intro h
    have h1 := bl_lt x
    have h2 := lt_bl.1 (show bl y - 1 < bl y by omega)
    have h3 := Nat.pow_le_pow_right (n := 2) (by decide) (show bl x ≤ bl y - 1 by omega)
    unfold sgn; rw [if_pos (by omega)]
  · intro h
    have h1 := bl_lt y
    have h2 := lt_bl.1 (show bl x - 1 < bl x by omega)
    have h3 := Nat.pow_le_pow_right (n := 2) (by decide) (show bl y ≤ bl x - 1 by omega)
    unfold sgn; rw [if_neg (by omega), if_pos (by omega)]
theorem sgn_swap (a b : Nat) : -sgn a b = sgn b a := by
  unfold sgn
  split <;> split <;> (try split) <;> omega
/-- Two forms' order. -/
def cmpV (m : Nat) (e : Int) (n : Nat) (f : Int) : Int := sgn (m * 2 ^ (e - min e f).toNat) (n * 2 ^ (f - min e f).toNat)
def cmpD (na : Bool) (m : Nat) (e : Int) (nb : Bool) (n : Nat) (f : Int) : Int :=
  if sgD na m < sgD nb n then -1 else if sgD nb n < sgD na m then 1 else if sgD na m = 0 then 0 else sgD na m * cmpV m e n f
theorem cmpV_sum {S T : Int} (hS : InB S) (hT : InB T) (h0 : S ≠ 0) (h1 : T ≠ 0) : cmpV (sumD S).m (sumD S).e (sumD T).m (sumD T).e = sgn S.natAbs T.natAbs := by
  obtain ⟨a, a1, a2, _⟩ := sumD_up hS h0
  obtain ⟨b, b1, b2, _⟩ := sumD_up hT h1
  unfold cmpV
  obtain ⟨c, hc⟩ : ∃ c, c = min a b := ⟨_, rfl⟩
  have he : min (sumD S).e (sumD T).e = -2148 + (c : Int) := by omega
  rw [he, show ((sumD S).e - (-2148 + (c : Int))).toNat = a - c by omega, show ((sumD T).e - (-2148 + (c : Int))).toNat = b - c by omega]
  have hp : S.natAbs = (sumD S).m * 2 ^ (a - c) * 2 ^ c := by rw [Nat.mul_assoc, ← Nat.pow_add, show a - c + c = a by omega]; exact a1
  have hq : T.natAbs = (sumD T).m * 2 ^ (b - c) * 2 ^ c := by rw [Nat.mul_assoc, ← Nat.pow_add, show b - c + c = b by omega]; exact b1
  rw [hp, hq]
  generalize (sumD S).m * 2 ^ (a - c) = p
  generalize (sumD T).m * 2 ^ (b - c) = q
  have hc2 := Nat.two_pow_pos c
  unfold sgn
  have k1 : p * 2 ^ c < q * 2 ^ c ↔ p < q := ⟨fun h => Nat.lt_of_mul_lt_mul_right h, fun h => Nat.mul_lt_mul_of_pos_right h hc2⟩
  have k2 : q * 2 ^ c < p * 2 ^ c ↔ q < p := ⟨fun h => Nat.lt_of_mul_lt_mul_right h, fun h => Nat.mul_lt_mul_of_pos_right h hc2⟩
  simp only [k1, k2]
theorem cmpD_sum {S T : Int} (hS : InB S) (hT : InB T) : cmpD (sumD S).neg (sumD S).m (sumD S).e (sumD T).neg (sumD T).m (sumD T).e = if S < T then -1 else if T < S then 1 else 0 := by
  have s1 := sumD_sg hS.1 hS.2
  have s2 := sumD_sg hT.1 hT.2
  unfold cmpD
  rw [s1, s2]
  by_cases h0 : S = 0
  · subst h0
    by_cases h1 : T = 0
    · subst h1; rfl
    · by_cases h2 : T < 0
      · simp [h2]; omega
      · simp [h1, h2]; omega
  · by_cases h1 : T = 0
    · subst h1
      by_cases h2 : S < 0
      · simp [h2]
      · simp [h0, h2]; omega
    · have hv := cmpV_sum hS hT h0 h1
      rw [hv]
      unfold sgn
      by_cases h2 : S < 0 <;> by_cases h3 : T < 0
      · simp only [h2, h3, if_true]
        simp only [show ¬ ((-1 : Int) < -1) by omega, show ¬ ((-1 : Int) = 0) by omega, if_false]
        by_cases q1 : S < T
        · rw [if_pos q1, if_neg (by omega), if_pos (by omega)]; decide
        · rw [if_neg q1]
          by_cases q2 : T < S
          · rw [if_pos q2, if_pos (by omega)]; decide
          · rw [if_neg q2, if_neg (by omega), if_neg (by omega)]; decide
      · simp only [h2, h3, h1, if_true, if_false]
        rw [if_pos (by decide), if_pos (by omega)]
      · simp only [h2, h3, h0, if_true, if_false]
        rw [if_neg (by decide), if_pos (by decide), if_neg (by omega), if_pos (by omega)]
      · simp only [h2, h3, h0, h1, if_false]
        simp only [show ¬ ((1 : Int) < 1) by omega, show ¬ ((1 : Int) = 0) by omega, if_false]
        by_cases q1 : S < T
        · rw [if_pos q1, if_pos (by omega)]; decide
        · rw [if_neg q1]
          by_cases q2 : T < S
          · rw [if_pos q2, if_neg (by omega), if_pos (by omega)]; decide
          · rw [if_neg q2, if_neg (by omega), if_neg (by omega)]; decide
end

end Go.Proofs.YtnbipejaidbihaaGreatDoor